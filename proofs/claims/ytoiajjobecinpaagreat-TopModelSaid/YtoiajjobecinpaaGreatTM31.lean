/- The document's own queue: another weight: Weigh. The document's own queue: what is taken out: Leave. -/
import Derived.Test.YtoiajjobecinpaaGreatTM28
set_option maxHeartbeats 4000000
set_option maxRecDepth 100000
namespace Go.Proofs.YtoiajjobecinpaaGreat
open Go.RowKit Go.Shelf Go.Lib Go.Proofs
set_option linter.unusedVariables false
set_option linter.unusedSimpArgs false
section
attribute [local go_sem] Oper.semAt_some
theorem wh {W:World} {B g n c size j:Nat} {T:TypeId} {xs:List Value} {u:Value} (h:W.ownsRow B T size (.slice (some ⟨g,0,none⟩) n c) n xs) (hj:j<xs.length):(W.setCell ⟨g,j,none⟩ u).ownsRow B T size (.slice (some ⟨g,0,none⟩) n c) n (xs.set j u):=by
 rcases h.2 with⟨e,_⟩ | ⟨g',cap',cur,e,hb,la,hn,hm,mH,ht⟩
 · cases e
 · simp only[Value.slice.injEq,Option.some.injEq,Addr.mk.injEq] at e;obtain⟨⟨rfl,-⟩,-,rfl⟩:=e;refine⟨by simpa using h.1,.inr ⟨g,c,_,rfl,hb,yB la,hn,hm,by simpa using mH,?_⟩⟩;rw[Array.toList_setIfInBounds,<- ht];apply List.ext_getElem?
   intro i;simp only[List.getElem?_take,List.getElem?_set,List.length_take];by_cases hi:i<n*size
   · by_cases e:j=i
     · subst e;simp only[hi,if_true,Array.length_toList];by_cases hc:j<cur.size
       · rw[if_pos hc,if_pos (by omega)]
       · rw[if_neg hc,if_neg (by omega)]
     · simp[hi,e]
   · have:¬j<n*size->False:=by have:=h.1;omega
     simp[hi]
     intro e;omega
theorem d8:∀(ps:List Pt) (k f:Nat) (p p':Pt) (u:Value),ps[k]? = some p->f<4->p'.cells=p.cells.set f u->(zr ps).set (k*4+f) u=zr (ps.set k p')
 | [],k,f,p,p',u,h,_,_=>by cases h
 | q::l,0,f,p,p',u,h,hf,hp=>by
  obtain rfl:q=p:=by simpa using h
  have e:zr (q::l)=q.cells++zr l:=rfl;have e2:zr (p'::l)=p'.cells++zr l:=rfl;rw[List.set_cons_zero,e,e2,hp,Nat.zero_mul,Nat.zero_add,List.set_append_left _ _ (by simp[Pt.cells];omega)]
 | q::l,k+1,f,p,p',u,h,hf,hp=>by
  have ih:=d8 l k f p p' u (by simpa using h) hf hp;have e:zr (q::l)=q.cells++zr l:=rfl;have e2:zr (q::l.set k p')=q.cells++zr (l.set k p'):=rfl;have hl:q.cells.length=4:=by simp[Pt.cells]
  rw[List.set_cons_succ,e,e2,List.set_append_right _ _ (by rw[hl];omega),hl,show(k+1)*4+f-4=k*4+f by omega,ih]
theorem QuAt.setPt {W:World} {qb g n c:Nat} {tag:Int} {l:Ln} (h:QuAt W qb (.slice (some ⟨g,0,none⟩) n c) tag l) (k f:Nat) (p p':Pt) (u:Value) (hk:l.ps[k]? = some p) (hf:f<4) (hp:p'.cells=p.cells.set f u) :
 QuAt (W.setCell ⟨g,k*4+f,none⟩ u) qb (.slice (some ⟨g,0,none⟩) n c) tag ⟨l.base,l.cur,l.ps.set k p'⟩:=by
 have ay:qb≠g:=fun e=>h.ne (by rw[e];rfl);have i9:(W.setCell ⟨g,k*4+f,none⟩ u).heap[qb]? = W.heap[qb]?:=Below.heap_setCell _ _ _ _ ay;have h0:∀i,(W.setCell ⟨g,k*4+f,none⟩ u).cell? ⟨qb,i,none⟩=W.cell? ⟨qb,i,none⟩:=fun i=>World.cell?_of_block i9;have h1:∀i,(W.setCell ⟨g,k*4+f,none⟩ u).frozen? ⟨qb,i,none⟩=W.frozen? ⟨qb,i,none⟩:=fun i=>World.frozen?_of_block i9;have aw:=(List.getElem?_eq_some_iff.1 hk).1;have hr:=h.row;obtain⟨a',c',e,-⟩:=zH hr;simp only[Value.slice.injEq] at e;obtain⟨-,hn,-⟩:=e;subst hn;have aa:=wh (u:=u) (j:=k*4+f) hr (by rw[jA];omega);rw[d8 l.ps k f p p' u hk hf hp] at aa;exact⟨(h0 0).trans h.c0,(h0 1).trans h.c1,(h0 2).trans h.c2,(h0 3).trans h.c3,fun i=>(h1 i).trans (h.live i),by simpa using aa,h.ne⟩
theorem QuAt.free {W:World} {qb g n c:Nat} {tag:Int} {l:Ln} (h:QuAt W qb (.slice (some ⟨g,0,none⟩) n c) tag l) (i:Nat):W.frozen? ⟨g,i,none⟩=false:=by
 rcases h.row.2 with⟨e,_⟩ | ⟨g',cap',cur,e,hb,la,-⟩
 · cases e
 · simp only[Value.slice.injEq,Option.some.injEq,Addr.mk.injEq] at e;obtain⟨⟨rfl,-⟩,-⟩:=e;simp only[World.frozen?,la];simp
def VM (qb g k:Nat) (v:Value) (w d:Int) (W:World):Prop:=W.cell? ⟨qb,3,none⟩=some v/\W.cell? ⟨g,k*4+2,none⟩=some (I d)
def Jt (qb g k:Nat) (v:Value) (w d:Int) (W:World):Prop:=W.cell? ⟨qb,3,none⟩=some v/\W.cell? ⟨g,k*4+2,none⟩=some (I d)/\W.cell? ⟨g,k*4+1,none⟩=some (I w)
theorem Y9 (qb:Nat) (v:Value) (tag:Int) (l:Ln) (id w:Int) (W:World) (hq:QuAt W qb v tag l) (aT:l.ps.length<=64) (hd:∀p∈l.ps,IntKind.i64.wrap (p.v+4*zF w)=p.v+4*zF w) (hp:¬yh l.ps id<0) (hw:zQ w=true) :
 Calls Tryz.prog 75 #[.pointer (some ⟨qb,0,none⟩),I id,I w] W fun e w'=>e=.returned (I 0)/\QuAt w' qb v tag (yx l id w).2/\Touch (fun j=>j=qb\/v.ownBlock=some j) W w':=by
 have aE:=jl qb v tag l id W hq (by omega);have hg:=yM w W;rw[hw] at hg;obtain⟨k,aw,ij,iS⟩:∃(k:Nat) (hk:k<l.ps.length),yh l.ps id=(k:Int)/\l.ps[k].id=id:=by
  rcases zB l.ps id with⟨e,-⟩ | ⟨k,hk,e,e2,-⟩
  · exact absurd (by rw[e];decide) hp
  · exact⟨k,hk,e,e2⟩
 obtain⟨p,pn⟩:∃p,l.ps[k]? = some p:=⟨_,List.getElem?_eq_getElem aw⟩
 have tK:l.ps[k]'aw=p:=by rw[List.getElem?_eq_getElem aw] at pn;exact Option.some.inj pn
 have DG:(yx l id w).2=⟨yY l.base (l.ps.set k ⟨p.id,w,p.v,p.v+4*zF w⟩),l.cur,l.ps.set k ⟨p.id,w,p.v,p.v+4*zF w⟩⟩:=by
  unfold yx;rw[if_neg hp,if_pos hw,ij];simp[getElem!_pos l.ps k aw,tK,T8]
 rw[DG];rw[ij] at aE;have kd:=hd p (by rw[<- tK];exact List.getElem_mem aw);have ll:=fun W'=>f8 w W';obtain⟨st0,st1⟩:=xZ w;generalize zF w=st at ll kd st0 st1;have oX:=fun(W':World) (ps:List Pt) (hQ:QuAt W' qb v tag ⟨l.base,l.cur,ps⟩) (hn:ps.length<=1000)=>qC qb v tag ⟨l.base,l.cur,ps⟩ W' hQ hn;obtain⟨n,hn⟩:∃x,l.ps.length=x:=⟨_,rfl⟩
 obtain⟨a,c,hv,ae⟩:=hq.get;obtain⟨g,ha,g1,k0,k1,k2,k3⟩:=ae k p pn;subst ha hv;have c3:=hq.c3;rw[hn] at c3 hq oX;have fr:=hq.free;have ay:qb≠g:=fun e=>hq.ne (by rw[e];rfl);have pQ:=((hq.below (Below.refl _ _).drew).setPt k 1 p ⟨p.id,w,p.v,p.day⟩ (I w) pn (by omega) rfl).setPt k 3 ⟨p.id,w,p.v,p.day⟩ ⟨p.id,w,p.v,p.v+4*st⟩ (I (p.v+4*st)) (by simp[aw]) (by omega) rfl;rw[List.set_set] at pQ;have aS:k<n:=by omega
 have iY:(k:Int)<(n:Int):=by omega
 have aX:0<=(k:Int):=by omega
 have HG:=lH (oX _ _ pQ (by simp;omega));have HT:Hid (Touch (fun j=>j=qb\/Value.ownBlock (.slice (some ⟨g,0,none⟩) n c)=some j) W ((W.drew.setCell ⟨g,k*4+1,none⟩ (I w)).setCell ⟨g,k*4+3,none⟩ (I (p.v+4*st)))):=
  lH (((Touch.of_below (Below.refl _ _).drew).setCell (t:=none) (.inl (.inr rfl)) _).setCell (t:=none) (.inl (.inr rfl)) _)
 have HN:=lH hn;have f1:=fr (k*4+1);have f3:=fr (k*4+3);clear DG ij tK ae hp hw hd oX pQ hq hn fr pn iS;go_enter Tryz.func75,Tryz.ntmps75;go_wp2_with fail
 refine aE.mono ?_;rintro e w1 ⟨rfl,rfl⟩;go_wp2_with fail
 refine hg.mono ?_;rintro e w1 ⟨rfl,rfl⟩;go_wp2_with fail
 have lD:VM qb g k (.slice (some ⟨g,0,none⟩) n c) w p.v W.drew:=⟨c3,k2⟩
 refine zK (S:=VM qb g k (.slice (some ⟨g,0,none⟩) n c) w p.v) (T:=[27]) (by kernel_rfl) ?_;refine wT 0 ?_;refine wT 1 ?_;refine wT 2 ?_;refine wT 3 ?_;refine wT 4 ?_;refine wT 5 ?_;refine wT 6 ?_;refine wT 7 ?_;refine wT 8 ?_;refine wT 9 ?_;refine wT 10 ?_;refine wT 11 ?_;refine wT 12 ?_;refine wT 13 ?_;refine wT 14 ?_;refine wT 15 ?_;refine wT 16 ?_;refine wT 17 ?_;refine wT 18 ?_;refine wT 19 ?_;simp only[Act.put,aP,List.set];refine ze (i:=20) (by kernel_rfl) rfl (by kernel_rfl) ?_;intro K hK;go_simp
 go_at_call 133
 refine(ll _).mono ?_;rintro e w9 ⟨rfl,rfl⟩;refine hK _ _ lD ?_;clear hK;refine wT 21 ?_;refine wT 22 ?_;refine wT 23 ?_;simp only[Act.put,aP,List.set];refine ze (i:=24) (by kernel_rfl) rfl (by kernel_rfl) ?_;intro K hK;go_simp
 have aF:VM qb g k (.slice (some ⟨g,0,none⟩) n c) w p.v (W.drew.setCell ⟨g,k*4+1,none⟩ (I w)):=⟨by rw[za _ (by simp)];exact c3,by rw[za _ (by simp)];exact k2⟩
 refine hK _ _ aF ?_;clear hK;refine ze (i:=25) (by kernel_rfl) rfl (by kernel_rfl) ?_;intro K hK;go_simp
 refine hK _ _ aF ?_;clear hK;refine ze (i:=26) (by kernel_rfl) rfl (by kernel_rfl) ?_;intro K hK;go_simp
 refine hK _ _ aF ?_;clear hK;refine zk (i:=27) (by kernel_rfl) rfl (by kernel_rfl) ?_;intro K hK;have k3':(W.drew.setCell ⟨g,k*4+1,none⟩ (I w)).cell? ⟨g,k*4+3,none⟩=some (I p.day):=by rw[za _ (by simp)];exact k3
 have f3':(W.drew.setCell ⟨g,k*4+1,none⟩ (I w)).frozen? ⟨g,k*4+3,none⟩=false:=by rw[World.frozen?_setCell];exact f3
 go_simp
 refine hK _ _ ?_;clear hK k3' f3';refine zy (by kernel_rfl) ?_ _;clear aF lD c3 k2 k1 k3 f1 f3;go_wp2_with fail
 refine HG.out.mono ?_;rintro e w7 ⟨rfl,rg,ss⟩;have A7:=lH rg;have CF:=lH (HT.out.trans (uk.refl _ _) (ss.wider (G:=fun j=>j=qb\/Value.ownBlock (.slice (some ⟨g,0,none⟩) n c)=some j) (fun j hj=>.inl hj)));clear rg ss;go_wp2_with fail
 go_ret
 rw[HN.out];exact⟨rfl,A7.out,CF.out⟩
theorem QuAt.setCur {W:World} {qb:Nat} {v:Value} {tag:Int} {l:Ln} (h:QuAt W qb v tag l) (b:Int):QuAt (W.setCell ⟨qb,2,none⟩ (I b)) qb v tag ⟨l.base,b,l.ps⟩:=
 ⟨by rw[za _ (by simp)];exact h.c0,by rw[za _ (by simp)];exact h.c1,World.cell?_setCell_same _ _ _ h.c2,by rw[za _ (by simp)];exact h.c3,fun i=>by rw[World.frozen?_setCell];exact h.live i,
  zb h.row (fun k hk=>Below.heap_setCell _ _ _ _ (fun e=>h.ne (by subst e;exact hk))),h.ne⟩
theorem uH (qb:Nat) (v:Value) (tag:Int) (l:Ln) (id:Int) (W:World) (hq:QuAt W qb v tag l) (aT:l.ps.length<=64) (hw:∀p∈l.ps,IntKind.i64.wrap (l.base-p.v)=l.base-p.v) (hp:¬yh l.ps id<0) :
 Calls Tryz.prog 73 #[.pointer (some ⟨qb,0,none⟩),I id] W fun e w'=>e=.returned (.tuple #[I (zA l id).1,I 0])/\∃v',QuAt w' qb v' tag (zA l id).2.2/\Touch (fun j=>j=qb) W w'/\∀j,v'.ownBlock=some j->W.heap.size<=j:=by
 have aE:=jl qb v tag l id W hq (by omega);obtain⟨k,aw,ij,iS⟩:∃(k:Nat) (hk:k<l.ps.length),yh l.ps id=(k:Int)/\l.ps[k].id=id:=by
  rcases zB l.ps id with⟨e,-⟩ | ⟨k,hk,e,e2,-⟩
  · exact absurd (by rw[e];decide) hp
  · exact⟨k,hk,e,e2⟩
 have DG:zA l id=(l.base-(l.ps[k]'aw).v,0,⟨yY l.base (l.ps.eraseIdx k),if l.cur=id then -1 else l.cur,l.ps.eraseIdx k⟩):=by
  unfold zA;rw[if_neg hp,ij];simp[getElem!_pos l.ps k aw]
 rw[DG];rw[ij] at aE;obtain⟨p,pn⟩:∃p,l.ps[k]? = some p:=⟨_,List.getElem?_eq_getElem aw⟩
 have tK:l.ps[k]'aw=p:=by rw[List.getElem?_eq_getElem aw] at pn;exact Option.some.inj pn
 rw[tK];have kw:=hw p (by rw[<- tK];exact List.getElem_mem aw);have oX:=fun(W':World) (v':Value) (cu:Int) (ps:List Pt) (hQ:QuAt W' qb v' tag ⟨l.base,cu,ps⟩) (hn:ps.length<=1000)=>qC qb v' tag ⟨l.base,cu,ps⟩ W' hQ hn;obtain⟨n,hn⟩:∃x,l.ps.length=x:=⟨_,rfl⟩
 obtain⟨a,c,hv,ae⟩:=hq.get;have c1:=hq.c1;have c2:=hq.c2;have c3:=hq.c3;have aa:=hq.row;rw[hv,hn] at c3 aa;obtain⟨g,ha,g1,-,-,k2,-⟩:=ae k p pn;have AH:n<=c:=by
  rcases aa.2 with⟨e,-⟩ | ⟨g,cap,cur,e,-,-,AH,-⟩
  · simp only[Value.slice.injEq] at e;omega
  · simp only[Value.slice.injEq] at e;omega
 have aS:k<n:=by omega
 have iY:(k:Int)<(n:Int):=by omega
 have aX:0<=(k:Int):=by omega
 have sV:(k:Int)<=(c:Int):=by omega
 have iV:l.ps.eraseIdx k=l.ps.take k++l.ps.drop (k+1):=List.eraseIdx_eq_take_drop_succ _ _;rw[hn] at aT;obtain⟨cu,CS⟩:∃x,(if l.cur=id then -1 else l.cur)=x:=⟨_,rfl⟩
 rw[CS];have Oz:=lH CS;have HN:=lH hn;have eJ:=lH aa;have HQ:=lH hq;have ED:=lH oX;have Du:=lH iV;have Mh:=lH aw;have HA:=lH ha;obtain⟨i0,hi,eG,aI,et⟩:=info_parts Xv;have c3s:=c3;rw[ha] at c3;clear CS hq hv aa oX DG ij pn tK iV hw hn ae hp ha;go_enter Tryz.func73,Tryz.ntmps73;go_wp2_with fail
 refine aE.mono ?_;rintro e w1 ⟨rfl,rfl⟩;clear c3s;go_wp2_with fail
 go_quiet (fail)
 go_wp2_with fail
 have mD:=lH (HQ.out.below (zm W.heap.size W nq));have lh:Hid (Touch (fun j=>j=qb) W (W.drewN nq)):=lH (Touch.of_below (zm _ _ _));have mH:W.heap.size=(W.drewN nq).heap.size:=rfl;have aW:=mD.out.row;generalize W.drewN nq=W1 at mD lh mH aW⊢;clear c1 c2 c3 k2;have c1:=mD.out.c1;have c2:=mD.out.c2;have c3:=mD.out.c3;have io:=lH mD.out.lt.1;obtain⟨a',c',iC,CR⟩:=mD.out.get;rw[iC] at c3 aW;rw[HN.out] at c3 aW;have sV:(k:Int)<=(c':Int):=by
  rcases aW.2 with⟨e,-⟩ | ⟨g,cap,cur,e,-,-,AH,-⟩
  · simp only[Value.slice.injEq] at e;omega
  · simp only[Value.slice.injEq] at e;omega
 have iu:=(qF aW (vy l.ps) k (by omega))
 have eM:=(vj aW (vy l.ps) (k+1) (by omega))
 rw[gU l.ps k (by rw[HN.out];omega)] at iu;rw[gT l.ps (k+1) (by rw[HN.out];omega)] at eM;have le:=qp 106 110 4 Tryz.underlying106 (fun w=>Tryz.sizeOf110 w) a' n c' (k+1) (by omega);rw[show((k+1:Nat):Int)=(k:Int)+1 from by omega] at le;have kwk:IntKind.i64.wrap ((k:Int)+1)=(k:Int)+1:=by rw[IntKind.wrap_i64];omega
 generalize(if c'=k+1 then a' else a'.map (·.add ((k+1)*4)))=a9 at eM le;have lD:qK W1 qb (.slice a' n c') W1.drew:=⟨c3,lH (Below.refl _ _).drew⟩
 have ig:(W1.drew.alloc (.cells #[] 110)).ownsRow W1.heap.size 110 4 (.slice (some ⟨W1.heap.size,0,none⟩) 0 0) 0 []:=
  ⟨rfl,.inr ⟨W1.heap.size,0,#[],rfl,Nat.le_refl _,by show(W1.heap.push _)[W1.heap.size]? = _;simp,Nat.le_refl _,by unfold maxLen;omega,rfl,rfl⟩⟩
 have iL:=lH iu;have iy:=lH eM;clear iu eM CR aW iC mH;refine zK (S:=qK W1 qb (.slice a' n c')) (T:=[17,18,19]) (by kernel_rfl) ?_;refine wT 0 ?_;refine wT 2 ?_;refine wT 3 ?_;refine wT 4 ?_;refine wT 5 ?_;refine wT 6 ?_;refine wT 7 ?_;refine wT 9 ?_;refine wT 10 ?_;refine wT 11 ?_;refine wT 12 ?_;refine wT 13 ?_;refine wT 14 ?_;refine wT 15 ?_;simp only[Act.put,aP,List.set];refine ze (i:=1) (by kernel_rfl) rfl (by kernel_rfl) ?_;intro K hK;go_simp
 have aF:=lD.alloc (.cells #[] 110);refine hK _ _ aF ?_;clear hK;refine ze (i:=8) (by kernel_rfl) rfl (by kernel_rfl) ?_;intro K hK;refine zz rfl _ _ _ rfl W1.heap.size 110 i0 _ 4 32 Tryz.underlying106 hi eG aI et rfl (by omega) (.slice (some ⟨W1.heap.size,0,none⟩) 0 0) 0 [] rfl ig a' k c' _ rfl (iL.out.below aF.2.out) (by unfold maxLen;omega) (by omega) (by simp) k (by omega) (zr (l.ps.take k)) (List.nil_append _) ?_;intro a1 q1 w1 ec el nk;have aC:=aF.grown io.out el (fun k hk=>Nat.le_of_eq (Option.some.inj hk));refine hK _ _ aC ?_;clear hK lD aF ig el nk;refine ze (i:=16) (by kernel_rfl) rfl (by kernel_rfl) ?_;intro K hK;refine zz rfl _ _ _ rfl W1.heap.size 110 i0 _ 4 32 Tryz.underlying106 hi eG aI et rfl (by omega) (.slice a1 k q1) k (zr (l.ps.take k)) rfl ec a9 (n-(k+1)) (c'-(k+1)) _ rfl (iy.out.below aC.2.out) (by unfold maxLen;omega) (by omega) aC.2.out.size (n-1) (by omega) (zr (l.ps.eraseIdx k)) (by rw[Du.out,yO]) ?_;intro a3 q3 w3 eK eI nU;have ip:=aC.grown io.out eI (fun k hk=>(ec.lt k hk).1);refine hK _ _ ip ?_;have f3':=(mD.out.below ip.2.out).live 3;have e3':=ip.1;clear hK aC eI nU ec;refine zk (i:=17) (by kernel_rfl) rfl (by kernel_rfl) ?_;intro K hK;go_simp
 refine hK _ _ ?_;clear hK;refine zk (i:=18) (by kernel_rfl) rfl (by kernel_rfl) ?_;intro K hK;go_simp
 refine hK _ _ ?_;clear hK;refine zk (i:=19) (by kernel_rfl) rfl (by kernel_rfl) ?_;intro K hK;go_simp
 refine hK _ _ ?_;clear hK;refine zy (by kernel_rfl) ?_ _;have ag:(l.ps.eraseIdx k).length=n-1:=by rw[List.length_eraseIdx_of_lt Mh.out,HN.out]
 rw[<- ag] at eK;obtain⟨oF,pC,FI⟩:=mD.out.setRow ip.2.out eK;rw[ag] at oF pC;rw[ag] at FI;have e2:=oF.c2;have f2:=oF.live 2;have My:=lH oF;have ER:=lH (lh.out.trans (uk.refl _ _) pC);have Ll:=lH (fun j hj=>Nat.le_trans lh.out.size (FI j hj));have mx:(l.ps.eraseIdx k).length<=1000:=by omega
 clear oF pC FI eK ag ip f3' e3' le c1 c2 c3;generalize w3.setCell ⟨qb,3,none⟩ (.slice a3 (n-1) q3)=W5 at My ER e2 f2⊢;by_cases hc:l.cur=id
 · have CS:cu=-1:=by rw[<- Oz.out,if_pos hc]
   subst CS;have GT:=lH (ED.out _ _ (-1) _ (My.out.setCur (-1)) mx);have ES:=lH (ER.out.setCell (t:=none) (c:=qb) (i:=2) (.inl rfl) (I (-1)));simp only at e2;rw[hc] at e2;clear hc mx;go_wp2_with fail
   refine GT.out.mono ?_;rintro e w7 ⟨rfl,rg,ss⟩;have A7:=lH rg;have CF:=lH (ES.out.trans (uk.refl _ _) ss);clear rg ss;go_wp2_with fail
   go_ret2
   exact⟨rfl,_,A7.out,CF.out,Ll.out⟩
 · have CS:cu=l.cur:=by rw[<- Oz.out,if_neg hc]
   subst CS;have GT:=lH (ED.out _ _ l.cur _ My.out mx);simp only at e2;clear mx;go_wp2_with fail
   refine GT.out.mono ?_;rintro e w7 ⟨rfl,rg,ss⟩;have A7:=lH rg;have CF:=lH (ER.out.trans (uk.refl _ _) ss);clear rg ss;go_wp2_with fail
   go_ret2
   exact⟨rfl,_,A7.out,CF.out,Ll.out⟩
theorem Zl (qb:Nat) (v:Value) (tag:Int) (l:Ln) (W:World) (hq:QuAt W qb v tag l) (aT:l.ps.length<=64) (hp:¬yh l.ps l.cur<0) (hc:(z8 l).2.1=0)
 (hd:∀p∈l.ps,IntKind.i64.wrap (p.v+zF p.w)=p.v+zF p.w/\IntKind.i64.wrap (p.v+zF p.w+4*zF p.w)=p.v+zF p.w+4*zF p.w) :
 Calls Tryz.prog 78 #[.pointer (some ⟨qb,0,none⟩)] W fun e w'=>e=.returned (.tuple #[I (z8 l).1,I 0])/\QuAt w' qb v tag (z8 l).2.2/\Touch (fun j=>j=qb\/v.ownBlock=some j) W w':=by
 have aE:=jl qb v tag l l.cur W hq (by omega);obtain⟨k,aw,ij,iS⟩:∃(k:Nat) (hk:k<l.ps.length),yh l.ps l.cur=(k:Int)/\l.ps[k].id=l.cur:=by
  rcases zB l.ps l.cur with⟨e,-⟩ | ⟨k,hk,e,e2,-⟩
  · exact absurd (by rw[e];decide) hp
  · exact⟨k,hk,e,e2⟩
 obtain⟨p,pn⟩:∃p,l.ps[k]? = some p:=⟨_,List.getElem?_eq_getElem aw⟩
 have tK:l.ps[k]'aw=p:=by rw[List.getElem?_eq_getElem aw] at pn;exact Option.some.inj pn
 have Af:l.ps[k]! = p:=by rw[getElem!_pos l.ps k aw,tK]
 have mG:¬2305843009213693952<p.v+zF p.w:=by
  intro ah;unfold z8 at hc;rw[if_neg hp,ij] at hc;simp only[Int.toNat_natCast,Af] at hc;rw[if_pos ah] at hc;exact absurd hc (by simp)
 have DG:z8 l=(p.id,0,⟨yY l.base (l.ps.set k (onP p)),l.cur,l.ps.set k (onP p)⟩):=by
  unfold z8;rw[if_neg hp,ij];simp only[Int.toNat_natCast,Af];rw[if_neg mG]
 rw[DG];simp only
 rw[ij] at aE;obtain⟨kv,kd⟩:=hd p (by rw[<- tK];exact List.getElem_mem aw);have iR:onP p=if p.day<=p.v+zF p.w then⟨p.id,p.w,p.v+zF p.w,p.v+zF p.w+4*zF p.w⟩ else⟨p.id,p.w,p.v+zF p.w,p.day⟩:=rfl
 have ll:=fun W'=>f8 p.w W';have ak:=fun W'=>dW p.w W';obtain⟨st0,st1⟩:=xZ p.w;generalize zF p.w=st at ll ak kd kv iR mG st0 st1;have oX:=fun(W':World) (ps:List Pt) (hQ:QuAt W' qb v tag ⟨l.base,l.cur,ps⟩) (hn:ps.length<=1000)=>qC qb v tag ⟨l.base,l.cur,ps⟩ W' hQ hn;have hid:p.id=l.cur:=by rw[<- iS,tK]
 obtain⟨n,hn⟩:∃x,l.ps.length=x:=⟨_,rfl⟩
 obtain⟨a,c,hv,ae⟩:=hq.get;obtain⟨g,ha,g1,k0,k1,k2,k3⟩:=ae k p pn;subst ha hv;have c3:=hq.c3;have c2:=hq.c2;rw[hn] at c3 hq oX;have fr:=hq.free;have ay:qb≠g:=fun e=>hq.ne (by rw[e];rfl);have aS:k<n:=by omega
 have iY:(k:Int)<(n:Int):=by omega
 have aX:0<=(k:Int):=by omega
 have HN:=lH hn;have Mx:=lH pn;have Mh:=lH aw;have HQ:=lH hq;have ED:=lH oX;have Lo:=lH iR;have Cc:=lH hid;have f2:=fr (k*4+2);rw[hn];have Sk:n<=64:=by omega
 clear DG ij tK ae hp hd oX hq hn fr pn iS Af iR hc hid aw aT;go_enter Tryz.func78,Tryz.ntmps78;go_wp2_with fail
 refine aE.mono ?_;rintro e w1 ⟨rfl,rfl⟩;go_wp2_with fail
 refine(ak _).mono ?_;rintro e w1 ⟨rfl,rfl⟩;go_wp2_with fail
 have lD:VM qb g k (.slice (some ⟨g,0,none⟩) n c) p.w p.v W.drew:=⟨c3,k2⟩
 refine zK (S:=VM qb g k (.slice (some ⟨g,0,none⟩) n c) p.w p.v) (T:=[17]) (by kernel_rfl) ?_;refine wT 0 ?_;refine wT 1 ?_;refine wT 2 ?_;refine wT 3 ?_;refine wT 4 ?_;refine wT 5 ?_;refine wT 6 ?_;refine wT 7 ?_;refine wT 8 ?_;refine wT 9 ?_;refine wT 10 ?_;refine wT 11 ?_;refine wT 12 ?_;refine wT 13 ?_;refine wT 14 ?_;simp only[Act.put,aP,List.set];refine ze (i:=15) (by kernel_rfl) rfl (by kernel_rfl) ?_;intro K hK;go_simp
 refine hK _ _ lD ?_;clear hK;refine ze (i:=16) (by kernel_rfl) rfl (by kernel_rfl) ?_;intro K hK;go_simp
 refine hK _ _ lD ?_;clear hK;refine zk (i:=17) (by kernel_rfl) rfl (by kernel_rfl) ?_;intro K hK;go_simp
 refine hK _ _ ?_;clear hK;refine zy (by kernel_rfl) ?_ _;have m7:=(HQ.out.setPt k 2 p ⟨p.id,p.w,p.v+st,p.day⟩ (I (p.v+st)) Mx.out (by omega) rfl).below (Below.refl _ _).drew;have aF:Touch (fun j=>j=qb\/Value.ownBlock (.slice (some ⟨g,0,none⟩) n c)=some j) W (W.setCell ⟨g,k*4+2,none⟩ (I (p.v+st))).drew:=((Touch.refl _ _).setCell (t:=none) (.inl (.inr rfl)) _).drew;clear lD c3 c2 k0 k1 k2 k3 f2;generalize(W.setCell ⟨g,k*4+2,none⟩ (I (p.v+st))).drew=W1 at m7 aF⊢;have C9:(l.ps.set k ⟨p.id,p.w,p.v+st,p.day⟩)[k]? = some ⟨p.id,p.w,p.v+st,p.day⟩:=by simp[Mh.out]
 obtain⟨a,c',hv,ae⟩:=m7.get;obtain⟨g',ha,g1',k0,k1,k2,k3⟩:=ae k _ C9;have c3:=m7.c3;subst ha;simp only[Value.slice.injEq,Option.some.injEq,Addr.mk.injEq] at hv;obtain⟨⟨rfl,-⟩,-,rfl⟩:=hv;simp only at k0 k1 k2 k3;have f3:=m7.free (k*4+3);have mD:=lH m7;have lh:=lH aF;clear m7 aF ae;by_cases DQ:p.day<=p.v+st
 · rw[if_pos DQ] at Lo;go_wp2_with fail
   go_quiet (fail)
   go_wp2_with fail
   have lD:Jt qb g k (.slice (some ⟨g,0,none⟩) n c) p.w (p.v+st) (W1.drewN nq).drew:=⟨c3,k2,k1⟩
   refine zK (S:=Jt qb g k (.slice (some ⟨g,0,none⟩) n c) p.w (p.v+st)) (T:=[25]) (by kernel_rfl) ?_;refine wT 0 ?_;refine wT 1 ?_;refine wT 2 ?_;refine wT 3 ?_;refine wT 4 ?_;refine wT 5 ?_;refine wT 6 ?_;refine wT 7 ?_;refine wT 8 ?_;refine wT 9 ?_;refine wT 10 ?_;refine wT 11 ?_;refine wT 12 ?_;refine wT 13 ?_;refine wT 14 ?_;refine wT 15 ?_;refine wT 16 ?_;refine wT 17 ?_;refine wT 18 ?_;refine wT 19 ?_;refine wT 20 ?_;simp only[Act.put,aP,List.set];refine ze (i:=21) (by kernel_rfl) rfl (by kernel_rfl) ?_;intro K hK;go_simp
   go_at_call 133
   refine(ll _).mono ?_;rintro e w9 ⟨rfl,rfl⟩;refine hK _ _ lD ?_;clear hK;refine wT 22 ?_;simp only[Act.put,aP,List.set];refine ze (i:=23) (by kernel_rfl) rfl (by kernel_rfl) ?_;intro K hK;go_simp
   refine hK _ _ lD ?_;clear hK;refine ze (i:=24) (by kernel_rfl) rfl (by kernel_rfl) ?_;intro K hK;go_simp
   refine hK _ _ lD ?_;clear hK;refine zk (i:=25) (by kernel_rfl) rfl (by kernel_rfl) ?_;intro K hK;have k3':(W1.drewN nq).drew.cell? ⟨g,k*4+3,none⟩=some (I p.day):=k3;have f3':(W1.drewN nq).drew.frozen? ⟨g,k*4+3,none⟩=false:=f3;go_simp
   refine hK _ _ ?_;clear hK k3' f3';refine zy (by kernel_rfl) ?_ _;have pQ:=(mD.out.below ((zm _ _ nq).drew)).setPt k 3 _ ⟨p.id,p.w,p.v+st,p.v+st+4*st⟩ (I (p.v+st+4*st)) C9 (by omega) rfl;have aC:=(lh.out.thenBelow ((zm _ _ nq).drew)).setCell (t:=none) (c:=g) (i:=k*4+3) (.inl (.inr rfl)) (I (p.v+st+4*st));simp only[List.set_set] at pQ;rw[<- Lo.out] at pQ;have ag:(l.ps.set k (onP p)).length<=1000:=by simp[HN.out];omega
   have HG:=lH (ED.out _ _ pQ ag);have eR:=lH aC;clear pQ aC lD c3 k0 k1 k2 k3 f3 C9 ag;go_wp2_with fail
   refine HG.out.mono ?_;rintro e w7 ⟨rfl,rg,ss⟩;have c2:=rg.c2;simp only at c2;have A7:=lH rg;have CF:=lH (eR.out.trans (uk.refl _ _) (ss.wider (G:=fun j=>j=qb\/Value.ownBlock (.slice (some ⟨g,0,none⟩) n c)=some j) (fun j hj=>.inl hj)));clear rg ss;go_wp2_with fail
   go_ret2
   exact⟨by rw[Cc.out];rfl,A7.out,CF.out⟩
 · rw[if_neg DQ] at Lo;have pQ:=fun nq=>mD.out.below (zm _ _ nq);rw[<- Lo.out] at pQ;have ag:(l.ps.set k (onP p)).length<=1000:=by simp[HN.out];omega
   have HG:=lH (fun nq=>ED.out _ _ (pQ nq) ag);have TK:p.v+st<p.day:=by omega
   clear pQ C9 ag;go_wp2_with fail
   go_quiet (fail)
   go_wp2_with fail
   refine(HG.out nq).mono ?_;rintro e w7 ⟨rfl,rg,ss⟩;have c2:=rg.c2;simp only at c2;have A7:=lH rg;have CF:=lH ((lh.out.thenBelow (zm _ _ nq)).trans (uk.refl _ _) (ss.wider (G:=fun j=>j=qb\/Value.ownBlock (.slice (some ⟨g,0,none⟩) n c)=some j) (fun j hj=>.inl hj)));clear rg ss;go_wp2_with fail
   go_ret2
   exact⟨by rw[Cc.out];rfl,A7.out,CF.out⟩
end
end Go.Proofs.YtoiajjobecinpaaGreat
