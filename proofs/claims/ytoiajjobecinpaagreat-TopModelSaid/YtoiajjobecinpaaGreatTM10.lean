/- A task is found, turned; a core is told. slots.List, and All. slots.All: what its rounds must keep.  -/
import Derived.Sort.BigQuietIn
import Derived.Shelf.SlSortCmp.Whole1
import Derived.Shelf.SlicesQ.Load
import Derived.RangeFuncWrites
import Derived.WalkMore
import Derived.Test.YtoiajjobecinpaaGreatTM08
import Derived.Test.YtoiajjobecinpaaGreatTM09
set_option maxHeartbeats 4000000
set_option maxRecDepth 100000
namespace Go.Proofs.YtoiajjobecinpaaGreat
open Go.RowKit Go.Shelf Go.Lib Go.Proofs
set_option linter.unusedVariables false
set_option linter.unusedSimpArgs false
theorem KK (w:World):(zeroValue 188).run Tryz.prog w=.ok (.pointer none) w:=by kernel_rfl
theorem SysAt.look {W:World} {sb gb nb pb mb n:Nat} {cv:Value} {D:DataW Unit} {cbs:List Nat} {tb:Int->Nat} {own:Nat->Option Own} {s:Sy} (h:SysAt W sb gb nb pb mb n cv D cbs tb own s)
 (id:Int) (h1:-9223372036854775808<=id) (h2:id<=9223372036854775807) :
 (Instr.lookup 117 (.map (some mb)) (I id) false).run Tryz.prog W=.ok (match s.tasks id with | none=>.pointer none | some _=>.pointer (some ⟨tb id,0,none⟩)) W:=by
 obtain⟨v,ps,lJ,hv⟩:=h.map.lookup (t:=117) (e:=188) gY Tryz.underlying117 (KK W) (zd:=.lit (.bool false)) (zp:=[]) rfl (U3 h1 h2);rw[h.reads id h1 h2] at hv;rw[lJ];cases ht:s.tasks id with
 | none=>rw[ht] at hv;rw[WX hv]
 | some t=>rw[ht] at hv;rw[WY hv]
theorem SysAt.setTask {W W':World} {sb gb nb pb mb n:Nat} {cv:Value} {D:DataW Unit} {cbs:List Nat} {tb:Int->Nat} {own:Nat->Option Own} {s:Sy} (h:SysAt W sb gb nb pb mb n cv D cbs tb own s)
 {id:Int} {t t':Tk} (ht:s.tasks id=some t) (hT:TaskAt W' (tb id) t') (eP:Touch (fun k=>k=tb id) W W') :
 SysAt W' sb gb nb pb mb n cv D cbs tb own ⟨s.cores,s.gs,s.acc,s.ps,fun x=>if x=id then some t' else s.tasks x,s.cnt⟩:=by
 obtain⟨_,PO⟩:=h.task id t ht;have hk:∀k x,own k=some x->x≠.task id->W'.heap[k]? = W.heap[k]?:=fun k x hk hx=>eP.block k (h.lt k (by rw[hk];simp)) (fun e=>by subst e;rw[PO] at hk;exact hx (by simpa using hk.symm));have bsb:=hk sb _ h.osb (by simp);have h0:∀i,W'.cell? ⟨sb,i,none⟩=W.cell? ⟨sb,i,none⟩:=fun i=>World.cell?_of_block bsb;have oR:∀i,W'.frozen? ⟨sb,i,none⟩=W.frozen? ⟨sb,i,none⟩:=fun i=>World.frozen?_of_block bsb;refine⟨(h0 _).trans h.head,(h0 _).trans h.c1,fun i hi=>?_,(h0 _).trans h.c66,(h0 _).trans h.c67,fun i=>(oR i).trans (h.live i),h.groups.same (hk gb _ h.ogb (by simp)),h.slots.same (hk nb _ h.onb (by simp)) (hk pb _ h.opb (by simp)),
  yc h.map (hk mb _ h.omb (by simp)),h.cnt,fun x ia iU=>?_,fun x u hu=>?_,zb h.row (fun k eO=>hk k _ (h.rown k eO) (by simp)),h.rown,h.num,fun i hi=>(h.core i hi).same eP.size (fun k eO=>hk k _ eO (by simp)),h.osb,h.ogb,h.onb,h.opb,h.omb,fun k eO=>Nat.lt_of_lt_of_le (h.lt k eO) eP.size⟩
 · obtain⟨a1,a2,a3,a4⟩:=h.acc i hi;exact⟨(h0 _).trans a1,(h0 _).trans a2,(h0 _).trans a3,(h0 _).trans a4⟩
 · rw[h.reads x ia iU];by_cases e:x=id
   · subst e;simp only[if_pos,ht]
   · simp only[if_neg e]
 · by_cases e:x=id
   · subst e;simp only[if_pos,Option.some.injEq] at hu;subst hu;exact⟨hT,PO⟩
   · simp only[if_neg e] at hu;obtain⟨t1,t2⟩:=h.task x u hu;exact⟨t1.same (hk _ _ t2 (by simp;exact e)),t2⟩
theorem TaskAt.setState {W:World} {b:Nat} {t:Tk} (h:TaskAt W b t) (x:Int):TaskAt (W.setCell ⟨b,4,none⟩ (I x)) b ⟨t.id,t.w,t.group,t.core,x,t.mask,t.lag⟩:=by
 refine⟨?_,?_,?_,?_,World.cell?_setCell_same _ _ _ h.state,?_,?_,fun i=>by rw[World.frozen?_setCell];exact h.live i⟩
 · rw[za _ (by simp)];exact h.id
 · rw[za _ (by simp)];exact h.w
 · rw[za _ (by simp)];exact h.group
 · rw[za _ (by simp)];exact h.core
 · rw[za _ (by simp)];exact h.mask
 · rw[za _ (by simp)];exact h.lag
theorem TaskAt.setCore {W:World} {b:Nat} {t:Tk} (h:TaskAt W b t) (x:Int):TaskAt (W.setCell ⟨b,3,none⟩ (I x)) b ⟨t.id,t.w,t.group,x,t.state,t.mask,t.lag⟩:=by
 refine⟨?_,?_,?_,World.cell?_setCell_same _ _ _ h.core,?_,?_,?_,fun i=>by rw[World.frozen?_setCell];exact h.live i⟩
 · rw[za _ (by simp)];exact h.id
 · rw[za _ (by simp)];exact h.w
 · rw[za _ (by simp)];exact h.group
 · rw[za _ (by simp)];exact h.state
 · rw[za _ (by simp)];exact h.mask
 · rw[za _ (by simp)];exact h.lag
theorem Zi (cbs:List Nat) (i:Nat) (hi:i<cbs.length):(ql cbs)[i]? = some (.pointer (some ⟨cbs[i]!,0,none⟩)):=by
 unfold ql;rw[List.getElem?_map,List.getElem?_eq_getElem hi,getElem!_pos cbs i hi];rfl
theorem SysAt.coreCell {W:World} {sb gb nb pb mb n g c m:Nat} {D:DataW Unit} {cbs:List Nat} {tb:Int->Nat} {own:Nat->Option Own} {s:Sy} (h:SysAt W sb gb nb pb mb n (.slice (some ⟨g,0,none⟩) m c) D cbs tb own s)
 (i:Nat) (hi:i<cbs.length):W.cell? ⟨g,i,none⟩=some (.pointer (some ⟨cbs[i]!,0,none⟩)):=by
 have:=h.row.cells (g:=g) rfl _ _ (Zi cbs i hi);simpa [Addr.add_lit] using this
theorem SysAt.form {W:World} {sb gb nb pb mb n:Nat} {cv:Value} {D:DataW Unit} {cbs:List Nat} {tb:Int->Nat} {own:Nat->Option Own} {s:Sy} (h:SysAt W sb gb nb pb mb n cv D cbs tb own s) (h0:0<cbs.length) :
 ∃g c,cv=.slice (some ⟨g,0,none⟩) cbs.length c:=by
 rcases h.row.2 with⟨_,h1⟩ | ⟨g,cap,cur,e,_⟩
 · omega
 · exact⟨g,cap,e⟩
theorem jX (sb gb nb pb mb n:Nat) (cv:Value) (D:DataW Unit) (cbs:List Nat) (tb:Int->Nat) (own:Nat->Option Own) (s:Sy) (i:Nat) (W:World) (h:SysAt W sb gb nb pb mb n cv D cbs tb own s) (hi:i<cbs.length) :
 Calls Tryz.prog 87 #[.pointer (some ⟨sb,0,none⟩),I i] W fun e w'=>e=.returned (.tuple #[.pointer (some ⟨cbs[i]!,0,none⟩),I 0])/\W=w':=by
 obtain⟨g,c,aQ⟩:=h.form (by omega);subst aQ;have c0:=h.head;have hc:=h.coreCell i hi;generalize cbs[i]! = cb at hc⊢;obtain⟨m,hm⟩:∃m,cbs.length=m:=⟨_,rfl⟩
 rw[hm] at c0 hi;have h0:¬(i:Int)<0:=by omega
 have h1:(i:Int)<(m:Int):=by omega
 have h2:0<=(i:Int):=by omega
 clear h hm;go_enter Tryz.func87,Tryz.ntmps87;go_wp2
 go_ret2
 exact⟨rfl,rfl⟩
section
attribute [local go_sem] Oper.semAt_some
theorem dD:(Tryz.prog.info? 3).map (fun i=>(i.zero,i.size,i.bytes))=some (some (I 0),1,8):=by kernel_rfl
def yz (i:Nat):List (Int×Bool)->List Int
 | []=>[]
 | p::l=>if p.2=true then((i:Int)+64*(p.1-1))::yz (i+1) l else yz (i+1) l
def zf (ps:List (Int×Bool)):List Int:=yz 0 ps
theorem qO (p:Int×Bool):∀(l:List (Int×Bool)) (i:Nat),yz i (l++[p])=yz i l++(if p.2=true then[((i+l.length:Nat):Int)+64*(p.1-1)] else[])
 | [],i=>by simp[yz]
 | q::l,i=>by
  rw[List.cons_append];simp only[yz,qO p l (i+1),List.length_cons];rw[show i+1+l.length=i+(l.length+1) from by omega];split <;> simp
theorem Ys (ps:List (Int×Bool)) (k:Nat) (hk:k<ps.length) :
 zf (ps.take (k+1))=zf (ps.take k)++(if (ps.getD k default).2=true then[(k:Int)+64*((ps.getD k default).1-1)] else[]):=by
 unfold zf;rw[List.take_succ_eq_append_getElem hk,qO,List.length_take,Nat.min_eq_left (by omega),Nat.zero_add,List.getD_eq_getElem?_getD,List.getElem?_eq_getElem hk];rfl
theorem yl:∀(l:List (Int×Bool)) (i:Nat),(yz i l).length<=l.length
 | [],_=>by simp[yz]
 | q::l,i=>by
  have:=yl l (i+1);simp only[yz];split
  · simp;omega
  · simp;omega
theorem Vn (b a:Nat) (ps:List (Int×Bool)) (w:World) (hs:SlotsAt w b a ps) (hz:xj ps) :
 Calls Tryz.prog 172 #[.pointer (some ⟨b,0,none⟩)] w fun e W'=>∃v,e=.returned v/\W'.ownsRow w.heap.size 3 1 v (zf ps).length ((zf ps).map fun x=>I x)/\Below w.heap.size w W':=by
 have c0:=hs.head;obtain⟨i0,hi,eG,aI,et⟩:=info_parts dD;have ah:=hs.lt;have HS:=lH hs;have HZ:=lH hz.2;have aT:=hz.1;obtain⟨m,hm⟩:∃m,ps.length=m:=⟨_,rfl⟩
 rw[hm] at c0 aT;have HM:=lH hm;clear hs hz hm;go_enter Tryz.func172,Tryz.ntmps172;go_wp2_with fail
 go_loopw [3,11] (fun s x wr=>∃k:Nat,k<=m/\x=I k/\Hid (wr.ownsRow w.heap.size 3 1 s (zf (ps.take k)).length ((zf (ps.take k)).map fun x=>I x))/\Hid (Below w.heap.size w wr)) (fun _ x _=>m-(intOf x).toNat)
 case atStart=>exact⟨0,Nat.zero_le _,rfl,lH (World.ownsRow_nil ..),lH (Below.refl _ _)⟩
 case round=>
  obtain⟨k,hk,rfl,HR,HB⟩:=hrel;by_cases aS:k<m
  · have aw:k<ps.length:=by rw[HM.out];exact aS
    have hS:=HS.out.below HB.out ah.1 ah.2;have t1:=hS.turn k aw;have t2:=hS.taken k aw;have hb:=HZ.out k aw;have aO:=Ys ps k aw;have ag:(zf (ps.take k)).length<=k:=Nat.le_trans (yl _ _) (by rw[List.length_take];omega);generalize(ps.getD k default).1=tn at t1 hb aO;generalize(ps.getD k default).2=tk at t2 aO;have iY:(k:Int)<(m:Int):=by omega
    have aX:0<=(k:Int):=by omega
    have oH:=HB.out.size;have HN:=lH aO;obtain⟨q,hq⟩:∃q,(zf (ps.take k)).length=q:=⟨_,rfl⟩
    rw[hq] at HR ag;have HQ:=lH hq;clear hS aO hq;obtain⟨b1,b2⟩:=hb;cases tk with
    | true=>
     have aa:=HR.out;go_wp2_with (at_builtin;refine wpList_append_lies _ rfl _ _ 22 rfl w.heap.size 3 i0 (I 0) 1 8 Tryz.underlying22 hi eG aI et rfl (by decide) _ q _ rfl ((aa.alloc _).alloc _) ⟨wr.heap.size+1,0,none⟩ 1 1 [I ((k:Int)+64*(tn-1))] rfl rfl (World.news_of_block (cs:=#[I ((k:Int)+64*(tn-1))]) (t:=3) (fr:=(0,0)) (by have:=heap_alloc_new (wr.alloc (.cells #[I tn,.bool true] 248)) (.cells #[I ((k:Int)+64*(tn-1))] 3);simpa using this)) (by simp[Value.oneCell']) (by omega) (by unfold maxLen;omega) (by omega) (by simp;omega) (wr.heap.size+2) (by simp) ?_;intro g cap w4 aV aq eW ln)
     rw[if_pos rfl] at HN;have hr:w4.ownsRow w.heap.size 3 1 (.slice (some ⟨g,0,none⟩) (q+1) cap) (zf (ps.take (k+1))).length ((zf (ps.take (k+1))).map fun x=>I x):=by
      rw[HN.out,List.map_append,List.length_append,HQ.out];exact aV
     have Ap:=lH hr;have AQ:Hid (Below w.heap.size w w4):=lH (((HB.out.alloc oH _).alloc (by simp;omega) _).grown aq (by simp;omega) (fun j hj=>(aa.lt j hj).1));clear hr aV aq eW ln aa;go_roundw
     case rel=>exact⟨k+1,aS,by go_num,Ap,AQ⟩
     case measure=>simp[intOf];omega
    | false=>
     rw[if_neg (by simp),List.append_nil] at HN;have hr:(wr.alloc (.cells #[I tn,.bool false] 248)).ownsRow w.heap.size 3 1 u3 (zf (ps.take (k+1))).length ((zf (ps.take (k+1))).map fun x=>I x):=by
      rw[HN.out,HQ.out];exact HR.out.alloc _
     have Ap:=lH hr;have AQ:Hid (Below w.heap.size w (wr.alloc (.cells #[I tn,.bool false] 248))):=lH (HB.out.alloc oH _);clear hr;go_wp2_with fail
     go_roundw
     case rel=>exact⟨k+1,aS,by go_num,Ap,AQ⟩
     case measure=>simp[intOf];omega
  · obtain rfl:k=m:=by omega
    have aM:ps.take k=ps:=List.take_of_length_le (by rw[HM.out];exact Nat.le_refl _);rw[aM] at HR;clear aM;go_wp2_with fail
    go_ret
    exact⟨_,rfl,HR.out,HB.out⟩
structure KpL (B:Nat) (W W':World):Prop where
 size:W.heap.size<=W'.heap.size
 same:∀k o,W.heap[k]? = some o->o.isCells=true->k≠B->(∀v,W.cell? ⟨B,0,none⟩=some v->v.ownBlock≠some k)->W'.heap[k]? = some o
 row:∀v' k,W'.cell? ⟨B,0,none⟩=some v'->v'.ownBlock=some k->(∃v,W.cell? ⟨B,0,none⟩=some v/\v.ownBlock=some k)\/W.heap.size<=k
theorem yW {W:World} {k:Nat} {o:Obj} (h:W.heap[k]? = some o):k<W.heap.size:=(Array.getElem?_eq_some_iff.1 h).1
theorem KpL.t {B:Nat} {W1 W2 W3:World} (h:KpL B W1 W2) (k:KpL B W2 W3):KpL B W1 W3:=by
 refine⟨Nat.le_trans h.size k.size,fun j o ho hc ay hv=>?_,fun v' j iC hj=>?_⟩
 · refine k.same j o (h.same j o ho hc ay hv) hc ay (fun v n9 e=>?_);rcases h.row v j n9 e with⟨v0,h1,h2⟩ | h1
   · exact hv v0 h1 h2
   · have:=yW ho;omega
 · rcases k.row v' j iC hj with⟨v0,h1,h2⟩ | h1
   · exact h.row v0 j h1 h2
   · have:=h.size;exact .inr (by omega)
theorem KpL.b {B:Nat} {w:World} (hB:B<w.heap.size) (W:World) (l:Nat) (o o':Obj) (hl:w.heap.size<=l) (ho:W.heap[l]? = some o) (hc:o.isCells=false) (_:o.isWalk=false):KpL B W (W.putObj l o'):=by
 have e:∀k,k≠l->(W.putObj l o').heap[k]? = W.heap[k]?:=fun k hk=>World.putObj_heap_other hk;refine⟨by simp[World.putObj],fun k o1 h1 h2 _ _=>(e k (fun e=>by subst e;rw[ho] at h1;cases h1;rw[hc] at h2;cases h2)).trans h1,fun v' k hv hk=>.inl ⟨v',?_,hk⟩⟩;rw[<- hv];exact(World.cell?_of_block (a:=⟨B,0,none⟩) (e B (by omega))).symm
theorem fD (b:Nat) (W:World) :
 Calls Tryz.prog 141 #[.pointer (some ⟨b,0,none⟩)] W fun e w'=>e=.returned (.func (.func 171) #[] #[.pointer (some ⟨W.heap.size,0,none⟩)])/\W.alloc (.cells #[.pointer (some ⟨b,0,none⟩)] 115)=w':=by
 go_enter Tryz.func141,Tryz.ntmps141;go_wp2
 go_ret
 exact⟨by simp,rfl⟩
def QN (B g:Nat) (O:Obj) (wr:World):Prop:=wr.heap[g]? = some O/\O.isCells=true/\g≠B/\∀v,wr.cell? ⟨B,0,none⟩=some v->v.ownBlock≠some g
theorem QN.step {B g:Nat} {O:Obj} {W W':World} (h:QN B g O W) (k:KpL B W W'):QN B g O W':=by
 obtain⟨h1,h2,h3,h4⟩:=h;refine⟨k.same g O h1 h2 h3 h4,h2,h3,fun v hv e=>?_⟩;rcases k.row v g hv e with⟨v0,e1,e2⟩ | e1
 · exact h4 v0 e1 e2
 · have:=yW h1;omega
def uy (B:Nat) (v:Value) (ls:List Int) (wr:World):Prop:=
 (v=.slice none 0 0/\ls=[])\/∃g c O,v=.slice (some ⟨g,0,none⟩) ls.length c/\QN B g O wr/\∀i,i<ls.length->wr.cell? ⟨g,i,none⟩=some (I (ls.getD i 0))
theorem uy.step {B:Nat} {v:Value} {ls:List Int} {W W':World} (h:uy B v ls W) (k:KpL B W W'):uy B v ls W':=by
 rcases h with h | ⟨g,c,O,e,h1,h2⟩
 · exact .inl h
 · have Gl:=h1.step k;exact .inr ⟨g,c,O,e,Gl,fun i hi=>(World.cell?_of_block (a:=⟨g,i,none⟩) (Gl.1.trans h1.1.symm)).trans (h2 i hi)⟩
theorem uy.form {B:Nat} {v:Value} {ls:List Int} {W:World} (h:uy B v ls W):∃p c,v=.slice p ls.length c:=by
 rcases h with⟨h,h2⟩ | ⟨g,c,O,e,_⟩
 · exact⟨none,0,by rw[h,h2];rfl⟩
 · exact⟨_,_,e⟩
theorem bV {W w1:World} {B:Nat} {v:Value} {ls:List Int} (aa:w1.ownsRow W.heap.size 3 1 v ls.length (ls.map fun x=>I x)) (hb:Below W.heap.size W w1) (hB:W.cell? ⟨B,0,none⟩=some (.slice none 0 0)):uy B v ls w1:=by
 have Bc:B<W.heap.size:=World.block_lt_of_cell? W _ hB;rcases aa.2 with⟨h,h0⟩ | ⟨g,cap,cur,e,hg,la,_⟩
 · refine .inl ⟨h,?_⟩;simpa using h0
 · refine .inr ⟨g,cap,_,e,⟨la,rfl,by omega,fun v' iC=>?_⟩,fun i hi=>?_⟩
   · rw[(hb.cell (p:=⟨B,0,none⟩) Bc).trans hB] at iC;cases iC;simp[Value.ownBlock]
   · have:=aa.cells (g:=g) (by rw[e];rfl) i (I (ls.getD i 0)) (by rw[List.getElem?_map,List.getElem?_eq_getElem hi];simp[hi]);simpa [Addr.add_lit] using this
theorem jC {W W':World} (h:Below W.heap.size W W'):W.grownBy W' none:=⟨h.os,h.tape,h.output,h.size,fun k hk _=>h.block k hk⟩
theorem Qq (P:Int->Prop) (n:Nat) (hn:2<=n) (l Bs b a B:Nat) (ps:List (Int×Bool)) (xs:List {x:Int // P x}) (i7:xs.map (·.1)=zf ps) (J Jx:List {x:Int // P x}->World->Prop)
 (hY:∀pre x W,J pre W->pre.length<xs.length->YieldAt Fence.wide (n-1) Tryz.prog l #[I x.1] W fun e W'=>
   (e=.returned (.bool true)/\J (pre++[x]) W'/\KpL B W W')\/(e=.returned (.bool false)/\Jx (pre++[x]) W'))
 (W:World) (hJ:AbidesFrom W.heap.size J) (Ly:W.cell? ⟨Bs,0,none⟩=some (.pointer (some ⟨b,0,none⟩))) (hS:SlotsAt W b a ps) (hz:xj ps) (hB:W.cell? ⟨B,0,none⟩=some (.slice none 0 0)) (h0:J [] W) :
 CallsIn Fence.wide n Tryz.prog 171 #[.func (.yield l) #[] #[],.pointer (some ⟨Bs,0,none⟩)] W fun e W'=>(∃v,e=.returned v) /\
  ((∃ys,ys=xs/\J ys W')\/(∃pre,pre <+: xs/\Jx pre W')):=by
 have h1:1<=n:=by omega
 have h2:1<=n-1:=by omega
 have D6:=Vn b a ps W hS hz;have oQ:=lH i7;rw[<- i7] at D6;have sh:(xs.map (·.1)).length=xs.length:=List.length_map ..;refine callsIn_of_wp Tryz.func171 rfl trivial ?_ rfl;simp only[Tryz.ntmps171,List.size_toArray,List.length_cons,List.length_nil,Nat.reduceAdd,Nat.reduceSub,Array.replicate_succ,Array.replicate_zero,List.push_toArray,List.append_toArray,List.nil_append,List.cons_append];have aT:xs.length<=64:=by rw[<- sh,i7];exact Nat.le_trans (yl _ _) hz.1
 have Cz:=lH sh;clear sh i7;have HB:=lH hB;have HS:=lH hS;have HJ:=lH hJ;have HY:=lH hY;have HZ:=lH h0;clear hB hS hJ hY h0;gi_wp2_with (refine⟨trivial,?_⟩;gi_at_call 172;refine(callsIn_wide.2 D6).mono ?_;rintro e w1 ⟨v,rfl,aa,hb⟩;have hq:=bV aa hb HB.out;obtain⟨p,c,hv⟩:=hq.form;rw[Cz.out] at hv;subst hv;have HQ:=lH hq;have nR:=lH hb;clear aa hq hb)
 have O3:J [] w1:=HJ.out [] W w1 none HZ.out (jC nR.out) (by simp);obtain⟨m,hm⟩:∃m,xs.length=m:=⟨_,rfl⟩
 rw[hm] at HQ aT⊢;have HM:=lH hm;clear hm;have Rv:=lH O3;clear O3;gi_loopw [8] (fun x wr=>∃k:Nat,k<=m/\x=I k/\Hid (J (xs.take k) wr)/\Hid (uy B (.slice p m c) (xs.map (·.1)) wr))
  (fun x wr=>m-(intOf x).toNat)
 case atStart=>exact⟨0,Nat.zero_le _,rfl,Rv,HQ⟩
 case round=>
  obtain⟨k,hk,rfl,HJs,HQs⟩:=hrel;by_cases rq:k<m
  · have iY:(k:Int)<(m:Int):=by omega
    have aX:0<=(k:Int):=by omega
    have aw:k<xs.length:=by rw[HM.out];exact rq
    obtain⟨g,hp,ap⟩:∃g,p=some ⟨g,0,none⟩/\wr.cell? ⟨g,k,none⟩=some (I (xs[k]'aw).1):=by
     rcases HQs.out with⟨_,h0⟩ | ⟨g,c',O,e,_,h3⟩
     · rw[List.map_eq_nil_iff] at h0;rw[h0] at aw;simp at aw
     · simp only[Value.slice.injEq] at e;refine⟨g,e.1,?_⟩;have:=h3 k (by rw[List.length_map];exact aw);rwa [List.getD_eq_getElem?_getD,List.getElem?_map,List.getElem?_eq_getElem aw] at this
    subst hp;have eZ:xs.take (k+1)=xs.take k++[xs[k]'aw]:=List.take_succ_eq_append_getElem aw;obtain⟨fn,tmps,assign,body,hy,hR⟩:=HY.out (xs.take k) (xs[k]'aw) wr HJs.out (by rw[List.length_take];omega);rw[<- eZ] at hR;have BP:xs.take (k+1) <+: xs:=List.take_prefix _ _;generalize(xs[k]'aw).1=y at ap hy;clear eZ;gi_wp2
    refine hR.mono ?_;rintro e W3 (⟨rfl,E1,tG⟩ | ⟨rfl,Bh⟩)
    · have Rw:=lH E1;have CD:=lH (HQs.out.step tG);clear E1 tG;gi_wp2
      go_roundw
      case rel=>exact⟨k+1,rq,by go_num,Rw,CD⟩
      case measure=>simp[intOf];omega
    · gi_wp2
      refine bodyPost_ret (results_none rfl _ _ _) rfl ?_;exact⟨⟨_,rfl⟩,.inr ⟨_,BP,Bh⟩⟩
  · obtain rfl:k=m:=by omega
    have aM:xs.take k=xs:=List.take_of_length_le (by rw[HM.out];exact Nat.le_refl _);rw[aM] at HJs;clear aM;gi_wp2
    go_end0
    exact⟨⟨_,rfl⟩,.inl ⟨_,rfl,HJs.out⟩⟩
theorem k7 (P:Int->Prop) (n:Nat) (hn:2<=n) (Bs b a B:Nat) (ps:List (Int×Bool)) (xs:List {x:Int // P x}) (i7:xs.map (·.1)=zf ps) (w:World) (Ly:w.cell? ⟨Bs,0,none⟩=some (.pointer (some ⟨b,0,none⟩))) (hS:SlotsAt w b a ps) (hz:xj ps) (hB:w.cell? ⟨B,0,none⟩=some (.slice none 0 0)) :
 SeqStopsK Fence.wide n Tryz.prog 171 #[.pointer (some ⟨Bs,0,none⟩)] (fun x:{x:Int // P x}=>#[I x.1]) (KpL B) (fun ys=>ys=xs) (fun pre=>pre <+: xs) xs.length w:=fun l J Jx W hW hJ _ hY h0=>
 Qq P n hn l Bs b a B ps xs i7 J Jx hY W hJ ((hW.cell (p:=⟨Bs,0,none⟩) (World.block_lt_of_cell? w _ Ly)).trans Ly) (hS.below hW hS.lt.1 hS.lt.2) hz ((hW.cell (p:=⟨B,0,none⟩) (World.block_lt_of_cell? w _ hB)).trans hB) h0
end
end Go.Proofs.YtoiajjobecinpaaGreat
namespace Go.Proofs.YtoiajjobecinpaaGreat
open Go.RowKit Go.Shelf Go.Lib Go.Proofs Go.Sort
set_option linter.unusedVariables false
set_option linter.unusedSimpArgs false
def Tryz.l158_ren:Go.Shelf.Ren:=⟨fun | 6=>158 | 15=>181 | 14=>180 | 28=>199 | 29=>200 | 20=>191 | 21=>192 | 22=>193 | 23=>194 | 24=>195 | 25=>196 | 26=>197 | 27=>198 | 46=>209 | 47=>210 | 48=>211 | 49=>212 | 50=>213 | 57=>225 | n=>n,fun | 22=>202 | 24=>188 | 25=>254 | 3=>3 | 39=>154 | 0=>0 | 53=>296 | 55=>298 | 4=>4 | 46=>290 | 45=>289 | 50=>101 | 5=>5 | 9=>9 | 66=>307 | 70=>311 | 76=>325 | 77=>223 | n=>n,fun | n=>n⟩
theorem Tryz.l158:Go.Proofs.SlLaysF.n6 Tryz.prog Tryz.l158_ren:={
 mixed:=by kernel_rfl
 f6:=⟨Tryz.f158.name,by decide,Tryz.func158.trans (congrArg some (by kernel_rfl))⟩
 f14:=⟨Tryz.f180.name,by decide,Tryz.func180.trans (congrArg some (by kernel_rfl))⟩
 f15:=Tryz.func181.trans (congrArg some (by kernel_rfl))
 f20:=⟨Tryz.f191.name,by decide,Tryz.func191.trans (congrArg some (by kernel_rfl))⟩
 f21:=⟨Tryz.f192.name,by decide,Tryz.func192.trans (congrArg some (by kernel_rfl))⟩
 f22:=⟨Tryz.f193.name,by decide,Tryz.func193.trans (congrArg some (by kernel_rfl))⟩
 f23:=⟨Tryz.f194.name,by decide,Tryz.func194.trans (congrArg some (by kernel_rfl))⟩
 f24:=⟨Tryz.f195.name,by decide,Tryz.func195.trans (congrArg some (by kernel_rfl))⟩
 f25:=⟨Tryz.f196.name,by decide,Tryz.func196.trans (congrArg some (by kernel_rfl))⟩
 f26:=⟨Tryz.f197.name,by decide,Tryz.func197.trans (congrArg some (by kernel_rfl))⟩
 f27:=⟨Tryz.f198.name,by decide,Tryz.func198.trans (congrArg some (by kernel_rfl))⟩
 f28:=Tryz.func199.trans (congrArg some (by kernel_rfl))
 f29:=Tryz.func200.trans (congrArg some (by kernel_rfl))
 f46:=⟨Tryz.f209.name,by decide,Tryz.func209.trans (congrArg some (by kernel_rfl))⟩
 f47:=Tryz.func210.trans (congrArg some (by kernel_rfl))
 f48:=Tryz.func211.trans (congrArg some (by kernel_rfl))
 f49:=⟨Tryz.f212.name,by decide,Tryz.func212.trans (congrArg some (by kernel_rfl))⟩
 f50:=⟨Tryz.f213.name,by decide,Tryz.func213.trans (congrArg some (by kernel_rfl))⟩
 f57:=⟨Tryz.f225.name,by decide,Tryz.func225.trans (congrArg some (by kernel_rfl))⟩
 t0:=Tryz.underlying0
 a0:=Tryz.isAgg0
 z0:=Tryz.sizeOf0
 v0:=Tryz.zeroValue0
 t3:=Tryz.underlying3
 a3:=Tryz.isAgg3
 z3:=Tryz.sizeOf3
 v3:=Tryz.zeroValue3
 t4:=Tryz.underlying4
 a4:=Tryz.isAgg4
 z4:=Tryz.sizeOf4
 v4:=Tryz.zeroValue4
 t5:=Tryz.underlying5
 a5:=Tryz.isAgg5
 z5:=Tryz.sizeOf5
 v5:=Tryz.zeroValue5
 t9:=Tryz.underlying9
 a9:=Tryz.isAgg9
 z9:=Tryz.sizeOf9
 v9:=Tryz.zeroValue9
 t22:=Tryz.underlying202
 a22:=Tryz.isAgg202
 z22:=Tryz.sizeOf202
 v22:=Tryz.zeroValue202
 a24:=Tryz.isAgg188
 z24:=Tryz.sizeOf188
 t25:=Tryz.underlying254
 a25:=Tryz.isAgg254
 z25:=Tryz.sizeOf254
 v25:=Tryz.zeroValue254
 t39:=Tryz.underlying154
 a39:=Tryz.isAgg154
 z39:=Tryz.sizeOf154
 v39:=Tryz.zeroValue154
 t45:=Tryz.underlying289
 a45:=Tryz.isAgg289
 z45:=Tryz.sizeOf289
 v45:=Tryz.zeroValue289
 t46:=Tryz.underlying290
 a46:=Tryz.isAgg290
 z46:=Tryz.sizeOf290
 v46:=Tryz.zeroValue290
 t50:=Tryz.underlying101
 a50:=Tryz.isAgg101
 z50:=Tryz.sizeOf101
 v50:=Tryz.zeroValue101
 t53:=Tryz.underlying296
 a53:=Tryz.isAgg296
 z53:=Tryz.sizeOf296
 v53:=Tryz.zeroValue296
 t55:=Tryz.underlying298
 a55:=Tryz.isAgg298
 z55:=Tryz.sizeOf298
 v55:=Tryz.zeroValue298
 t66:=Tryz.underlying307
 a66:=Tryz.isAgg307
 z66:=Tryz.sizeOf307
 v66:=Tryz.zeroValue307
 t70:=Tryz.underlying311
 a70:=Tryz.isAgg311
 z70:=Tryz.sizeOf311
 v70:=Tryz.zeroValue311
 t76:=Tryz.underlying325
 a76:=Tryz.isAgg325
 z76:=Tryz.sizeOf325
 v76:=Tryz.zeroValue325
 t77:=Tryz.underlying223
 a77:=Tryz.isAgg223
 z77:=Tryz.sizeOf223
 v77:=Tryz.zeroValue223}
theorem Yb (b1 b2:Nat) (x y:Int) (W:World) (h1:W.cell? ⟨b1,0,none⟩=some (I x)) (h2:W.cell? ⟨b2,0,none⟩=some (I y)) :
 Calls Tryz.prog 159 #[.pointer (some ⟨b1,0,none⟩),.pointer (some ⟨b2,0,none⟩)] W fun e w'=>e=.returned (I (vC x y))/\∃q os',w'=grow (W.drewN q) os':=by
 have aD:=fun W'=>Uc x y W';generalize vC x y=r at aD⊢;go_enter Tryz.func159,Tryz.ntmps159;go_wp2_with fail
 go_quiet ((go_at_call 160;exact Calls.quiet_of_same ((aD _).mono (fun e w9 hh=>⟨hh.1,hh.2.symm⟩))))
 go_wp2_with fail
 go_ret
 exact⟨rfl,nq,#[],(grow_empty _).symm⟩
abbrev TP (w:World) (g:Nat):={p:Nat×Int // w.cell? ⟨p.1,0,none⟩=some (I p.2)/\p.1≠g}
def tpv {w:World} {g:Nat} (p:TP w g):Value:=.pointer (some ⟨p.1.1,0,none⟩)
theorem Kn {w:World} {g:Nat} (x y:TP w g):ltOf (fun x y:TP w g=>vC x.1.2 y.1.2) x y=decide (x.1.2<y.1.2):=by
 unfold ltOf vC;by_cases h1:x.1.2<y.1.2
 · simp[h1]
 · by_cases h2:y.1.2<x.1.2 <;> simp[h1,h2]
theorem J7 {w:World} {g:Nat}:SWO (ltOf fun x y:TP w g=>vC x.1.2 y.1.2) where
 irrefl x:=by rw[Kn];simp
 trans x y z h1 h2:=by rw[Kn] at *;simp at *;omega
 ntrans x y z h1 h2:=by rw[Kn] at *;simp at *;omega
theorem vG {α:Type} [Inhabited α] (enc:α->Value) (W:World) (g n:Nat) (d':Array α) (os:Array Obj) (k:Nat) (hk:k<W.heap.size) (ay:k≠g):(sortWorld enc W g 0 n d' os).heap[k]? = W.heap[k]?:=by
 unfold sortWorld;rw[heap_grow_old _ _ (by simpa [putRow,mapBlock,ahead] using hk)];simp[putRow,mapBlock,ahead,Array.getElem?_modify,ay.symm]
theorem gC {α:Type} [Inhabited α] (enc:α->Value) (W:World) (g n:Nat) (d':Array α) (os:Array Obj):Touch (fun k=>k=g) W (sortWorld enc W g 0 n d' os):=
 ⟨rfl,rfl,rfl,by unfold sortWorld;rw[size_grow,size_putRow];exact Nat.le_add_right _ _,fun k hk ay=>vG enc W g n d' os k hk ay⟩
theorem J0:∀args w,(callFunc 159 args).run Tryz.prog w=.ok (.enter 159 args) w:=enters_of Tryz.func159 (by kernel_rfl) rfl
theorem Zz (g c:Nat) (w:World) (d:Array (TP w g)) [Inhabited (TP w g)] (hH:Holds tpv w g 0 d) (hg:g<w.heap.size) (mH:d.size<4611686018427387904) :
 Calls Tryz.prog 158 #[.slice (some ⟨g,0,none⟩) d.size c,.func (.func 159) #[] #[]] w fun e w'=>
  e=.returned (.tuple #[])/\∃d' n os,PermIn 0 d.size d d'/\SortedIn (ltOf fun x y:TP w g=>vC x.1.2 y.1.2) 0 d.size d'/\w'=sortWorld tpv w g 0 n d' os:=by
 have aD:=Any.slices_SortFunc Tryz.l158 (tpv (w:=w) (g:=g)) (fun _=>rfl) (fun x y=>vC x.1.2 y.1.2) J7 159 #[] g 0 c d w J0
  (fun m os dk hs x y=>Yb x.1.1 y.1.1 x.1.2 y.1.2 _ ((World.cell?_of_block (a:=⟨x.1.1,0,none⟩) (vG tpv w g m dk os x.1.1 (World.block_lt_of_cell? w _ x.2.1) x.2.2)).trans x.2.1) ((World.cell?_of_block (a:=⟨y.1.1,0,none⟩) (vG tpv w g m dk os y.1.1 (World.block_lt_of_cell? w _ y.2.1) y.2.2)).trans y.2.1)) hH hg mH
 exact aD
def ptv (p:Nat×Int):Value:=.pointer (some ⟨p.1,0,none⟩)
theorem dg {α:Type} [Inhabited α] (enc:α->Value) (d:Array α) (c:Array Value):(putCells enc 0 d c).size=c.size:=by simp[putCells]
theorem g9 {α:Type} [Inhabited α] {enc:α->Value} {W:World} {n₀ g c n:Nat} {xs:List Value} (d':Array α) (os:Array Obj) (h:W.ownsRow n₀ 188 1 (.slice (some ⟨g,0,none⟩) d'.size c) d'.size xs) :
 (sortWorld enc W g 0 n d' os).ownsRow n₀ 188 1 (.slice (some ⟨g,0,none⟩) d'.size c) d'.size (d'.toList.map enc):=by
 have ah:=(h.lt g rfl).2;rcases h.2 with⟨h1,_⟩ | ⟨g',cap,cur,h1,hb,la,hn,hm,mH,_⟩
 · cases h1
 · simp only[Value.slice.injEq,Option.some.injEq,Addr.mk.injEq] at h1;obtain⟨⟨rfl,_⟩,_,rfl⟩:=h1;have oI:(sortWorld enc W g 0 n d' os).heap[g]? = some (.cells (putCells enc 0 d' cur) 188 (0,0)):=by
    unfold sortWorld;rw[heap_grow_old _ _ (by simpa [putRow,mapBlock,ahead] using ah)];simp[putRow,mapBlock,ahead,Array.getElem?_modify,la,onCells]
   refine⟨by simp,.inr ⟨g,c,_,rfl,hb,oI,hn,hm,by rw[dg];exact mH,?_⟩⟩;apply List.ext_getElem?
   intro t;by_cases ht:t<d'.size
   · rw[List.getElem?_map,List.getElem?_take,if_pos (by omega)];simp only[putCells,Array.getElem?_toList,Array.getElem?_mapIdx];rw[Array.getElem?_eq_getElem ht,Array.getElem?_eq_getElem (by omega)];simp[ht]
   · rw[List.getElem?_take,if_neg (by omega),List.getElem?_eq_none (by simp;omega)]
theorem Kz (n₀ g c:Nat) (ts:List (Nat×Int)) (w:World) (ay:ts≠[]) (aa:w.ownsRow n₀ 188 1 (.slice (some ⟨g,0,none⟩) ts.length c) ts.length (ts.map ptv))
 (ht:∀p∈ts,w.cell? ⟨p.1,0,none⟩=some (I p.2)/\p.1≠g) (hl:ts.length<=64) :
 Calls Tryz.prog 158 #[.slice (some ⟨g,0,none⟩) ts.length c,.func (.func 159) #[] #[]] w fun e w'=>e=.returned (.tuple #[]) /\
  ∃ts':List (Nat×Int),ts'.Perm ts/\ts'.Pairwise (fun a b=>¬b.2<a.2)/\w'.ownsRow n₀ 188 1 (.slice (some ⟨g,0,none⟩) ts.length c) ts.length (ts'.map ptv)/\Touch (fun k=>k=g) w w':=by
 obtain⟨t0,tl,rU⟩:∃t0 tl,ts=t0::tl:=by cases ts with | nil=>exact absurd rfl ay | cons a b=>exact⟨a,b,rfl⟩
 haveI:Inhabited (TP w g):=⟨⟨t0,ht t0 (by rw[rU];simp)⟩⟩
 obtain⟨d,hd⟩:∃d:Array (TP w g),d.toList.map (·.1)=ts:=⟨(ts.attach.map fun p=>(⟨p.1,ht p.1 p.2⟩:TP w g)).toArray,by simp;exact List.attach_map_subtype_val ts⟩
 have Pu:d.size=ts.length:=by rw[<- hd];simp
 have hH:Holds tpv w g 0 d:=by
  intro j hj;have iK:j<ts.length:=by omega
  constructor
  · have:=aa.cells (g:=g) rfl j (ptv (ts[j]'iK)) (by rw[List.getElem?_map,List.getElem?_eq_getElem iK];rfl);rw[Nat.zero_add];simp only[Addr.add_lit,Nat.zero_add] at this;rw[this,getElem!_pos d j hj];have e:ts[j]'iK=(d[j]'hj).1:=by simp[<- hd]
    rw[e];rfl
  · rcases aa.2 with⟨h1,_⟩ | ⟨g',cap,cur,h1,_,la,_⟩
    · cases h1
    · simp only[Value.slice.injEq,Option.some.injEq,Addr.mk.injEq] at h1;obtain⟨⟨rfl,_⟩,_⟩:=h1;simp[World.frozen?,la]
 have aD:=Zz g c w d hH (aa.lt g rfl).2 (by omega);rw[Pu] at aD;refine aD.mono ?_;rintro e w' ⟨rfl,d',n,os,⟨p1,_,p3⟩,hs,rfl⟩;have mH:d'.size=ts.length:=by omega
 refine⟨rfl,d'.toList.map (·.1),?_,?_,?_,gC _ _ _ _ _ _⟩
 · rw[<- hd];refine List.Perm.map _ ?_;have e1:(d'.extract 0 ts.length).toList=d'.toList:=by rw[<- mH];simp
   have e2:(d.extract 0 ts.length).toList=d.toList:=by rw[<- Pu];simp
   rw[e1,e2] at p3;exact p3
 · rw[List.pairwise_map,List.pairwise_iff_getElem];intro i j hi hj AC;have l9:j<d'.size:=by simpa using hj
   have h4:=hs i j (Nat.zero_le _) AC (by omega);rw[Kn,getElem!_pos d' i (by omega),getElem!_pos d' j l9] at h4;simpa using h4
 · have:=g9 (enc:=tpv) (n:=n) d' os (by rw[mH];exact aa);rw[mH] at this;rw[List.map_map];exact this
end Go.Proofs.YtoiajjobecinpaaGreat
namespace Go.Proofs.YtoiajjobecinpaaGreat
open Go.RowKit Go.Shelf Go.Lib Go.Proofs
set_option linter.unusedVariables false
set_option linter.unusedSimpArgs false
section
attribute [local go_sem] Oper.semAt_some
theorem jj (gb:Nat) (id:Int) (W:World) :
 Calls Tryz.prog 112 #[.pointer (some ⟨gb,0,none⟩),I id] W fun e w'=>e=.returned (.func (.func 155) #[] #[.pointer (some ⟨W.heap.size+1,0,none⟩),.pointer (some ⟨W.heap.size,0,none⟩)]) /\
  (W.alloc (.cells #[.pointer (some ⟨gb,0,none⟩)] 113)).alloc (.cells #[I id] 3)=w':=by
 go_enter Tryz.func112,Tryz.ntmps112;go_wp2
 go_ret
 exact⟨by simp,rfl⟩
theorem uE (n:Nat) (hn:2<=n) (Bi Bg gb:Nat) (gs:List (Bool×Int)) (id:Int) (xs:List G16) (w:World) (OW:Bi<w.heap.size) (MS:Bg<w.heap.size) (LM:gb<w.heap.size)
 (c1:w.cell? ⟨Bi,0,none⟩=some (I id)) (c2:w.cell? ⟨Bg,0,none⟩=some (.pointer (some ⟨gb,0,none⟩))) (hG:GroupsAt w gb gs) (hL:zq gs id xs) :
 SeqStopsK Fence.wide n Tryz.prog 155 #[.pointer (some ⟨Bi,0,none⟩),.pointer (some ⟨Bg,0,none⟩)] (fun x:G16=>#[I x.1]) (KpG gb Bg) (fun ys=>ys=xs) (fun pre=>pre <+: xs) xs.length w:=fun l J Jx W hW _ _ hY h0=>
 UH n hn l Bi Bg gb gs id xs J Jx hY W ((hW.cell (p:=⟨Bi,0,none⟩) OW).trans c1) ((hW.cell (p:=⟨Bg,0,none⟩) MS).trans c2) (hG.same (hW.block gb LM)) hL h0
theorem fS {W:World} {B:Nat} {v:Value} {t:TypeId} (h:W.heap[B]? = some (.cells #[v] t (0,0))):W.cell? ⟨B,0,none⟩=some v/\W.frozen? ⟨B,0,none⟩=false:=by
 constructor <;> simp[World.cell?,World.frozen?,h]
theorem zv (W:World) (v:Value) (t:TypeId):(W.alloc (.cells #[v] t)).cell? ⟨W.heap.size,0,none⟩=some v/\(W.alloc (.cells #[v] t)).frozen? ⟨W.heap.size,0,none⟩=false:=
 fS (World.alloc_heap_new W _)
theorem zY {W:World} {a:Addr} {v:Value} (o:Obj) (h:W.cell? a=some v) (hf:W.frozen? a=false):(W.alloc o).frozen? a=false:=(frozen_kept h (World.grownBy_alloc W o none) (fun r e=>by cases e)).trans hf
theorem Ug (gb:Nat) (gs:List (Bool×Int)) (id:Int) (xs:List G16) (w:World) (hG:GroupsAt w gb gs) (hL:zq gs id xs) (ag:xs.length<=1000) :
 CallsIn Fence.wide 5 Tryz.prog 100 #[.pointer (some ⟨gb,0,none⟩),I id] w fun e W'=>e=.returned (I xs.length)/\Below w.heap.size w W':=by
 have h1:1<=5:=by omega
 refine callsIn_of_wp_marks Tryz.func100 rfl trivial ?_ rfl;simp only[Tryz.ntmps100,List.size_toArray,List.length_cons,List.length_nil,Nat.reduceAdd,Nat.reduceSub,Array.replicate_succ,Array.replicate_zero,List.push_toArray,List.append_toArray,List.nil_append,List.cons_append];gi_wp2_with (refine⟨trivial,?_⟩;gi_at_call 112;refine(callsIn_wide.2 (jj gb id _)).mono ?_;rintro e w' ⟨rfl,rfl⟩)
 have eL:=hG.lt;have hs:=zv w (I 0) 3;have ab:=zv (w.alloc (.cells #[I 0] 3)) (.pointer (some ⟨gb,0,none⟩)) 113;have ar:=zv ((w.alloc (.cells #[I 0] 3)).alloc (.cells #[.pointer (some ⟨gb,0,none⟩)] 113)) (I id) 3;simp only[World.size_alloc] at ab ar;have en:Below w.heap.size w (((w.alloc (.cells #[I 0] 3)).alloc (.cells #[.pointer (some ⟨gb,0,none⟩)] 113)).alloc (.cells #[I id] 3)):=(((Below.refl _ w).alloc (Nat.le_refl _) _).alloc (by simp) _).alloc (by simp;omega) _;refine wpIn_rangeFunc_ownF rfl h1 (gf:=155) (lb:=#[.pointer (some ⟨w.heap.size+1+1,0,none⟩),.pointer (some ⟨w.heap.size+1,0,none⟩)]) rfl trivial (enters_of Tryz.func155 (by kernel_rfl) rfl)
  (uE (5-1) (by omega) (w.heap.size+1+1) (w.heap.size+1) gb gs id xs _ (by simp) (by simp) (by simp;omega) ar.1 (c2a _ ab.1) (hG.same (en.block gb eL)) hL) KpG.t (KpG.b (by simp;omega) (by simp)) (Below.refl _ _) (fun _=>rfl)
  (fun pre W=>(W.cell? ⟨w.heap.size,0,none⟩=some (I (pre.length:Nat))/\W.frozen? ⟨w.heap.size,0,none⟩=false)/\Below w.heap.size w W)
  (fun _ _ _=>False)
  (OwnFrom.and (Own.from (fun s A B row hs hg hr=>⟨cell_kept hs.1 hg hr,(frozen_kept hs.1 hg hr).trans hs.2⟩) _) (ownFrom_below (Nat.le_refl _) (by simp;omega)))
  (fun _ _ _ _ _ hs _ _=>hs)
  ⟨⟨c2a _ (c2a _ hs.1),zY _ (c2a _ hs.1) (zY _ hs.1 hs.2)⟩,en⟩
  (fun x=>{tmps:=#[.pointer (some ⟨gb,0,none⟩),I id,undef,undef,I 0,.pointer (some ⟨w.heap.size,0,none⟩),.pointer (some ⟨gb,0,none⟩),I id,.func (.func 155) #[] #[.pointer (some ⟨w.heap.size+1+1,0,none⟩),.pointer (some ⟨w.heap.size+1,0,none⟩)],(I x.1),undef,undef,undef],defers:=[]}) ?assign ?body ?done ?stop
 case assign=>
  intro l x W K hK;gi_wp2
  simpa using hK
 case body=>
  rintro l pre x W ⟨⟨hc,hf⟩,hB⟩ sE;have I1:(pre.length:Int)<=1000:=by omega
  gi_wp2
  refine⟨KeepsOthers.setCell _ _ _,⟨Below.heap_setCell _ _ _ _ (by simp;omega),Below.heap_setCell _ _ _ _ (by simp)⟩,⟨?_,by rw[World.frozen?_setCell];exact hf⟩,hB.setCell (p:=⟨w.heap.size,0,none⟩) (Nat.le_refl _) _⟩;rw[List.length_append];simpa using World.cell?_setCell_same _ _ _ hc
 case done=>
  rintro D ys W hD rfl ⟨⟨hc,_⟩,hB⟩ hK;gi_wp2
  refine⟨by simp,.inl ⟨_,_,rfl,run_takeDeferred hK,?_⟩⟩;exact⟨_,results_tmp rfl _ _ _,rfl,hB.trans (belowK_b (w:=w) (Nat.le_refl _) W D _ _ (by simp at hD;omega) hK rfl rfl)⟩
 case stop=>
  rintro D c pre W _ _ h _;exact h.elim
theorem vx (gb:Nat) (gs:List (Bool×Int)) (id:Int) (xs:List G16) (w:World) (hG:GroupsAt w gb gs) (hL:zq gs id xs) (ag:xs.length<=1000) :
 Calls Tryz.prog 100 #[.pointer (some ⟨gb,0,none⟩),I id] w fun e W'=>e=.returned (I xs.length)/\Below w.heap.size w W':=
 callsIn_wide.1 (Ug gb gs id xs w hG hL ag)
end
def ua (o:Oper):Bool:=match o.op with | .defer _=>false | _=>true
theorem cM {o:Oper} (h:ua o=true):∀c,o.op≠.defer c:=by
 intro c hc;unfold ua at h;rw[hc] at h;cases h
theorem Yx {F:Fence} {n:Nat} {P:Program} {o:Oper} {a:Act} {w:World} {K:Act->World->Prop} {Q:Exit->Act->World->Prop} (l:Nat) (sF:F.round=none) (hn:ua o=true) (h:o.wpIn F n P a w K Q):o.wpIn (F.inRound l) n P a w K Q:=by
 unfold Oper.wpIn at h⊢;refine⟨h.1,?_⟩;have h2:=h.2;rw[sF,Oper.semAt_none] at h2;rw[Oper.semAt_eq _ _ _ (cM hn)];exact h2
theorem Xl {F:Fence} {n:Nat} {P:Program} {ops:Array Oper} {Q:Exit->Act->World->Prop} {i:Nat} {K:Act->World->Prop} {a:Act} {w:World} (l:Nat) (sF:F.round=none) (hn:ops.all ua=true) (h:wpOpIn F n P ops Q i K a w):wpOpIn (F.inRound l) n P ops Q i K a w:=by
 unfold wpOpIn at h⊢;split
 · rename_i e;rw[e] at h;exact h
 · rename_i o e;rw[e] at h;simp only at h;split
   · rename_i hw;rw[if_pos hw] at h;exact Yx l sF (Array.all_eq_true'.1 hn o (Array.mem_of_getElem? e)) h
   · rename_i hw;rw[if_neg hw] at h;exact h
theorem qt {F:Fence} {n:Nat} {P:Program} {md:Region.Mode} {ops:Array Oper} {Q:Exit->Act->World->Prop} (l:Nat) (sF:F.round=none) (hn:ops.all ua=true):∀(fuel:Nat) (listed:Array Bool) (a:Act) (w:World),wpAnyIn F n P md ops Q fuel listed a w->wpAnyIn (F.inRound l) n P md ops Q fuel listed a w
 | 0,_,_,_,h=>h
 | fuel+1,_,_,_,h=>⟨h.1,fun i hi=>Xl l sF hn (wpOpIn_mono (fun a w=>qt l sF hn fuel _ a w) (h.2 i hi))⟩
theorem xN {F:Fence} {n:Nat} {P:Program} {id:Nat} {Q:Exit->Act->World->Prop} {a:Act} {w:World} {l:List Oper} {r:Nat} (sF:F.round=none) (hm:P.follows .mixedOrders=true) (hB:Region.lexB .any l.toArray=true) (hn:l.toArray.all ua=true)
 (h:wpQuietIn F n P l.toArray (fun w'=>∃n,w'=w.drewN n) (fun a'=>∀w',(∃n,w'=w.drewN n)->Q .normal a' w') l a):(Code.region id l.toArray true).wpIn (F.inRound r) n P Q a w:=by
 simp only[Region.lexB,Bool.and_eq_true] at hB;refine wpIn_region_any hm (qt r sF hn _ _ _ _ (wpAnyIn_of_quiet (C:=fun w'=>∃n,w'=w.drewN n) (Q:=fun a'=>∀w',(∃n,w'=w.drewN n)->Q .normal a' w') sF (fun _ w' nj h=>h w' nj) _ _ _ _ ⟨1,rfl⟩ ?_));have:=wpAnyQIn_lex (F:=F) (n:=n) (C:=fun w'=>∃n,w'=w.drewN n) (md:=.any) hB.1 l.toArray.toList 0 (Array.replicate l.toArray.size false) a (by simp) (by simpa using hB.2) h;simpa using this
theorem W7 {n:Nat} {P:Program} {o:Oper} {a:Act} {w:World} {K:Act->World->Prop} {Q:Exit->Act->World->Prop} (h:o.wp P a w K Q):o.wpIn Fence.wide n P a w K Q:=by
 unfold Oper.wpIn;refine⟨fun _ _=>trivial,?_⟩;unfold Oper.wp at h;show o.uponIn Fence.wide n P a K Q ((Oper.semAt none a.eval o).run P w);rw[Oper.semAt_none];generalize(execOp a.eval o).run P w=r at h⊢;cases r with
 | ok x w'=>
  cases x with
  | value v=>exact h
  | skip=>exact h
  | defer d=>exact h
  | enter f args=>exact⟨fun e=>by simp[Fence.wide] at e,callsIn_wide.2 h⟩
  | row r args=>exact⟨fun e=>by simp[Fence.wide] at e,fun c cs _=>let ⟨v,w',r,s⟩:=h c cs;⟨v,w',r,stepsIn_wide.2 s⟩⟩
  | _=>exact h.elim
 | halt e w'=>
  cases e <;> first | exact h | exact h.elim
theorem V9 {n:Nat} {P:Program} {ops:Array Oper} {Q:Exit->Act->World->Prop} {i:Nat} {K:Act->World->Prop} {a:Act} {w:World} (hQ:∀a w,¬Q .outgrown a w) (h:wpOp P ops Q i K a w):wpOpIn Fence.wide n P ops Q i K a w:=by
 unfold wpOp at h;unfold wpOpIn;split
 · rename_i e;rw[e] at h;exact h
 · rename_i o e;rw[e] at h;simp only at h;split
   · rename_i hw;rw[if_pos hw] at h;rcases h with h | ⟨_,a',w',h⟩
     · exact W7 h
     · exact absurd h (hQ a' w')
   · rename_i hw;rw[if_neg hw] at h;exact⟨fun _ _=>trivial,h⟩
theorem fP {n:Nat} {P:Program} {md:Region.Mode} {ops:Array Oper} {Q:Exit->Act->World->Prop} (hQ:∀a w,¬Q .outgrown a w):∀(fuel:Nat) (listed:Array Bool) (a:Act) (w:World),wpAny P md ops Q fuel listed a w->wpAnyIn Fence.wide n P md ops Q fuel listed a w
 | 0,_,_,_,h=>h
 | fuel+1,_,_,_,h=>⟨h.1,fun i hi=>V9 hQ (wpOp_mono (fun a w=>fP hQ fuel _ a w) (h.2 i hi))⟩
theorem fQ {n:Nat} {P:Program} {id:Nat} {ops:Array Oper} {Q:Exit->Act->World->Prop} {a:Act} {w:World} {r:Nat} (hm:P.follows .mixedOrders=true) (hn:ops.all ua=true) (hQ:∀a w,¬Q .outgrown a w)
 (h:wpAny P .any ops Q ops.size (Array.replicate ops.size false) a w.drew):(Code.region id ops true).wpIn (Fence.wide.inRound r) n P Q a w:=
 wpIn_region_any hm (qt r rfl hn _ _ _ _ (fP hQ _ _ _ _ h))
theorem js {n:Nat} {P:Program} {id:Nat} {ops:Array Oper} {Q:Exit->Act->World->Prop} {a:Act} {w:World} {r:Nat} {S:World->Prop} {T:List Nat} (hm:P.follows .mixedOrders=true) (hn:ops.all ua=true) (hQ:∀a w,¬Q .outgrown a w)
 (h:xB P .any ops Q S T ops.size (Array.replicate ops.size false) a w.drew):(Code.region id ops true).wpIn (Fence.wide.inRound r) n P Q a w:=
 fQ hm hn hQ (kE _ _ _ _ h)
def nxt (s a:Int):Int×Int:=
 if s<0\/6<s\/a<1\/8<a then(0,1)
 else if (a=1/\s=1)\/(a=3/\s=3)\/(a=5/\s=4)\/(a=7/\s=5) then(2,0)
 else if a=2/\s=2 then(3,0)
 else if a=4/\(s=2\/s=3\/s=5) then(4,0)
 else if a=6/\(s=2\/s=3) then(5,0)
 else if a=8/\1<=s/\s<=5 then(6,0)
 else(0,4)
theorem Ks (s a:Int) (h:s<0\/6<s\/a<1\/8<a):nxt s a=(0,1):=by unfold nxt;rw[if_pos h]
def QL (F:Nat) (s a:Int) (w:World):Prop:=
 Calls Tryz.prog F #[I s,I a] w fun e w'=>e=.returned (.tuple #[I (nxt s a).1,I (nxt s a).2])/\w=w'
theorem bZ (s a:Int) (w:World):QL 149 s a w:=by
 unfold QL;by_cases h:s<0\/6<s\/a<1\/8<a
 · rw[Ks s a h];by_cases c1:s<0
   · clear h;go_enter Tryz.func149,Tryz.ntmps149;go_wp2
     go_ret2
     exact⟨rfl,rfl⟩
   · by_cases c2:6<s
     · clear h;go_enter Tryz.func149,Tryz.ntmps149;go_wp2
       go_ret2
       exact⟨rfl,rfl⟩
     · by_cases c3:a<1
       · clear h;go_enter Tryz.func149,Tryz.ntmps149;go_wp2
         go_ret2
         exact⟨rfl,rfl⟩
       · have c4:8<a:=by omega
         clear h;go_enter Tryz.func149,Tryz.ntmps149;go_wp2
         go_ret2
         exact⟨rfl,rfl⟩
 · have hs:s=0\/s=1\/s=2\/s=3\/s=4\/s=5\/s=6:=by omega
   have ha:a=1\/a=2\/a=3\/a=4\/a=5\/a=6\/a=7\/a=8:=by omega
   clear h;rcases hs with rfl | rfl | rfl | rfl | rfl | rfl | rfl <;>
    rcases ha with rfl | rfl | rfl | rfl | rfl | rfl | rfl | rfl
   all_goals as_aux_lemma=>
    go_enter Tryz.func149,Tryz.ntmps149;go_wp2
    go_ret2
    exact⟨rfl,rfl⟩
structure TryIn (W:World) (tb cb:Nat) (t:Tr) (X:Nat->Prop):Prop where
 at_:QR W tb cb t
 here:X tb
 lt:∀k,X k->k<W.heap.size
 bytes:t.stg=2->∃a n d,t.b=.slice a n d/\BSl W a n/\n<=50000/\n<=d/\d<=9223372036854775807/\∀g i,0<n->a=some ⟨g,i,none⟩->X g/\g≠tb/\∀j,W.frozen? ⟨g,j,none⟩=false
 queue:(t.stg=3\/t.stg=4)->∃qb G cur its,t.q=.pointer (some ⟨qb,0,none⟩)/\QIn W qb G t.tag (J5 t.base cur its)/\Jq cur its/\(-1152921504606846976<=t.base/\t.base<=1152921504606846976)/\∀k,G k->X k/\k≠tb
theorem TryIn.same {W W':World} {tb cb:Nat} {t:Tr} {X:Nat->Prop} (h:TryIn W tb cb t X) (hs:W.heap.size<=W'.heap.size) (hb:∀k,X k->W'.heap[k]? = W.heap[k]?):TryIn W' tb cb t X:=by
 refine⟨h.at_.same (hb tb h.here),h.here,fun k hk=>Nat.lt_of_lt_of_le (h.lt k hk) hs,fun h2=>?_,fun h3=>?_⟩
 · obtain⟨a,n,d,h1,Bv,h3,h4,h5,h6⟩:=h.bytes h2;refine⟨a,n,d,h1,?_,h3,h4,h5,fun g i hn ha=>⟨(h6 g i hn ha).1,(h6 g i hn ha).2.1,fun j=>(World.frozen?_of_block (a:=⟨g,j,none⟩) (hb g (h6 g i hn ha).1)).trans ((h6 g i hn ha).2.2 j)⟩⟩;by_cases hn:0<n
   · exact Bv.same (fun k hk ⟨i,e⟩=>hb k (h6 k i hn e).1)
   · obtain rfl:n=0:=by omega
     exact BSl.none _ _
 · obtain⟨qb,G,cur,its,h1,hq,h4,h5,h6⟩:=h.queue h3;exact⟨qb,G,cur,its,h1,hq.same hs (fun k hk=>hb k (h6 k hk).1),h4,h5,h6⟩
section
attribute [local go_sem] Oper.semAt_some
def JA (e:Ending):Prop:=∃r:Bool,e=.returned (.bool r)
end
end Go.Proofs.YtoiajjobecinpaaGreat
