/- All tasks, by their IDs. Whether a group on the way up has nothing left. hold, where nothing is spen -/
import Derived.Test.YtoiajjobecinpaaGreatTM10
set_option maxHeartbeats 4000000
set_option maxRecDepth 100000
namespace Go.Proofs.YtoiajjobecinpaaGreat
open Go.RowKit Go.Shelf Go.Lib Go.Proofs
set_option linter.unusedVariables false
set_option linter.unusedSimpArgs false
section
attribute [local go_sem] Oper.semAt_some
theorem Ki:(Tryz.prog.info? 188).map (fun i=>(i.zero,i.size,i.bytes))=some (some (.pointer none),1,8):=by kernel_rfl
def gn (s:Sy):Prop:=∀x∈zf s.ps,(0<=x/\x<=9223372036854775807)/\∃t,s.tasks x=some t/\t.id=x
def qU (n₀ B:Nat) (T:TypeId) (sz:Nat) (xs:List Value) (n:Nat) (W:World):Prop:=
 ∃v,W.cell? ⟨B,0,none⟩=some v/\W.frozen? ⟨B,0,none⟩=false/\W.ownsRow n₀ T sz v n xs
theorem qU.kept {n₀ B:Nat} {T:TypeId} {sz n:Nat} {xs:List Value} {A C:World} {row:Option Nat} (h:qU n₀ B T sz xs n A) (hg:A.grownBy C row) (hr:∀r,row=some r->∃o:Obj,A.heap[r]? = some o/\o.isCells=false):qU n₀ B T sz xs n C:=by
 obtain⟨v,h1,h2,h3⟩:=h;refine⟨v,cell_kept h1 hg hr,(frozen_kept h1 hg hr).trans h2,zb h3 (fun k hk=>hg.block k (h3.lt k hk).2 (fun e=>?_))⟩;obtain⟨o,ho,hc⟩:=hr k e.symm;rcases h3.2 with⟨e1,_⟩ | ⟨g,cap,cur,e1,_,la,_⟩
 · rw[e1] at hk;simp[Value.ownBlock] at hk
 · rw[e1] at hk;have:g=k:=by simpa [Value.ownBlock] using hk
   subst this;rw[la] at ho;cases ho;cases hc
theorem bn {n₀ B g cap n:Nat} {T:TypeId} {xs news:List Value} {sz:Nat} {W w4:World} {v:Value} {o:Obj} (hc:W.cell? ⟨B,0,none⟩=some v) (hf:W.frozen? ⟨B,0,none⟩=false) (aa:W.ownsRow n₀ T sz v n xs) (hB:B<n₀) (hn:n₀<=W.heap.size)
 (hg:(W.alloc o).grownBy w4 v.ownBlock) (al:w4.ownsRow n₀ T sz (.slice (some ⟨g,0,none⟩) (n+1) cap) (n+1) (xs++news)) (aE:v.ownBlock=some g\/g=W.heap.size+1) :
 KeepsOthers W (w4.setCell ⟨B,0,none⟩ (.slice (some ⟨g,0,none⟩) (n+1) cap))/\KpL B W (w4.setCell ⟨B,0,none⟩ (.slice (some ⟨g,0,none⟩) (n+1) cap)) /\
  qU n₀ B T sz (xs++news) (n+1) (w4.setCell ⟨B,0,none⟩ (.slice (some ⟨g,0,none⟩) (n+1) cap))/\(∀j,j<n₀->j≠B->(w4.setCell ⟨B,0,none⟩ (.slice (some ⟨g,0,none⟩) (n+1) cap)).heap[j]? = W.heap[j]?) /\
  (w4.setCell ⟨B,0,none⟩ (.slice (some ⟨g,0,none⟩) (n+1) cap)).os=W.os/\(w4.setCell ⟨B,0,none⟩ (.slice (some ⟨g,0,none⟩) (n+1) cap)).tape=W.tape/\(w4.setCell ⟨B,0,none⟩ (.slice (some ⟨g,0,none⟩) (n+1) cap)).output=W.output:=by
 have Bc:B<W.heap.size:=by omega
 have Og:∀j,v.ownBlock=some j->n₀<=j/\j<W.heap.size:=fun j hj=>aa.lt j hj;have ae:∀(j:Nat) (o':Obj),v.ownBlock=some j->W.heap[j]? = some o'->o'.isCells=true:=by
  intro j o' hj nz;rcases aa.2 with⟨e1,_⟩ | ⟨g',cap',cur,e1,_,la,_⟩
  · rw[e1] at hj;simp[Value.ownBlock] at hj
  · rw[e1] at hj;have:g'=j:=by simpa [Value.ownBlock] using hj
    subst this;rw[la] at nz;cases nz;rfl
 have hz:=hg.size;rw[World.size_alloc] at hz;have Fk:w4.cell? ⟨B,0,none⟩=some v:=(World.cell?_of_block (a:=⟨B,0,none⟩) ((hg.block B (by simp;omega) (fun e=>by have:=(Og B e.symm).1;omega)).trans (Below.heap_alloc _ _ _ Bc))).trans hc;have Ip:w4.frozen? ⟨B,0,none⟩=false:=(World.frozen?_of_block (a:=⟨B,0,none⟩) ((hg.block B (by simp;omega) (fun e=>by have:=(Og B e.symm).1;omega)).trans (Below.heap_alloc _ _ _ Bc))).trans hf;have aZ:(w4.setCell ⟨B,0,none⟩ (.slice (some ⟨g,0,none⟩) (n+1) cap)).cell? ⟨B,0,none⟩=some (.slice (some ⟨g,0,none⟩) (n+1) cap):=World.cell?_setCell_same _ _ _ Fk;have em:∀j,j<W.heap.size->j≠B->v.ownBlock≠some j->(w4.setCell ⟨B,0,none⟩ (.slice (some ⟨g,0,none⟩) (n+1) cap)).heap[j]? = W.heap[j]?:=fun j hj h1 h2=>by
  rw[Below.heap_setCell _ _ _ _ (by simpa using h1),hg.block j (by simp;omega) (fun e=>h2 e.symm),Below.heap_alloc _ _ _ hj]
 refine⟨⟨by simp;omega,fun k o' hk nz=>?_⟩,⟨by simp;omega,fun k o' hk nz h1 h2=>?_,fun v' k iC hk=>?_⟩,⟨_,aZ,by rw[World.frozen?_setCell];exact Ip,?_⟩,fun j hj h1=>em j (by omega) h1 (fun e=>by have:=(Og j e).1;omega),?_,?_,?_⟩
 · have aw:=yW hk;by_cases e:k=B
   · subst e;exfalso
     simp only[World.cell?,hk] at hc;cases o' <;> simp[Obj.isCells] at nz hc
   · exact(em k aw e (fun e2=>by rw[ae k o' e2 hk] at nz;cases nz)).trans hk
 · exact(em k (yW hk) h1 (h2 v hc)).trans hk
 · rw[aZ] at iC;cases iC;have:g=k:=by simpa [Value.ownBlock] using hk
   subst this;rcases aE with e | e
   · exact .inl ⟨v,hc,e⟩
   · exact .inr (by omega)
 · exact zb al (fun j hj=>Below.heap_setCell _ _ _ _ (by simp;have:=(al.lt j hj).1;omega))
 · show w4.os=W.os;exact hg.os
 · show w4.tape=W.tape;exact hg.tape
 · show w4.output=W.output;exact hg.output
def QP (sb mb B1 B:Nat) (x:Int) (p v:Value) (W:World):Prop:=
 W.cell? ⟨B1,0,none⟩=some (.pointer (some ⟨sb,0,none⟩))/\W.cell? ⟨B,0,none⟩=some v/\W.cell? ⟨sb,67,none⟩=some (.map (some mb))/\(Instr.lookup 117 (.map (some mb)) (I x) false).run Tryz.prog W=.ok p W
theorem Wt {W:World} {sb gb nb pb mb n:Nat} {cv:Value} {D:DataW Unit} {cbs:List Nat} {tb:Int->Nat} {own:Nat->Option Own} {s:Sy} (h:SysAt W sb gb nb pb mb n cv D cbs tb own s)
 (hd:gn s) {x:Int} (hx:x∈zf s.ps):(Instr.lookup 117 (.map (some mb)) (I x) false).run Tryz.prog W=.ok (.pointer (some ⟨tb x,0,none⟩)) W:=by
 obtain⟨⟨h1,h2⟩,t,ht,_⟩:=hd x hx;have:=h.look x (by omega) h2;rw[ht] at this;exact this
theorem YU (sb gb nb pb mb n:Nat) (cv:Value) (D:DataW Unit) (cbs:List Nat) (tb:Int->Nat) (own:Nat->Option Own) (s:Sy) (w:World)
 (h:SysAt w sb gb nb pb mb n cv D cbs tb own s) (hz:xj s.ps) (hd:gn s) (ay:zf s.ps≠[]) :
 Calls Tryz.prog 117 #[.pointer (some ⟨sb,0,none⟩)] w fun e W'=>∃(v:Value) (ids:List Int),e=.returned v/\ids.Perm (zf s.ps)/\ids.Pairwise (fun a b=>¬b<a)/\W'.ownsRow w.heap.size 188 1 v ids.length (ids.map fun x=>.pointer (some ⟨tb x,0,none⟩))/\Below w.heap.size w W':=by
 have h1:1<=5:=by omega
 have le:=h.lt sb (by rw[h.osb];simp);have FH:=h.slots.lt;have c66:=h.c66;have nu:(zf s.ps).length<=64:=Nat.le_trans (yl _ _) hz.1;have HS:=lH h;have HD:=lH hd;have tV:=lH ay;have HZ:=lH hz;clear h hd ay hz;refine callsIn_wide.1 (callsIn_of_wp_marks (n:=5) Tryz.func117 rfl trivial (wpIn_wide.2 ?_) rfl);simp only[Tryz.ntmps117,List.size_toArray,List.length_cons,List.length_nil,Nat.reduceAdd,Nat.reduceSub,Array.replicate_succ,Array.replicate_zero,List.push_toArray,List.append_toArray,List.nil_append,List.cons_append];go_wp2_with (go_at_call 141;refine(fD nb _).mono ?_;rintro e w' ⟨rfl,rfl⟩)
 have q0:=zv w (.pointer (some ⟨sb,0,none⟩)) 81;have q1:=zv (w.alloc (.cells #[.pointer (some ⟨sb,0,none⟩)] 81)) (.slice none 0 0) 202;have q2:=zv ((w.alloc (.cells #[.pointer (some ⟨sb,0,none⟩)] 81)).alloc (.cells #[.slice none 0 0] 202)) (.pointer (some ⟨nb,0,none⟩)) 115;have f1:=zY (.cells #[.pointer (some ⟨nb,0,none⟩)] 115) q1.1 q1.2;replace q0:=c2a (.cells #[.pointer (some ⟨nb,0,none⟩)] 115) (c2a (.cells #[.slice none 0 0] 202) q0.1);replace q1:=c2a (.cells #[.pointer (some ⟨nb,0,none⟩)] 115) q1.1;replace q2:=q2.1;simp only[World.size_alloc] at q0 q1 q2 f1;have en:Below w.heap.size w (((w.alloc (.cells #[.pointer (some ⟨sb,0,none⟩)] 81)).alloc (.cells #[.slice none 0 0] 202)).alloc (.cells #[.pointer (some ⟨nb,0,none⟩)] 115)):=(((Below.refl _ w).alloc (Nat.le_refl _) _).alloc (by simp) _).alloc (by simp;omega) _;have hz:(((w.alloc (.cells #[.pointer (some ⟨sb,0,none⟩)] 81)).alloc (.cells #[.slice none 0 0] 202)).alloc (.cells #[.pointer (some ⟨nb,0,none⟩)] 115)).heap.size=w.heap.size+1+1+1:=by simp
 generalize((w.alloc (.cells #[.pointer (some ⟨sb,0,none⟩)] 81)).alloc (.cells #[.slice none 0 0] 202)).alloc (.cells #[.pointer (some ⟨nb,0,none⟩)] 115)=W1 at q0 q1 q2 f1 en hz⊢;refine(wpIn_wide (n:=5)).1 (wpIn_rangeFunc_ownF rfl h1 (gf:=171) (lb:=#[.pointer (some ⟨w.heap.size+1+1,0,none⟩)]) rfl trivial (enters_of Tryz.func171 (by kernel_rfl) rfl)
  (k7 (fun x=>x∈zf s.ps) (5-1) (by omega) (w.heap.size+1+1) nb pb (w.heap.size+1) s.ps (zf s.ps).attach (List.attach_map_subtype_val _) W1 q2 (HS.out.below en).slots HZ.out q1) KpL.t (KpL.b (by omega)) (Below.refl _ _) (fun _=>rfl)
  (fun pre W=>(W1.heap.size<=W.heap.size/\W.cell? ⟨w.heap.size,0,none⟩=some (.pointer (some ⟨sb,0,none⟩))/\qU W1.heap.size (w.heap.size+1) 188 1 (pre.map fun x=>.pointer (some ⟨tb x.1,0,none⟩)) pre.length W)/\Below w.heap.size w W)
  (fun _ _ _=>False)
  (OwnFrom.and (Own.from (fun s A B row hs hg hr=>⟨Nat.le_trans hs.1 hg.size,cell_kept hs.2.1 hg hr,hs.2.2.kept hg hr⟩) _) (ownFrom_below (Nat.le_refl _) (by omega)))
  (fun _ _ _ _ _ hs _ _=>hs)
  ⟨⟨Nat.le_refl _,q0,_,q1,f1,World.ownsRow_nil ..⟩,en⟩
  (fun x=>{tmps:=#[Value.pointer (some ⟨sb,0,none⟩),.pointer (some ⟨w.heap.size,0,none⟩),.slice none 0 0,.pointer (some ⟨w.heap.size+1,0,none⟩),I x.1,.pointer (some ⟨sb,0,none⟩),.pointer (some ⟨sb,0,none⟩),.pointer (some ⟨sb,66,none⟩),.pointer (some ⟨nb,0,none⟩),.func (.func 171) #[] #[.pointer (some ⟨w.heap.size+1+1,0,none⟩)],I x.1,undef,undef,undef,undef,undef,undef,undef,undef,undef,undef,undef,undef],defers:=[]}) ?assign ?body ?done ?stop)
 case assign=>
  intro l x W K hK;gi_wp2
  simpa using hK
 case body=>
  rintro l pre ⟨x,hx⟩ W ⟨⟨p9,aX,v,hv,Er,aa⟩,hB⟩ sE;have e1:1<=5-1-1:=by omega
  have hmx:Tryz.prog.follows .mixedOrders=true:=by kernel_rfl
  obtain⟨i0,hi,eG,aI,et⟩:=info_parts Ki;have my:∀W2:World,Below w.heap.size w W2->(Instr.lookup 117 (.map (some mb)) (I x) false).run Tryz.prog W2=.ok (.pointer (some ⟨tb x,0,none⟩)) W2:=fun W2 hb=>Wt (HS.out.below hb) HD.out hx;have Gn:∀W2:World,Below w.heap.size w W2->W2.cell? ⟨sb,67,none⟩=some (.map (some mb)):=fun W2 hb=>(HS.out.below hb).c67;have I1:pre.length<64:=by rw[List.length_attach] at sE;omega
  have Ot:=hB.size;have lr:QP sb mb w.heap.size (w.heap.size+1) x (.pointer (some ⟨tb x,0,none⟩)) v W.drew:=⟨aX,hv,Gn _ hB.drew,my _ hB.drew⟩
  gi_wp2
  refine js (S:=QP sb mb w.heap.size (w.heap.size+1) x (.pointer (some ⟨tb x,0,none⟩)) v) (T:=[9]) hmx (by kernel_rfl) (fun _ _ h=>h) ?_;refine zS (i:=0) (v:=?_) rfl (by kernel_rfl) (by kernel_rfl) (by kernel_rfl) (by kernel_rfl) (fun _ _ _ h=>h) (Or.inl ⟨by rfl,?_⟩) (by assumption) ?_;rotate_left
  · intro w2 iq;obtain⟨s1,s2,s3,s4⟩:=iq;go_simp;(first | done | with_reducible rfl)
  simp only[Act.put,List.setIfInBounds_toArray,List.set_cons_zero,List.set_cons_succ];refine zS (i:=1) (v:=?_) rfl (by kernel_rfl) (by kernel_rfl) (by kernel_rfl) (by kernel_rfl) (fun _ _ _ h=>h) (Or.inl ⟨by rfl,?_⟩) (by assumption) ?_;rotate_left
  · intro w2 iq;obtain⟨s1,s2,s3,s4⟩:=iq;go_simp;(first | done | with_reducible rfl)
  simp only[Act.put,List.setIfInBounds_toArray,List.set_cons_zero,List.set_cons_succ];refine zS (i:=2) (v:=?_) rfl (by kernel_rfl) (by kernel_rfl) (by kernel_rfl) (by kernel_rfl) (fun _ _ _ h=>h) (Or.inl ⟨by rfl,?_⟩) (by assumption) ?_;rotate_left
  · intro w2 iq;obtain⟨s1,s2,s3,s4⟩:=iq;go_simp;(first | done | with_reducible rfl)
  simp only[Act.put,List.setIfInBounds_toArray,List.set_cons_zero,List.set_cons_succ];refine zS (i:=3) (v:=?_) rfl (by kernel_rfl) (by kernel_rfl) (by kernel_rfl) (by kernel_rfl) (fun _ _ _ h=>h) (Or.inl ⟨by rfl,?_⟩) (by assumption) ?_;rotate_left
  · intro w2 iq;obtain⟨s1,s2,s3,s4⟩:=iq;go_simp;(first | done | with_reducible rfl)
  simp only[Act.put,List.setIfInBounds_toArray,List.set_cons_zero,List.set_cons_succ];refine zS (i:=4) (v:=?_) rfl (by kernel_rfl) (by kernel_rfl) (by kernel_rfl) (by kernel_rfl) (fun _ _ _ h=>h) (Or.inl ⟨by rfl,?_⟩) (by assumption) ?_;rotate_left
  · intro w2 iq;obtain⟨s1,s2,s3,s4⟩:=iq;go_simp;(first | done | with_reducible rfl)
  simp only[Act.put,List.setIfInBounds_toArray,List.set_cons_zero,List.set_cons_succ];refine zS (i:=5) (v:=?_) rfl (by kernel_rfl) (by kernel_rfl) (by kernel_rfl) (by kernel_rfl) (fun _ _ _ h=>h) (Or.inl ⟨by rfl,?_⟩) (by assumption) ?_;rotate_left
  · intro w2 iq;obtain⟨s1,s2,s3,s4⟩:=iq;go_simp;(first | done | with_reducible rfl)
  simp only[Act.put,List.setIfInBounds_toArray,List.set_cons_zero,List.set_cons_succ];refine zS (i:=6) (v:=?_) rfl (by kernel_rfl) (by kernel_rfl) (by kernel_rfl) (by kernel_rfl) (fun _ _ _ h=>h) (Or.inl ⟨by rfl,?_⟩) (by assumption) ?_;rotate_left
  · intro w2 iq;obtain⟨s1,s2,s3,s4⟩:=iq;go_simp;(first | done | with_reducible rfl)
  simp only[Act.put,List.setIfInBounds_toArray,List.set_cons_zero,List.set_cons_succ];refine ze (i:=7) (by kernel_rfl) rfl (by kernel_rfl) ?_;intro K' hK;go_simp
  have sT:Below w.heap.size w ((W.alloc (.cells #[.pointer (some ⟨tb x,0,none⟩)] 188)).drew):=(hB.alloc Ot _).drew;have r8:QP sb mb w.heap.size (w.heap.size+1) x (.pointer (some ⟨tb x,0,none⟩)) v ((W.alloc (.cells #[.pointer (some ⟨tb x,0,none⟩)] 188)).drew):=⟨c2a _ aX,c2a _ hv,Gn _ sT,my _ sT⟩
  refine hK _ _ r8 ?_;clear hK;refine ze (i:=8) (by kernel_rfl) rfl (by kernel_rfl) ?_;intro K2 hK;refine step_append_lies _ rfl _ _ _ rfl W1.heap.size 188 i0 _ 1 8 Tryz.underlying202 hi eG aI et rfl (by omega) v pre.length (pre.map fun x:{x:Int // x∈zf s.ps}=>Value.pointer (some ⟨tb x.1,0,none⟩)) rfl (aa.alloc _) ⟨W.heap.size,0,none⟩ 1 1 [.pointer (some ⟨tb x,0,none⟩)] rfl rfl (World.news_of_block (cs:=#[.pointer (some ⟨tb x,0,none⟩)]) (t:=188) (fr:=(0,0)) (heap_alloc_new W _)) (by simp[Value.oneCell']) (by omega) (by unfold maxLen;omega) (by omega) (by simp;omega) (W.heap.size+1) (by simp) ?_;intro gg cp w1 ec ez aE NJ;have Ef:=aa.lt;have se:=ez.size;have mP:Below w.heap.size w w1:=sT.grown ez (by show w.heap.size<=(W.alloc _).heap.size;simp;omega) (fun j hj=>by have:=(Ef j hj).1;omega);have lS:∀j,j<W1.heap.size->w1.heap[j]? = W.heap[j]?:=fun j hj=>(ez.block j (by show j<(W.alloc _).heap.size;simp;omega) (fun e=>by have:=(Ef j e.symm).1;omega)).trans (Below.heap_alloc W _ j (by omega))
  have ny:QP sb mb w.heap.size (w.heap.size+1) x (.pointer (some ⟨tb x,0,none⟩)) v w1:=⟨(World.cell?_of_block (a:=⟨w.heap.size,0,none⟩) (lS w.heap.size (by omega))).trans aX,(World.cell?_of_block (a:=⟨w.heap.size+1,0,none⟩) (lS (w.heap.size+1) (by omega))).trans hv,Gn _ mP,my _ mP⟩
  have LL:w1.frozen? ⟨w.heap.size+1,0,none⟩=false:=(World.frozen?_of_block (a:=⟨w.heap.size+1,0,none⟩) (lS (w.heap.size+1) (by omega))).trans Er;have P3:=ny.2.1;refine hK _ _ ny ?_;clear hK;simp only[Act.put,List.setIfInBounds_toArray,List.set_cons_zero,List.set_cons_succ];refine zk (i:=9) (by kernel_rfl) rfl (by kernel_rfl) ?_;intro K3 hK;go_simp
  refine hK _ _ ?_;clear hK;refine zy (by kernel_rfl) ?_ _;have SO:(W.alloc (.cells #[.pointer (some ⟨tb x,0,none⟩)] 188)).grownBy w1 v.ownBlock:=⟨ez.os,ez.tape,ez.output,ez.size,ez.block⟩
  obtain⟨r1,r2,r3,r4,r5,r6,r7⟩:=bn hv Er aa (by omega) (by omega) SO ec aE;have T3:=se;refine⟨r1,r2,⟨?_,(World.cell?_of_block (a:=⟨w.heap.size,0,none⟩) (r4 w.heap.size (by omega) (by omega))).trans aX,?_⟩,mP.setCell (p:=⟨w.heap.size+1,0,none⟩) (by simp) _⟩
  · have:=r1.size;omega
  · rw[List.map_append,List.length_append];exact r3
 case done=>
  rintro D' ys W hD rfl ⟨⟨p9,aX,v,hv,Er,aa⟩,hB⟩ hK;obtain⟨ts,AN⟩:∃ts:List (Nat×Int),(zf s.ps).map (fun x=>(tb x,x))=ts:=⟨_,rfl⟩
  have lB:W.ownsRow W1.heap.size 188 1 v ts.length (ts.map ptv):=by
   have e1:((zf s.ps).attach.map fun x=>Value.pointer (some ⟨tb x.1,0,none⟩))=ts.map ptv:=by
    rw[<- AN,List.map_map];have:=congrArg (List.map fun x=>Value.pointer (some ⟨tb x,0,none⟩)) (List.attach_map_subtype_val (zf s.ps));rw[List.map_map] at this;exact this
   rw[e1] at aa;rw[List.length_attach] at aa;rw[show ts.length=(zf s.ps).length from by rw[<- AN,List.length_map]];exact aa
  have rU:ts≠[]:=by rw[<- AN];intro e;exact tV.out (List.map_eq_nil_iff.1 e)
  have Eo:0<ts.length:=by cases ts with | nil=>exact absurd rfl rU | cons a b=>simp
  have lm:ts.length<=64:=by rw[<- AN,List.length_map];exact nu
  obtain⟨g,c,A1⟩:∃g c,v=.slice (some ⟨g,0,none⟩) ts.length c:=by
   rcases lB.2 with⟨_,h0⟩ | ⟨g,cap,cur,e,_⟩
   · omega
   · exact⟨g,cap,e⟩
  subst A1;have eL:=lB.lt g rfl;have aM:∀p∈ts,W.cell? ⟨p.1,0,none⟩=some (I p.2)/\p.1≠g:=by
   intro p hp;rw[<- AN,List.mem_map] at hp;obtain⟨x,hx,rfl⟩:=hp;obtain⟨_,t,ht,hid⟩:=HD.out x hx;obtain⟨h5,h6⟩:=(HS.out.below hB).task x t ht;refine⟨by rw[<- hid];simpa [hid] using h5.id,fun e=>?_⟩;have:=HS.out.lt (tb x) (by rw[h6];simp);simp only at e;omega
  have lf:=Kz W1.heap.size g c ts W rU lB aM lm;have Sn:D'≠g:=by
   intro e;subst e;rcases lB.2 with⟨h0,_⟩ | ⟨g',cap,cur,e,_,la,_⟩
   · cases h0
   · simp only[Value.slice.injEq,Option.some.injEq,Addr.mk.injEq] at e;obtain⟨⟨rfl,_⟩,_⟩:=e;rw[la] at hK;cases hK
  have Gh:=lH AN;have n9:=hv;clear AN aM rU aa lB;go_wp2_with fail
  refine lf.mono ?_;rintro e w2 ⟨rfl,ts',hp,oK,aL,Ai⟩;have Dk:w2.cell? ⟨w.heap.size+1,0,none⟩=some (.slice (some ⟨g,0,none⟩) ts.length c):=(World.cell?_of_block (a:=⟨w.heap.size+1,0,none⟩) (Ai.block (w.heap.size+1) (by omega) (by omega))).trans n9;have MV:w2.heap[D']? = some (.deferred (some [])):=(Ai.block D' (yW hK) Sn).trans hK;have EV:Below w.heap.size w w2:=hB.trans (Ai.below hB.size (fun k hk=>by rw[hk];omega))
  have HP:=lH hp;have CC:=lH oK;have eJ:=lH aL;clear lf hp oK aL Ai;go_wp2_with fail
  refine⟨by simp,.inl ⟨_,_,rfl,run_takeDeferred MV,?_⟩⟩;have Oa:∀p∈ts',p.1=tb p.2:=fun p hp=>by
   have:=HP.out.subset hp;rw[<- Gh.out,List.mem_map] at this;obtain⟨x,_,rfl⟩:=this;rfl
  have NM:(ts'.map (·.2)).map (fun x=>Value.pointer (some ⟨tb x,0,none⟩))=ts'.map ptv:=by
   rw[List.map_map];exact List.map_congr_left (fun p hp=>by simp only[Function.comp_apply,ptv,Oa p hp])
  refine⟨_,results_tmp rfl _ _ _,?_⟩;refine⟨_,rfl,ts'.map (·.2),?_,?_,?_,EV.trans (belowK_b (w:=w) (Nat.le_refl _) _ D' _ _ (by omega) MV rfl rfl)⟩
  · have:=HP.out.map (·.2);rw[<- Gh.out,List.map_map,show((fun x:Nat×Int=>x.2)∘fun x:Int=>(tb x,x))=id from rfl,List.map_id] at this;exact this
  · rw[List.pairwise_map];exact CC.out
  · rw[NM,List.length_map,HP.out.length_eq];exact ownsRow_putObj (zM eJ.out (by omega)) _ MV rfl
 case stop=>
  rintro D' c pre W _ _ h _;exact h.elim
def zO (s:Sy) (x:G16):Bool:=xt (s.acc.getD x.1.toNat default).1 (s.acc.getD x.1.toNat default).2.1 (s.acc.getD x.1.toNat default).2.2.1 (s.acc.getD x.1.toNat default).2.2.2
theorem yS {W W':World} (h:Below W.heap.size W W'):KeepsOthers W W':=⟨h.size,fun k o hk _=>(h.block k (Array.getElem?_eq_some_iff.1 hk).1).trans hk⟩
theorem ut {gb Bg:Nat} {W W':World} (h:Below W.heap.size W W') (h1:gb<W.heap.size) (h2:Bg<W.heap.size):KpG gb Bg W W':=⟨h.block _ h1,h.block _ h2⟩
theorem gO {α:Type} {p:α->Bool} {xs ys:List α} (h:xs <+: ys) (hx:xs.any p=true):ys.any p=true:=by
 rw[List.any_eq_true] at hx⊢;obtain⟨x,h1,h2⟩:=hx;exact⟨x,h.subset h1,h2⟩
theorem jQ (sb gb nb pb mb n:Nat) (cv:Value) (D:DataW Unit) (cbs:List Nat) (tb:Int->Nat) (own:Nat->Option Own) (s:Sy) (b:Nat) (t:Tk) (xs:List G16) (w:World)
 (h:SysAt w sb gb nb pb mb n cv D cbs tb own s) (hT:TaskAt w b t) (hL:zq s.gs t.group xs) :
 Calls Tryz.prog 118 #[.pointer (some ⟨sb,0,none⟩),.pointer (some ⟨b,0,none⟩)] w fun e W'=>e=.returned (.bool (xs.any (zO s)))/\Below w.heap.size w W':=by
 have h1:1<=5:=by omega
 have eL:=h.groups.lt;have le:=h.lt sb (by rw[h.osb];simp);have i9:b<w.heap.size:=World.block_lt_of_cell? w _ hT.group;refine callsIn_wide.1 (callsIn_of_wp_marks (n:=5) Tryz.func118 rfl trivial (wpIn_wide.2 ?_) rfl);simp only[Tryz.ntmps118,List.size_toArray,List.length_cons,List.length_nil,Nat.reduceAdd,Nat.reduceSub,Array.replicate_succ,Array.replicate_zero,List.push_toArray,List.append_toArray,List.nil_append,List.cons_append];go_wp2_with fail
 have k0:=zv w (.pointer (some ⟨sb,0,none⟩)) 81;have kr:=zv (w.alloc (.cells #[.pointer (some ⟨sb,0,none⟩)] 81)) (.bool false) 4;have k1:=c2a (.cells #[.bool false] 4) (c2a (.cells #[.pointer (some ⟨sb,0,none⟩)] 81) h.c1);have k2:=c2a (.cells #[.bool false] 4) (c2a (.cells #[.pointer (some ⟨sb,0,none⟩)] 81) hT.group);have en:Below w.heap.size w ((w.alloc (.cells #[.pointer (some ⟨sb,0,none⟩)] 81)).alloc (.cells #[.bool false] 4)):=((Below.refl _ w).alloc (Nat.le_refl _) _).alloc (by simp) _;replace k0:=c2a (.cells #[.bool false] 4) k0.1;have hz:((w.alloc (.cells #[.pointer (some ⟨sb,0,none⟩)] 81)).alloc (.cells #[.bool false] 4)).heap.size=w.heap.size+2:=by simp
 simp only[World.size_alloc] at kr;generalize(w.alloc (.cells #[.pointer (some ⟨sb,0,none⟩)] 81)).alloc (.cells #[.bool false] 4)=W0 at k0 k1 k2 kr en hz⊢;go_region_held3 (fun W2=>W2.cell? ⟨w.heap.size,0,none⟩=some (.pointer (some ⟨sb,0,none⟩))/\W2.cell? ⟨sb,1,none⟩=some (.pointer (some ⟨gb,0,none⟩))/\W2.cell? ⟨b,2,none⟩=some (I t.group)) (first | exact⟨k0,k1,k2⟩ | exact⟨c2a _ (c2a _ k0),c2a _ (c2a _ k1),c2a _ (c2a _ k2)⟩) (first | (go_at_call 112;refine(jj gb t.group _).mono ?_;rintro e w9 ⟨rfl,rfl⟩) | fail)
 have eE:Below w.heap.size w ((W0.alloc (.cells #[.pointer (some ⟨gb,0,none⟩)] 113)).alloc (.cells #[I t.group] 3)).drew:=((en.alloc (by omega) _).alloc (by simp;omega) _).drew;replace k0:=c2a (.cells #[I t.group] 3) (c2a (.cells #[.pointer (some ⟨gb,0,none⟩)] 113) k0);have kr2:=c2a (.cells #[I t.group] 3) (c2a (.cells #[.pointer (some ⟨gb,0,none⟩)] 113) kr.1);have kf2:=zY (.cells #[I t.group] 3) (c2a (.cells #[.pointer (some ⟨gb,0,none⟩)] 113) kr.1) (zY (.cells #[.pointer (some ⟨gb,0,none⟩)] 113) kr.1 kr.2);have kg:=c2a (.cells #[I t.group] 3) (zv W0 (.pointer (some ⟨gb,0,none⟩)) 113).1;have ki:=(zv (W0.alloc (.cells #[.pointer (some ⟨gb,0,none⟩)] 113)) (I t.group) 3).1;rw[World.size_alloc] at ki;rw[hz] at kg ki;change World.cell? ((W0.alloc (.cells #[.pointer (some ⟨gb,0,none⟩)] 113)).alloc (.cells #[I t.group] 3)).drew _=_ at k0 kr2 kg ki;change World.frozen? ((W0.alloc (.cells #[.pointer (some ⟨gb,0,none⟩)] 113)).alloc (.cells #[I t.group] 3)).drew _=_ at kf2;have aI:((W0.alloc (.cells #[.pointer (some ⟨gb,0,none⟩)] 113)).alloc (.cells #[I t.group] 3)).drew.heap.size=w.heap.size+4:=by show((W0.alloc _).alloc _).heap.size=_;simp;omega
 generalize((W0.alloc (.cells #[.pointer (some ⟨gb,0,none⟩)] 113)).alloc (.cells #[I t.group] 3)).drew=W1 at k0 kr2 kf2 kg ki eE aI⊢;clear k1 k2 kr en;go_wp2_with fail
 refine(wpIn_wide (n:=5)).1 (wpIn_rangeFunc_ownF rfl h1 (gf:=155) (lb:=#[.pointer (some ⟨w.heap.size+2+1,0,none⟩),.pointer (some ⟨w.heap.size+2,0,none⟩)]) rfl trivial (enters_of Tryz.func155 (by kernel_rfl) rfl)
  (uE (5-1) (by omega) (w.heap.size+2+1) (w.heap.size+2) gb s.gs t.group xs W1 (by omega) (by omega) (by omega) ki kg (h.groups.same (eE.block gb eL)) hL) KpG.t (KpG.b (by omega) (by omega)) (Below.refl _ _) (fun _=>rfl)
  (fun pre W=>(pre.any (zO s)=false/\W1.heap.size<=W.heap.size/\W.cell? ⟨w.heap.size,0,none⟩=some (.pointer (some ⟨sb,0,none⟩))/\W.cell? ⟨w.heap.size+1,0,none⟩=some (.bool false)/\W.frozen? ⟨w.heap.size+1,0,none⟩=false)/\Below w.heap.size w W)
  (fun c pre W=>(c=.ret/\pre.any (zO s)=true/\W.cell? ⟨w.heap.size+1,0,none⟩=some (.bool true))/\Below w.heap.size w W)
  (OwnFrom.and (Own.from (fun s A B row hs hg hr=>⟨hs.1,Nat.le_trans hs.2.1 hg.size,cell_kept hs.2.2.1 hg hr,cell_kept hs.2.2.2.1 hg hr,(frozen_kept hs.2.2.2.1 hg hr).trans hs.2.2.2.2⟩) _) (ownFrom_below (Nat.le_refl _) (by omega)))
  (fun c=>OwnFrom.and (Own.from (fun s A B row hs hg hr=>⟨hs.1,hs.2.1,cell_kept hs.2.2 hg hr⟩) _) (ownFrom_below (Nat.le_refl _) (by omega)))
  ⟨⟨rfl,Nat.le_refl _,k0,kr2,kf2⟩,eE⟩
  (fun x=>{tmps:=#[Value.pointer (some ⟨sb,0,none⟩),.pointer (some ⟨b,0,none⟩),.pointer (some ⟨w.heap.size,0,none⟩),undef,.pointer (some ⟨w.heap.size+1,0,none⟩),I x.1,.pointer (some ⟨sb,0,none⟩),.pointer (some ⟨sb,0,none⟩),.pointer (some ⟨sb,1,none⟩),.pointer (some ⟨gb,0,none⟩),.pointer (some ⟨b,0,none⟩),.pointer (some ⟨b,0,none⟩),.pointer (some ⟨b,2,none⟩),I t.group,.func (.func 155) #[] #[.pointer (some ⟨w.heap.size+2+1,0,none⟩),.pointer (some ⟨w.heap.size+2,0,none⟩)],I x.1,undef,undef,undef,undef,undef,undef,undef],defers:=[]}) ?assign ?body ?done ?stop)
 case assign=>
  intro l x W K hK;gi_wp2
  simpa using hK
 case body=>
  rintro l pre ⟨x,ek,ia⟩ W ⟨⟨hp,p9,aX,hr,hf⟩,hB⟩ sE;have e1:1<=5-1-1:=by omega
  obtain⟨k,rfl⟩:=Int.eq_ofNat_of_zero_le ek;obtain⟨a0,a1,a2,a3⟩:=(h.below hB).acc k (by omega);have hs:zO s ⟨(k:Int),ek,ia⟩=xt (s.acc.getD k default).1 (s.acc.getD k default).2.1 (s.acc.getD k default).2.2.1 (s.acc.getD k default).2.2.2:=by unfold zO;simp
  have iO:(pre++[(⟨(k:Int),ek,ia⟩:G16)]).any (zO s)=xt (s.acc.getD k default).1 (s.acc.getD k default).2.1 (s.acc.getD k default).2.2.1 (s.acc.getD k default).2.2.2:=by rw[List.any_append,hp,List.any_cons,List.any_nil,Bool.or_false,Bool.false_or,hs]
  generalize(s.acc.getD k default).1=q0 at a0 iO;generalize(s.acc.getD k default).2.1=q1 at a1 iO;generalize(s.acc.getD k default).2.2.1=q2 at a2 iO;generalize(s.acc.getD k default).2.2.2=q3 at a3 iO;have il:=qY q0 q1 q2 q3;generalize xt q0 q1 q2 q3=r at il iO;have et:=hB.size;clear hs h hT hL kg ki;cases r with
  | false=>
   gi_wp2_with (refine⟨trivial,?_⟩;gi_at_call 156;refine(CallsIn.inRound l (callsIn_wide.2 (il _))).mono ?_;rintro e w' ⟨rfl,hb⟩)
   have l7:=hb.mono hB.size;exact⟨yS hb,ut hb (by omega) (by omega),⟨iO,Nat.le_trans p9 hb.size,(hb.cell (p:=⟨_,0,none⟩) (by simp;omega)).trans aX,(hb.cell (p:=⟨_,0,none⟩) (by simp;omega)).trans hr,(hb.frozen (p:=⟨_,0,none⟩) (by simp;omega)).trans hf⟩,hB.trans l7⟩
  | true=>
   gi_wp2_with (refine⟨trivial,?_⟩;gi_at_call 156;refine(CallsIn.inRound l (callsIn_wide.2 (il _))).mono ?_;rintro e w' ⟨rfl,hb⟩;have p7:=(hb.cell (p:=⟨w.heap.size+1,0,none⟩) (by simp;omega)).trans hr;have TO:=(hb.frozen (p:=⟨w.heap.size+1,0,none⟩) (by simp;omega)).trans hf)
   have l7:=hb.mono hB.size;exact⟨(yS hb).trans (KeepsOthers.setCell _ _ _),⟨rfl,iO,World.cell?_setCell_same _ _ _ p7⟩,(hB.trans l7).setCell (p:=⟨w.heap.size+1,0,none⟩) (by simp) _⟩
 case done=>
  rintro D' ys W hD rfl ⟨⟨hp,p9,aX,rH,mj⟩,hB⟩ hK;go_wp2_with fail
  have Bj:=(KeepsOthers.setCell W ⟨w.heap.size+1,0,none⟩ (.bool false)).same D' _ hK rfl;refine⟨by simp,.inl ⟨_,_,rfl,run_takeDeferred Bj,?_⟩⟩;have Na:=cell_kept (World.cell?_setCell_same' W ⟨w.heap.size+1,0,none⟩ (.bool false) (by rw[rH];rfl)) (grownBy_putObj' _ D' (.deferred none)) (fun r e=>by cases e;exact⟨_,Bj,rfl⟩);refine⟨.bool false,?_,by rw[hp],(hB.setCell (p:=⟨w.heap.size+1,0,none⟩) (by simp) _).trans (belowK_b (w:=w) (Nat.le_refl _) _ D' _ _ (by omega) Bj rfl rfl)⟩;simp[results,Tryz.f118,go_sem,Na]
 case stop=>
  rintro D' c pre W hD BP ⟨⟨rfl,aN,rH⟩,hB⟩ hK;refine wpIn_wide.2 ?_;go_wp2_with fail
  refine⟨by simp,.inl ⟨_,_,rfl,run_takeDeferred hK,?_⟩⟩;have Na:=cell_kept rH (grownBy_putObj' _ D' (.deferred none)) (fun r e=>by cases e;exact⟨_,hK,rfl⟩);refine⟨.bool true,?_,by rw[gO BP aN],hB.trans (belowK_b (w:=w) (Nat.le_refl _) W D' _ _ (by omega) hK rfl rfl)⟩;simp[results,Tryz.f118,go_sem,Na]
def yX (n₀:Nat):List Deferred->World->Prop
 | [],_=>True
 | d::ds,W=>(∃r,d.target=.collected r/\n₀<=r/\W.heap[r]? = some (.deferred (some []))/\∀d'∈ds,d'.target≠.collected r)/\yX n₀ ds W
theorem yX.kept {n₀:Nat} {W W':World}:∀{ds:List Deferred},yX n₀ ds W->(∀r,n₀<=r->W.heap[r]? = some (.deferred (some []))->(∃d∈ds,d.target=.collected r)->W'.heap[r]? = some (.deferred (some [])))->yX n₀ ds W'
 | [],_,_=>trivial
 | d::ds,⟨⟨r,h1,h2,h3,h4⟩,h5⟩,hk=>⟨⟨r,h1,h2,hk r h2 h3 ⟨d,by simp,h1⟩,h4⟩,h5.kept (fun r' a b ⟨d',c,e⟩=>hk r' a b ⟨d',List.mem_cons_of_mem _ c,e⟩)⟩
theorem yX.below {n₀:Nat} {W W':World} {ds:List Deferred} (h:yX n₀ ds W) (hb:Below W.heap.size W W'):yX n₀ ds W':=
 h.kept (fun r _ hr _=>(hb.block r (yW hr)).trans hr)
theorem yX.lt {n₀:Nat} {W:World}:∀{ds:List Deferred},yX n₀ ds W->∀d∈ds,∃r,d.target=.collected r/\r<W.heap.size
 | [],_,_,h=>by cases h
 | d::ds,⟨⟨r,h1,h2,h3,h4⟩,h5⟩,d',h=>by
  rcases List.mem_cons.1 h with e | e
  · exact⟨r,by rw[e];exact h1,yW h3⟩
  · exact h5.lt d' e
theorem yX.cons {n₀ D:Nat} {W W':World} {ds:List Deferred} {args:Array Value} (h:yX n₀ ds W) (hb:Below W.heap.size W W') (hn:n₀<=W.heap.size) (hD:W.heap.size<=D) (hK:W'.heap[D]? = some (.deferred (some []))):yX n₀ ({target:=.collected D,args:=args}::ds) W':=
 ⟨⟨D,rfl,by omega,hK,fun d' hd e=>by obtain⟨r,h1,h2⟩:=h.lt d' hd;rw[h1] at e;cases e;omega⟩,h.below hb⟩
theorem kW {F:Fence} {n:Nat} {P:Program} {fn:Func} {tmps:Array Value} {R:Ending->World->Prop} {n₀:Nat}:∀(ds:List Deferred) (W:World),yX n₀ ds W->n₀<=W.heap.size->(∀W',Below n₀ W W'->LeavesInM F n P fn tmps R [] .returning W')->LeavesInM F n P fn tmps R ds .returning W
 | [],W,_,_,hf=>hf W (Below.refl _ _)
 | d::ds,W,⟨⟨r,h1,h2,h3,h4⟩,h5⟩,hn,hf=>by
  refine⟨by simp,.inl ⟨r,_,h1,run_takeDeferred h3,?_⟩⟩;have hb:Below n₀ W (W.putObj r (.deferred none)):=belowK_b (w:=⟨W.heap.extract 0 n₀,W.tape,W.drawn,W.os,W.output⟩) (by simp;omega) W r _ _ (by simp;omega) h3 rfl rfl;refine kW ds _ (h5.kept (fun r' a b ⟨d',c,e⟩=>?_)) (Nat.le_trans hn hb.size) (fun W' m8=>hf W' (hb.trans m8));rw[World.putObj_heap_other (fun e2=>h4 d' c (by rw[e,e2]))];exact b
end
theorem vB (b:Nat) (t:Tk) (act:Int) (W:World) (h:TaskAt W b t) :
 Calls Tryz.prog 106 #[.pointer (some ⟨b,0,none⟩),I act] W fun e w'=>e=.returned (.tuple #[])/\W.setCell ⟨b,4,none⟩ (I (nxt t.state act).1)=w':=by
 have hs:=h.state;have hl:=h.live 4;have aO:=bZ t.state act W;unfold QL at aO;generalize(nxt t.state act).1=x at aO⊢;generalize(nxt t.state act).2=y at aO;clear h;go_enter Tryz.func106,Tryz.ntmps106;go_wp2_with fail
 refine aO.mono ?_;rintro e w' ⟨rfl,rfl⟩;go_wp2_with fail
 go_end0
 exact⟨rfl,rfl⟩
theorem wP (sb gb nb pb mb n:Nat) (cv:Value) (D:DataW Unit) (cbs:List Nat) (tb:Int->Nat) (own:Nat->Option Own) (s:Sy) (id act:Int) (t:Tk) (W:World) (h:SysAt W sb gb nb pb mb n cv D cbs tb own s)
 (h1:-9223372036854775808<=id) (h2:id<=9223372036854775807) (ht:s.tasks id=some t) :
 Calls Tryz.prog 102 #[.pointer (some ⟨sb,0,none⟩),I id,I act] W fun e w'=>e=.returned (.tuple #[.pointer (some ⟨tb id,0,none⟩),I (nxt t.state act).2])/\W=w':=by
 have hl:=h.look id h1 h2;rw[ht] at hl;simp only at hl;have c67:=h.c67;have hs:=(h.task id t ht).1.state;have aO:=bZ t.state act W;unfold QL at aO;generalize(nxt t.state act).1=x at aO;generalize(nxt t.state act).2=y at aO⊢;generalize tb id=b at hl hs⊢;clear h ht;go_enter Tryz.func102,Tryz.ntmps102;go_wp2_with fail
 refine aO.mono ?_;rintro e w' ⟨rfl,rfl⟩;go_wp2_with fail
 go_ret2
 exact⟨rfl,rfl⟩
theorem qz (sb gb nb pb mb n:Nat) (cv:Value) (D:DataW Unit) (cbs:List Nat) (tb:Int->Nat) (own:Nat->Option Own) (s:Sy) (id act:Int) (W:World) (h:SysAt W sb gb nb pb mb n cv D cbs tb own s)
 (h1:-9223372036854775808<=id) (h2:id<=9223372036854775807) (ht:s.tasks id=none) :
 Calls Tryz.prog 102 #[.pointer (some ⟨sb,0,none⟩),I id,I act] W fun e w'=>e=.returned (.tuple #[.pointer none,I 2])/\W=w':=by
 have hl:=h.look id h1 h2;rw[ht] at hl;simp only at hl;have c67:=h.c67;clear h ht;go_enter Tryz.func102,Tryz.ntmps102;go_wp2_with fail
 go_ret2
 exact⟨rfl,rfl⟩
def setTk (s:Sy) (id:Int) (t:Tk):Sy:=⟨s.cores,s.gs,s.acc,s.ps,fun x=>if x=id then some t else s.tasks x,s.cnt⟩
def zN (s:Sy) (i:Nat) (c:Co):Sy:=⟨s.cores.set i c,s.gs,s.acc,s.ps,s.tasks,s.cnt⟩
def stT (t:Tk) (x:Int):Tk:=⟨t.id,t.w,t.group,t.core,x,t.mask,t.lag⟩
def zX (s:Sy) (id:Int) (t:Tk) (nE:Bool) (i:Nat) (act:Int) (x:Bool):Int×Sy:=
 if nE=true then(0,setTk s id (stT t (nxt (nxt t.state act).1 6).1))
 else if (zg s.cores[i]! t.id t.w t.lag x).1=0 then(0,setTk (zN s i (zg s.cores[i]! t.id t.w t.lag x).2) id (stT t (nxt t.state act).1))
 else((zg s.cores[i]! t.id t.w t.lag x).1,zN s i (zg s.cores[i]! t.id t.w t.lag x).2)
def YP (sb gb nb pb mb n:Nat) (cv:Value) (D:DataW Unit) (cbs:List Nat) (tb:Int->Nat) (own:Nat->Option Own) (s':Sy) (W w':World):Prop:=
 ∃own',SysAt w' sb gb nb pb mb n cv D cbs tb own' s'/\(∀k,k<W.heap.size->own' k=own k)/\Touch (fun k=>own k≠none) W w'
theorem Yj (sb gb nb pb mb n:Nat) (cv:Value) (D:DataW Unit) (cbs:List Nat) (tb:Int->Nat) (own:Nat->Option Own) (s:Sy) (id act:Int) (t:Tk) (x:Bool) (xs:List G16) (W:World) (h:SysAt W sb gb nb pb mb n cv D cbs tb own s)
 (ht:s.tasks id=some t) (hL:zq s.gs t.group xs) (aU:xs.any (zO s)=true) :
 Calls Tryz.prog 104 #[.pointer (some ⟨sb,0,none⟩),.pointer (some ⟨tb id,0,none⟩),I act,.bool x] W fun e w'=>e=.returned (I 0) /\
  YP sb gb nb pb mb n cv D cbs tb own (setTk s id (stT t (nxt (nxt t.state act).1 6).1)) W w':=by
 obtain⟨hT,eP⟩:=h.task id t ht;have il:=jQ sb gb nb pb mb n cv D cbs tb own s (tb id) t xs W h hT hL;rw[aU] at il;have HS:=lH h;have HT:=lH ht;clear h ht hL aU hT eP;go_enter Tryz.func104,Tryz.ntmps104;go_wp2_with fail
 refine il.mono ?_;rintro e w1 ⟨rfl,ab⟩;have aF:=(HS.out.below ab).task id t HT.out;have Cl:=vB (tb id) t act w1 aF.1;have ef:=lH ab;go_wp2_with fail
 refine Cl.mono ?_;rintro e w2 ⟨rfl,rfl⟩;have aC:=aF.1.setState (nxt t.state act).1;have M8:=vB (tb id) _ 6 _ aC;go_wp2_with fail
 refine M8.mono ?_;rintro e w3 ⟨rfl,rfl⟩;have lR:=aC.setState (nxt (nxt t.state act).1 6).1;go_wp2_with fail
 go_ret
 have eP:Touch (fun k=>k=tb id) w1 ((w1.setCell ⟨tb id,4,none⟩ (I (nxt t.state act).1)).setCell ⟨tb id,4,none⟩ (I (nxt (nxt t.state act).1 6).1)):=(zG _ _ _ _).self (zG _ _ _ _);refine⟨rfl,own,(HS.out.below ef.out).setTask HT.out lR eP,fun _ _=>rfl,(Touch.of_below ef.out).self (eP.wider (fun k hk=>by rw[hk,aF.2];simp))⟩
section
attribute [local go_sem] Oper.semAt_some
inductive OwnW where
 | swap
 | map
 | row
 | attempt (c:Int)
deriving DecidableEq
structure SwAt (W:World) (wb sb mb n:Nat) (av:Value) (D:DataW Unit) (m:Nat) (tbs:List Nat) (tb:Int->Nat) (cbs:List Nat) (L:Int->Option Tr) (ow:Nat->Option OwnW):Prop where
 c0:W.cell? ⟨wb,0,none⟩=some (.pointer (some ⟨sb,0,none⟩))
 c1:W.cell? ⟨wb,1,none⟩=some (.map (some mb))
 c2:W.cell? ⟨wb,2,none⟩=some av
 live:∀i,W.frozen? ⟨wb,i,none⟩=false
 map:W.ownsMap Tryz.prog 3 fB mb n D
 cnt:n<=m
 reads:∀c:Int,-9223372036854775808<=c->c<=9223372036854775807->D.atKey (.int .i64 c) (.lit (.bool false))=(match L c with | none=>.lit (.bool false) | some _=>.lit (.int .i64 (tb c)))
 row:W.ownsRow 0 210 1 av m (ql tbs)
 rown:∀k,av.ownBlock=some k->ow k=some .row
 tries:∀c t,L c=some t->(0<=c/\c<cbs.length)/\TryIn W (tb c) cbs[c.toNat]! t (fun k=>ow k=some (.attempt c))
 owb:ow wb=some .swap
 omb:ow mb=some .map
 lt:∀k,ow k≠none->k<W.heap.size
theorem SwAt.same {W W':World} {wb sb mb n:Nat} {av:Value} {D:DataW Unit} {m:Nat} {tbs:List Nat} {tb:Int->Nat} {cbs:List Nat} {L:Int->Option Tr} {ow:Nat->Option OwnW} (h:SwAt W wb sb mb n av D m tbs tb cbs L ow)
 (hs:W.heap.size<=W'.heap.size) (hb:∀k,ow k≠none->W'.heap[k]? = W.heap[k]?):SwAt W' wb sb mb n av D m tbs tb cbs L ow:=by
 have hw:=hb wb (by rw[h.owb];simp);have h0:∀i,W'.cell? ⟨wb,i,none⟩=W.cell? ⟨wb,i,none⟩:=fun i=>World.cell?_of_block hw;have oR:∀i,W'.frozen? ⟨wb,i,none⟩=W.frozen? ⟨wb,i,none⟩:=fun i=>World.frozen?_of_block hw;exact⟨(h0 0).trans h.c0,(h0 1).trans h.c1,(h0 2).trans h.c2,fun i=>(oR i).trans (h.live i),yc h.map (hb mb (by rw[h.omb];simp)),h.cnt,h.reads,zb h.row (fun k hk=>hb k (by rw[h.rown k hk];simp)),h.rown,
  fun c t hc=>⟨(h.tries c t hc).1,(h.tries c t hc).2.same hs (fun k hk=>hb k (by rw[hk];simp))⟩,h.owb,h.omb,fun k hk=>Nat.lt_of_lt_of_le (h.lt k hk) hs⟩
theorem SwAt.below {W W':World} {wb sb mb n:Nat} {av:Value} {D:DataW Unit} {m:Nat} {tbs:List Nat} {tb:Int->Nat} {cbs:List Nat} {L:Int->Option Tr} {ow:Nat->Option OwnW} (h:SwAt W wb sb mb n av D m tbs tb cbs L ow)
 (hb:Below W.heap.size W W'):SwAt W' wb sb mb n av D m tbs tb cbs L ow:=h.same hb.size (fun k hk=>hb.block k (h.lt k hk))
def gH:Int->Option Tr:=fun _=>none
def KR (sb:Nat) (cbs:List Nat) (w:World) (e:Ending) (W':World):Prop:=
 ∃(wb mb:Nat) (ow:Nat->Option OwnW),e=.returned (.tuple #[.pointer (some ⟨wb,0,none⟩),I 0])/\SwAt W' wb sb mb 0 (.slice none 0 0) (.map []) 0 [] (fun _=>0) cbs gH ow/\Below w.heap.size w W'/\∀k,ow k≠none->w.heap.size<=k
theorem Vs (sb:Nat) (cbs:List Nat) (W:World):Calls Tryz.prog 24 #[.pointer (some ⟨sb,0,none⟩)] W (KR sb cbs W):=by
 have lA:=run_makeMap (P:=Tryz.prog) 126 W;have FF:(W.alloc (.map #[] 0)).ownsMap Tryz.prog 3 fB W.heap.size 0 (.map []):=World.ownsMap_made W _ _ _;have HM:=lH FF;clear FF;go_enter Tryz.func24,Tryz.ntmps24;go_wp2
 go_ret2
 have hz:(W.alloc (.map #[] 0)).heap.size=W.heap.size+1:=by simp
 have hh:=heap_alloc_new (W.alloc (.map #[] 0)) (.cells #[.pointer (some ⟨sb,0,none⟩),.map (some W.heap.size),.slice none 0 0] 129);rw[hz] at hh;refine⟨W.heap.size+1,W.heap.size,fun k=>if k=W.heap.size+1 then some .swap else if k=W.heap.size then some .map else none,by simp,⟨?_,?_,?_,fun i=>?_,HM.out.alloc _,Nat.le_refl _,fun c _ _=>?_,World.ownsRow_nil ..,(fun k hk=>by simp[Value.ownBlock] at hk),(fun c t hc=>by unfold gH at hc;cases hc),by simp,?_,fun k hk=>?_⟩,((Below.refl _ _).alloc (Nat.le_refl _) _).alloc (by simp) _,fun k hk=>?_⟩
 · simp only[World.cell?,hh];rfl
 · simp only[World.cell?,hh];rfl
 · simp only[World.cell?,hh];rfl
 · simp only[World.frozen?,hh];simp
 · rfl
 · show(if _ then _ else _)=_;rw[if_neg (by omega),if_pos rfl]
 · split at hk
   · simp;omega
   · split at hk
     · simp;omega
     · exact absurd rfl hk
 · dsimp only at hk
   split at hk
   · omega
   · split at hk
     · omega
     · exact absurd rfl hk
def JF (L:Int->Option Tr) (c:Int) (t:Tr):Int->Option Tr:=fun x=>if x=c then some t else L x
def VD (W:World) (wb sb:Nat) (s:Sy) (m:Nat) (cbs:List Nat) (L:Int->Option Tr) (own:Nat->Option Own) (ow:Nat->Option OwnW):Prop:=
 (∃gb nb pb mb n cv D tb,SysAt W sb gb nb pb mb n cv D cbs tb own s)/\(∃mb n av D tbs ttb,SwAt W wb sb mb n av D m tbs ttb cbs L ow)/\∀k,ow k≠none->own k=none
def yU (gs:List (Bool×Int)):Nat->List Int
 | 0=>[]
 | k+1=>yU gs k++(if zL gs k=true then[(k:Int)] else[])
theorem jv (gs:List (Bool×Int)):∀k,(yU gs k).length<=k
 | 0=>Nat.le_refl _
 | k+1=>by
  have:=jv gs k;show(yU gs k++_).length<=_;rw[List.length_append];split <;> simp <;> omega
theorem Up (gb:Nat) (gs:List (Bool×Int)) (w:World) (h:GroupsAt w gb gs) :
 Calls Tryz.prog 115 #[.pointer (some ⟨gb,0,none⟩)] w fun e W'=>∃v,e=.returned v/\W'.ownsRow w.heap.size 3 1 v (yU gs 16).length ((yU gs 16).map fun x=>I x)/\Below w.heap.size w W':=by
 obtain⟨i0,hi,eG,aI,et⟩:=info_parts dD;have eL:gb<w.heap.size:=h.lt;have HG:=lH h;clear h;go_enter Tryz.func115,Tryz.ntmps115;go_wp2_with fail
 go_loopw [3,5] (fun s x wr=>∃k:Nat,k<=16/\x=I k/\Hid (wr.ownsRow w.heap.size 3 1 s (yU gs k).length ((yU gs k).map fun x=>I x))/\Hid (Below w.heap.size w wr)) (fun _ x _=>16-(intOf x).toNat)
 case atStart=>exact⟨0,Nat.zero_le _,rfl,lH (World.ownsRow_nil ..),lH (Below.refl _ _)⟩
 case round=>
  obtain⟨k,hk,rfl,HR,HB⟩:=hrel;by_cases aS:k<16
  · have aB:=kR gb gs k wr (HG.out.same (HB.out.block gb eL));have ag:=jv gs k;have iY:(k:Int)<16:=by omega
    have aX:0<=(k:Int):=by omega
    have oH:=HB.out.size;have aO:yU gs (k+1)=yU gs k++(if zL gs k=true then[(k:Int)] else[]):=rfl;obtain⟨tk,eZ⟩:∃b,zL gs (k:Int)=b:=⟨_,rfl⟩
    rw[eZ] at aB aO;have HN:=lH aO;obtain⟨q,hq⟩:∃q,(yU gs k).length=q:=⟨_,rfl⟩
    rw[hq] at HR ag;have HQ:=lH hq;clear aO hq eZ;cases tk with
    | true=>
     have oC:Hid (yU gs (k+1)=yU gs k++[(k:Int)]):=lH HN.out;clear HN;have aa:=HR.out;go_wp2_with fail
     refine aB.mono ?_;rintro e w' ⟨rfl,rfl⟩;go_wp2_with (at_builtin;refine wpList_append_lies _ rfl _ _ 22 rfl w.heap.size 3 i0 (I 0) 1 8 Tryz.underlying22 hi eG aI et rfl (by decide) _ q _ rfl (aa.alloc _) ⟨wr.heap.size,0,none⟩ 1 1 [I (k:Int)] rfl rfl (World.news_of_block (cs:=#[I (k:Int)]) (t:=3) (fr:=(0,0)) (heap_alloc_new wr _)) (by simp[Value.oneCell']) (by omega) (by unfold maxLen;omega) (by omega) (by simp;omega) (wr.heap.size+1) (by simp) ?_;intro g cap w4 aV aq eW ln)
     have hr:w4.ownsRow w.heap.size 3 1 (.slice (some ⟨g,0,none⟩) (q+1) cap) (yU gs (k+1)).length ((yU gs (k+1)).map fun x=>I x):=by
      rw[oC.out,List.map_append,List.length_append,HQ.out];exact aV
     have Ap:=lH hr;have AQ:Hid (Below w.heap.size w w4):=lH ((HB.out.alloc oH _).grown aq (by simp;omega) (fun j hj=>(aa.lt j hj).1));clear hr aV aq eW ln aa;go_roundw
     case rel=>exact⟨k+1,aS,by go_num,Ap,AQ⟩
     case measure=>simp[intOf];omega
    | false=>
     have oC:Hid (yU gs (k+1)=yU gs k):=lH (HN.out.trans (List.append_nil _));clear HN;have hr:wr.ownsRow w.heap.size 3 1 u3 (yU gs (k+1)).length ((yU gs (k+1)).map fun x=>I x):=by
      rw[oC.out,HQ.out];exact HR.out
     have Ap:=lH hr;clear hr;go_wp2_with fail
     refine aB.mono ?_;rintro e w' ⟨rfl,rfl⟩;go_wp2_with fail
     go_roundw
     case rel=>exact⟨k+1,aS,by go_num,Ap,HB⟩
     case measure=>simp[intOf];omega
  · obtain rfl:k=16:=by omega
    go_wp2_with fail
    go_ret
    exact⟨_,rfl,HR.out,HB.out⟩
end
end Go.Proofs.YtoiajjobecinpaaGreat
