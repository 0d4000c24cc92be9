/- Where an item is in a form. May a form be? A form in bytes. A form out of bytes. An item told. What  -/
import Derived.Shelf.SlicesQ.Equal
import Derived.Laws.StructEq
import Derived.Ground.SlgqProg
import Derived.Shelf.RegionOpenPlain
import Derived.Deep.LoopGhost
import Derived.Lib.Walk
import Derived.Sort.WalkB12
import Derived.StillTailTactics
import Derived.Test.YtoiajjobecinpaaGreatTM04
set_option maxHeartbeats 4000000
set_option maxRecDepth 100000
namespace Go.Proofs.YtoiajjobecinpaaGreat
open Go.RowKit Go.Shelf Go.Lib Go.Proofs
set_option linter.unusedVariables false
set_option linter.unusedSimpArgs false
def Tryz.l92_ren:Go.Shelf.Ren:=⟨fun | 6=>92 | n=>n,fun | 22=>68 | 23=>77 | 25=>112 | 3=>3 | 0=>0 | 4=>4 | n=>n,fun | n=>n⟩
theorem Tryz.l92:Go.Proofs.SlLaysH0.n6 Tryz.prog Tryz.l92_ren:={
 mixed:=by kernel_rfl
 f6:=⟨Tryz.f92.name,by decide,Tryz.func92.trans (congrArg some (by kernel_rfl))⟩
 t0:=Tryz.underlying0
 a0:=Tryz.isAgg0
 z0:=Tryz.sizeOf0
 v0:=Tryz.zeroValue0
 t3:=Tryz.underlying3
 a3:=Tryz.isAgg3
 z3:=Tryz.sizeOf3
 v3:=Tryz.zeroValue3
 t4:=Tryz.underlying4
 a4:=Tryz.isAgg4
 z4:=Tryz.sizeOf4
 v4:=Tryz.zeroValue4
 t22:=Tryz.underlying68
 a22:=Tryz.isAgg68
 z22:=Tryz.sizeOf68
 v22:=Tryz.zeroValue68
 t25:=Tryz.underlying112
 a25:=Tryz.isAgg112
 z25:=Tryz.sizeOf112
 v25:=Tryz.zeroValue112}
theorem Ji (id:Int) (B:Nat) (w:World) (hB:B<w.heap.size) (ap:w.cell? ⟨B,0,none⟩=some (I id)) :
 PredBelow Tryz.prog 93 #[.pointer (some ⟨B,0,none⟩)] (fun x:It=>.agg x.cells.toArray) (fun x=>decide (x.id=id)) w:=fun W x hb=>by
 have hc:W.cell? ⟨B,0,none⟩=some (I id):=(hb.cell (p:=⟨B,0,none⟩) hB).trans ap;have nS:B<W.heap.size:=Nat.lt_of_lt_of_le hB hb.size;have ay:B≠W.heap.size:=by omega
 obtain⟨i,ww,v⟩:=x;show Calls Tryz.prog 93 #[.agg #[I i,I ww,I v],.pointer (some ⟨B,0,none⟩)] W _;go_enter Tryz.func93,Tryz.ntmps93;go_wp2
 all_goals (go_ret;exact⟨by simp_all;exact Bool.eq_iff_iff.2 (by simp),hb.alloc hb.size _⟩)
def qk (its:List It) (id:Int):Int:=Lib.idxBy (fun _ y=>decide (y.id=id)) its default
theorem Ul (its:List It):∀k i v,k<its.length->(its[k]!).cells[i]? = some v->(yG its)[k*3+i]? = some v:=by
 induction its with
 | nil=>intro k i v h;simp at h
 | cons p l ih=>
  intro k i v h hv;cases k with
  | zero=>
   have hi:i<p.cells.length:=(List.getElem?_eq_some_iff.1 hv).1;rw[show 0*3+i=i from by omega];rw[yG,List.getElem?_append_left hi];simpa using hv
  | succ k=>
   rw[yG,List.getElem?_append_right (by simp[It.cells];omega)];have:=ih k i v (by simpa using h) (by simpa using hv);rw[show(k+1)*3+i-p.cells.length=k*3+i from by simp[It.cells];omega];exact this
def FSl (W:World) (v:Value) (its:List It):Prop:=
 (v=.slice none 0 0/\its=[])\/∃g cap,v=.slice (some ⟨g,0,none⟩) its.length cap/\its.length<=cap/\cap<=9223372036854775807/\g<W.heap.size/\∀j,j<its.length->∀i u,(its[j]!).cells[i]? = some u->W.cell? ⟨g,j*3+i,none⟩=some u
theorem FSl.of {t:TypeId} {W:World} {B:Nat} {v:Value} {its:List It} (h:W.ownsRow B t 3 v its.length (yG its)):FSl W v its:=by
 rcases h.2 with⟨rfl,h0⟩ | ⟨g,cap,cur,rfl,hb,la,hn,hm,_⟩
 · exact .inl ⟨rfl,List.length_eq_zero_iff.1 h0⟩
 · refine .inr ⟨g,cap,rfl,hn,by unfold maxLen at hm;exact hm,(Array.getElem?_eq_some_iff.1 la).1,fun j hj i u hu=>?_⟩;have:=h.cells (g:=g) rfl _ _ (Ul its j i u hj hu);simpa [Addr.add_lit] using this
theorem FSl.same {W W':World} {v:Value} {its:List It} (h:FSl W v its) (hs:W.heap.size<=W'.heap.size) (hb:∀k,v.ownBlock=some k->W'.heap[k]? = W.heap[k]?):FSl W' v its:=by
 rcases h with h | ⟨g,cap,rfl,h1,h2,h3,h4⟩
 · exact .inl h
 · exact .inr ⟨g,cap,rfl,h1,h2,Nat.lt_of_lt_of_le h3 hs,fun j hj i u hu=>(World.cell?_of_block (a:=⟨g,j*3+i,none⟩) (hb g rfl)).trans (h4 j hj i u hu)⟩
theorem FSl.lt {W:World} {v:Value} {its:List It} (h:FSl W v its) {k:Nat} (hk:v.ownBlock=some k):k<W.heap.size:=by
 rcases h with⟨rfl,_⟩ | ⟨g,cap,rfl,h1,h2,h3,h4⟩
 · simp[Value.ownBlock] at hk
 · have:g=k:=by simpa [Value.ownBlock] using hk
   omega
theorem FSl.below {W W':World} {v:Value} {its:List It} (h:FSl W v its) (hb:Below W.heap.size W W'):FSl W' v its:=h.same hb.size (fun k hk=>hb.block k (h.lt hk))
theorem FSl.alloc {W:World} {v:Value} {its:List It} (h:FSl W v its) (o:Obj):FSl (W.alloc o) v its:=h.same (by simp) (fun k hk=>Below.heap_alloc _ _ _ (h.lt hk))
theorem FSl.form {W:World} {v:Value} {its:List It} (h:FSl W v its):∃a c,v=.slice a its.length c:=by
 rcases h with⟨rfl,rfl⟩ | ⟨g,cap,rfl,_⟩
 · exact⟨_,_,rfl⟩
 · exact⟨_,_,rfl⟩
theorem FSl.cells {W:World} {a:Option Addr} {n c:Nat} {its:List It} (h:FSl W (.slice a n c) its) (k:Nat) (hk:k<its.length):∃g,a=some ⟨g,0,none⟩/\g<W.heap.size/\W.cell? ⟨g,k*3,none⟩=some (I its[k]!.id)/\W.cell? ⟨g,k*3+1,none⟩=some (I its[k]!.w)/\W.cell? ⟨g,k*3+2,none⟩=some (I its[k]!.lag):=by
 rcases h with⟨_,rfl⟩ | ⟨g,cap,e,_,_,h3,h4⟩
 · simp at hk
 · simp only[Value.slice.injEq] at e;exact⟨g,e.1,h3,h4 k hk 0 _ rfl,h4 k hk 1 _ rfl,h4 k hk 2 _ rfl⟩
theorem Yq (g:Nat) (lb:Array Value) (W:World) :
 Calls Tryz.prog 92 #[.slice none 0 0,.func (.func g) #[] lb] W fun e w'=>e=.returned (I (-1))/\W=w':=by
 go_enter Tryz.func92,Tryz.ntmps92;go_wp2
 go_loop [5,8] (fun _ i=>i=I 0) (fun _ i=>0)
 case atStart=>rfl
 case round=>
  subst hrel;go_wp2
  go_ret
  exact⟨rfl,rfl⟩
theorem XV (cur:Int) (v:Value) (its:List It) (id:Int) (W:World) (h:FSl W v its) :
 Calls Tryz.prog 41 #[.agg #[I cur,v],I id] W fun e w'=>e=.returned (I (qk its id))/\Below W.heap.size W w':=by
 rcases h with⟨rfl,rfl⟩ | ⟨g,cap,rfl,hn,hm,hg,ae⟩
 · go_enter Tryz.func41,Tryz.ntmps41;go_wp2_with fail
   refine(Yq _ _ _).mono ?_;rintro e w' ⟨rfl,rfl⟩;go_wp2
   go_ret
   exact⟨rfl,((Below.refl _ _).alloc (Nat.le_refl _) _).alloc (by simp) _⟩
 · have eg:∀args w,(callFunc 93 args).run Tryz.prog w=.ok (.enter 93 args) w:=enters_of Tryz.func93 (by kernel_rfl) rfl;obtain⟨W2,DL⟩:∃W2,(W.alloc (.cells #[I cur,.slice (some ⟨g,0,none⟩) its.length cap] 70)).alloc (.cells #[I id] 3)=W2:=⟨_,rfl⟩
   have hid:W2.cell? ⟨W.heap.size+1,0,none⟩=some (I id):=by
    have:=heap_alloc_new (W.alloc (.cells #[I cur,.slice (some ⟨g,0,none⟩) its.length cap] 70)) (.cells #[I id] 3);rw[DL,zR] at this;simp only[World.cell?,this];rfl
   have mH:W2.heap.size=W.heap.size+2:=by rw[<- DL];simp
   have ib:Below W.heap.size W W2:=by rw[<- DL];exact((Below.refl _ _).alloc (Nat.le_refl _) _).alloc (by simp) _
   have aD:=AnyQ.slices_IndexFunc Tryz.l92 3 Tryz.isAgg77 Tryz.sizeOf77 It.cells (fun _=>rfl) (fun x=>decide (x.id=id)) 93 #[.pointer (some ⟨W.heap.size+1,0,none⟩)] eg g 0 its.length cap its W2
    (Ji id (W.heap.size+1) _ (by omega) hid) (Nat.le_refl _) (by omega) (by omega) (fun j hj i u hu=>by rw[Nat.zero_add,ib.cell (p:=⟨g,j*3+i,none⟩) hg];exact ae j hj i u hu)
   change Calls Tryz.prog 92 _ _ _ at aD;rw[List.take_of_length_le (Nat.le_refl _)] at aD;change Calls Tryz.prog 92 _ _ (fun e w'=>e=.returned (I (qk its id))/\_) at aD;generalize qk its id=r at aD⊢;obtain⟨m,HM⟩:∃m,Hid (its.length=m):=⟨_,lH rfl⟩
   rw[HM.out] at aD DL⊢;subst DL;have ew:=lH ib;clear ae eg ib mH hid hn;go_enter Tryz.func41,Tryz.ntmps41;go_wp2_with fail
   refine aD.mono ?_;rintro e w' ⟨rfl,l7⟩;go_wp2
   go_ret
   exact⟨rfl,ew.out.trans (l7.mono ew.out.size)⟩
section
attribute [local go_sem] Oper.semAt_some
def Jq (cur:Int) (its:List It):Prop:=
 its.length<=64/\(cur=-1\/0<=qk its cur)/\(∀k,k<its.length->da its[k]!.id its[k]!.w its[k]!.lag=true/\(0<k->its[k-1]!.id<its[k]!.id))/\(its=[]\/∃k,k<its.length/\0<=its[k]!.lag)
theorem ga {W W':World} {a:Addr} {u:Value} (hb:Below W.heap.size W W') (hc:W.cell? a=some u):W'.cell? a=some u:=(hb.cell (World.block_lt_of_cell? W _ hc)).trans hc
def gp (W:World) (H:Nat) (x y:Value):Prop:=W.heap[H]? = some (.cells #[x,y] 70 (0,0))
theorem gp.below {W W':World} {H B:Nat} {x y:Value} (h:gp W H x y) (hb:Below B W W') (hH:H<B):gp W' H x y:=(hb.block H hH).trans h
theorem gp.lt {W:World} {H:Nat} {x y:Value} (h:gp W H x y):H<W.heap.size:=(Array.getElem?_eq_some_iff.1 h).1
theorem gp.alloc {W:World} {H:Nat} {x y:Value} (h:gp W H x y) (o:Obj):gp (W.alloc o) H x y:=(Below.heap_alloc _ _ _ h.lt).trans h
theorem gp.cells {W:World} {H:Nat} {x y:Value} (h:gp W H x y):W.cell? ⟨H,0,none⟩=some x/\W.cell? ⟨H,1,none⟩=some y/\W.frozen? ⟨H,0,none⟩=false/\W.frozen? ⟨H,1,none⟩=false:=by
 unfold gp at h;refine⟨by simp only[World.cell?,h];rfl,by simp only[World.cell?,h];rfl,by simp only[World.frozen?,h];simp,by simp only[World.frozen?,h];simp⟩
theorem UX (W:World) (x y:Value):gp (W.alloc (.cells #[x,y] 70)) W.heap.size x y:=heap_alloc_new _ _
theorem vM (ps:List It) (id:Int) :
 (qk ps id=-1/\∀p∈ps,p.id≠id)\/∃k,∃h:k<ps.length,qk ps id=(k:Int)/\ps[k].id=id/\∀j (hj:j<k),ps[j].id≠id:=by
 unfold qk Lib.idxBy;have gen:∀(ps:List It) (i:Nat),(Lib.idxByFrom (fun _ y=>decide (y.id=id)) default ps i=-1/\∀p∈ps,p.id≠id) \/
  ∃k,∃h:k<ps.length,Lib.idxByFrom (fun _ y=>decide (y.id=id)) default ps i=((i+k:Nat):Int)/\ps[k].id=id/\∀j (hj:j<k),ps[j].id≠id:=by
  intro ps;induction ps with
  | nil=>intro i;exact .inl ⟨rfl,by simp⟩
  | cons p l ih=>
   intro i;by_cases e:p.id=id
   · exact .inr ⟨0,by simp,by simp[Lib.idxByFrom,e],e,fun j hj=>absurd hj (Nat.not_lt_zero _)⟩
   · have ak:Lib.idxByFrom (fun _ (y:It)=>decide (y.id=id)) default (p::l) i=Lib.idxByFrom (fun _ y=>decide (y.id=id)) default l (i+1):=by simp[Lib.idxByFrom,e]
     rcases ih (i+1) with⟨h1,h2⟩ | ⟨k,hk,h1,h2,h3⟩
     · refine .inl ⟨ak.trans h1,?_⟩;intro q hq;rcases List.mem_cons.1 hq with rfl | hq
       · exact e
       · exact h2 q hq
     · refine .inr ⟨k+1,by simpa using hk,ak.trans (h1.trans (by congr 1;omega)),by simpa using h2,?_⟩;intro j hj;cases j with
       | zero=>simpa using e
       | succ j=>simpa using h3 j (by omega)
 rcases gen ps 0 with h | ⟨k,hk,h1,h2⟩
 · exact .inl h
 · exact .inr ⟨k,hk,by simpa using h1,h2⟩
def uO (its:List It) (id:Int):It:=if 0<=qk its id then its[(qk its id).toNat]! else⟨0,0,0⟩
def qH (W:World) (H:Nat) (x:It):Prop:=W.heap[H]? = some (.cells x.cells.toArray 77 (0,0))
theorem qH.below {W W':World} {H B:Nat} {x:It} (h:qH W H x) (hb:Below B W W') (hH:H<B):qH W' H x:=(hb.block H hH).trans h
theorem qH.lt {W:World} {H:Nat} {x:It} (h:qH W H x):H<W.heap.size:=(Array.getElem?_eq_some_iff.1 h).1
theorem qH.cells {W:World} {H:Nat} {x:It} (h:qH W H x):(W.cell? ⟨H,0,none⟩=some (I x.id)/\W.cell? ⟨H,1,none⟩=some (I x.w)/\W.cell? ⟨H,2,none⟩=some (I x.lag))/\W.frozen? ⟨H,0,none⟩=false/\W.frozen? ⟨H,1,none⟩=false/\W.frozen? ⟨H,2,none⟩=false:=by
 unfold qH at h;refine⟨⟨by simp only[World.cell?,h];rfl,by simp only[World.cell?,h];rfl,by simp only[World.cell?,h];rfl⟩,by simp only[World.frozen?,h];simp,by simp only[World.frozen?,h];simp,by simp only[World.frozen?,h];simp⟩
theorem qH.set {W:World} {H:Nat} {x:It} (h:qH W H x) (y:It) :
 qH (((W.setCell ⟨H,0,none⟩ (I y.id)).setCell ⟨H,1,none⟩ (I y.w)).setCell ⟨H,2,none⟩ (I y.lag)) H y:=by
 unfold qH at h⊢;simp[World.setCell,Array.getElem?_modify,h,It.cells]
theorem ur (W:World) (x:It):qH (W.alloc (.cells x.cells.toArray 77)) W.heap.size x:=heap_alloc_new _ _
def bd (its:List It) (id:Int) (w:World) (e:Ending) (W':World):Prop:=
 e=.returned (.tuple #[.agg #[I (uO its id).id,I (uO its id).w,I (uO its id).lag],.bool (decide (0<=qk its id))])/\Below w.heap.size w W'
theorem cC (cur:Int) (v:Value) (its:List It) (id:Int) (W:World) (h:FSl W v its) (hl:its.length<=100000) :
 Calls Tryz.prog 22 #[.agg #[I cur,v],I id] W (bd its id W):=by
 have ai:=XV cur v its id _ ((h.alloc (.cells #[I cur,v] 70)).alloc (.cells #[I 0,I 0,I 0] 77));have oU:=vM its id;obtain⟨a,c,rfl⟩:=h.form;have H0:=lH h;have Hn:=ur (W.alloc (.cells #[I cur,.slice a its.length c] 70)) ⟨0,0,0⟩;rw[zR] at Hn;have M1:=(UX W (I cur) (.slice a its.length c)).alloc (.cells #[I 0,I 0,I 0] 77);have lF:Hid (Below W.heap.size W ((W.alloc (.cells #[I cur,.slice a its.length c] 70)).alloc (.cells #[I 0,I 0,I 0] 77))):=lH (((Below.refl _ W).alloc (Nat.le_refl _) _).alloc (by simp) _);obtain⟨W0,CO⟩:∃W0,(W.alloc (.cells #[I cur,.slice a its.length c] 70)).alloc (.cells #[I 0,I 0,I 0] 77)=W0:=⟨_,rfl⟩
 have eG:W0.heap.size=W.heap.size+2:=by rw[<- CO];simp
 change qH ((W.alloc (.cells #[I cur,.slice a its.length c] 70)).alloc (.cells #[I 0,I 0,I 0] 77)) (W.heap.size+1) _ at Hn;rw[CO] at ai Hn M1 lF;have Li:=lH Hn;have pz:=lH M1;clear Hn M1;rcases oU with⟨hp,-⟩ | ⟨k,hk,hp,-⟩
 · unfold bd uO;rw[hp] at ai⊢;rw[if_neg (by decide),show decide ((0:Int)<=-1)=false from rfl];obtain⟨n,hn⟩:∃n,its.length=n:=⟨_,rfl⟩
   rw[hn] at CO ai pz⊢;obtain⟨z0,z1,-,-⟩:=pz.out.cells;clear h hp hn;go_enter Tryz.func22,Tryz.ntmps22;go_wp2_with fail
   refine ai.mono ?_;rintro e w1 ⟨rfl,ab⟩;have E0:=Li.out.below ab Li.out.lt;obtain⟨⟨c0,c1,c2⟩,f0,f1,f2⟩:=E0.cells;obtain⟨⟨g0,g1,g2⟩,-⟩:=(E0.set ⟨0,0,0⟩).cells;simp only at c0 c1 c2 g0 g1 g2;have iG:=lH g0;have eV:=lH g1;have oO:=lH g2;have ef:=lH ab;clear g0 g1 g2 E0 ab;go_wp2_with fail
   exact bodyPost_ret (v:=.tuple #[.agg #[I 0,I 0,I 0],.bool false]) (by simp[results,Tryz.results22,go_sem,iG.out,eV.out,oO.out]) rfl ⟨rfl,(((lF.out.trans (ef.out.mono (by omega))).setCell (by simp) _).setCell (by simp) _).setCell (by simp) _⟩
 · unfold bd uO;rw[hp] at ai⊢;rw[if_pos (by omega),show decide ((0:Int)<=(k:Int))=true from decide_eq_true (by omega),Int.toNat_natCast];obtain⟨n,hn⟩:∃n,its.length=n:=⟨_,rfl⟩
   have aS:(k:Int)<(n:Int):=by omega
   have aX:(0:Int)<=(k:Int):=by omega
   have PF:¬(k:Int)<0:=by omega
   obtain⟨g,rfl,hg,k0,k1,k2⟩:=H0.out.cells k hk;rw[hn] at CO ai;obtain⟨x,hx⟩:∃x,its[k]! = x:=⟨_,rfl⟩
   rw[hx] at k0 k1 k2⊢;obtain⟨i,ww,lag⟩:=x;simp only at k0 k1 k2⊢;rw[hn] at pz;have HK:∀w1,Below W.heap.size W w1->(w1.cell? ⟨g,k*3,none⟩=some (I i)/\w1.cell? ⟨g,k*3+1,none⟩=some (I ww)/\w1.cell? ⟨g,k*3+2,none⟩=some (I lag)):=fun w1 hb=>
    ⟨(hb.cell (p:=⟨g,k*3,none⟩) hg).trans k0,(hb.cell (p:=⟨g,k*3+1,none⟩) hg).trans k1,(hb.cell (p:=⟨g,k*3+2,none⟩) hg).trans k2⟩
   have Cx:=lH HK;rw[hn];obtain⟨z0,z1,-,-⟩:=pz.out.cells;clear h hp hn hx HK;go_enter Tryz.func22,Tryz.ntmps22;go_wp2_with fail
   refine ai.mono ?_;rintro e w1 ⟨rfl,ab⟩;have E0:=Li.out.below ab Li.out.lt;obtain⟨r0,r1,-,-⟩:=(pz.out.below ab pz.out.lt).cells;obtain⟨⟨c0,c1,c2⟩,f0,f1,f2⟩:=E0.cells;obtain⟨⟨g0,g1,g2⟩,-⟩:=(E0.set ⟨i,ww,lag⟩).cells;simp only at c0 c1 c2 g0 g1 g2;obtain⟨q0,q1,q2⟩:=Cx.out w1 (lF.out.trans (ab.mono (by omega)));have iG:=lH g0;have eV:=lH g1;have oO:=lH g2;have ef:=lH ab;clear g0 g1 g2 E0 ab k0 k1 k2;go_wp2_with fail
   exact bodyPost_ret (v:=.tuple #[.agg #[I i,I ww,I lag],.bool true]) (by simp[results,Tryz.results22,go_sem,iG.out,eV.out,oO.out]) rfl ⟨rfl,(((lF.out.trans (ef.out.mono (by omega))).setCell (by simp) _).setCell (by simp) _).setCell (by simp) _⟩
def Kc (b1 b2 b3 b4:Bool):Array Value:=#[I 1,.bool b1,I 2,.bool b2,I 3,.bool b3,I 4,.bool b4]
def ptI (base:Int) (x:It):Pt:=T8 ⟨x.id,x.w,base-x.lag,0⟩
def J5 (base cur:Int) (its:List It):Ln:=⟨base,cur,its.map (ptI base)⟩
end
theorem vR (g:Nat):∀(vs:List Value) (o:Nat) (W:World),Touch (fun k=>k=g) W (W.setCells g o vs)
 | [],_,W=>Touch.refl _ W
 | v::r,o,W=>(zG W g o v).self (vR g r (o+1) _)
theorem uK (g:Nat) (T:TypeId):∀(vs:List Value) (o:Nat) (W:World) (cur:Array Value),W.heap[g]? = some (.cells cur T (0,0)) ->
 ∃cur':Array Value,(W.setCells g o vs).heap[g]? = some (.cells cur' T (0,0))/\cur'.size=cur.size/\∀j,j<cur.size->cur'[j]? = if o<=j/\j<o+vs.length then vs[j-o]? else cur[j]?
 | [],o,W,cur,h=>⟨cur,h,rfl,fun j hj=>by rw[if_neg (by simp only[List.length_nil];omega)]⟩
 | v::r,o,W,cur,h=>by
  obtain⟨cur',h1,h2,h3⟩:=uK g T r (o+1) (W.setCell ⟨g,o,none⟩ v) _ (yB h);refine⟨cur',h1,by rw[h2];simp,fun j hj=>?_⟩;rw[h3 j (by simpa using hj)];by_cases e:o=j
  · subst e;rw[if_neg (by omega),if_pos (by simp),Array.getElem?_setIfInBounds];simp[hj]
  · by_cases e2:o+1<=j/\j<o+1+r.length
    · rw[if_pos e2,if_pos (by simp only[List.length_cons];omega)];rw[show j-o=(j-(o+1))+1 by omega,List.getElem?_cons_succ]
    · rw[if_neg e2,if_neg (by simp only[List.length_cons];omega),Array.getElem?_setIfInBounds,if_neg e]
theorem vy:∀(ps:List Pt) (v:Value),v∈zr ps->v.oneCell'=true
 | [],v,h=>by simp[zr] at h
 | p::l,v,h=>by
  rw[zr,List.mem_append] at h;rcases h with h | h
  · simp[Pt.cells] at h
    rcases h with rfl | rfl | rfl | rfl <;> rfl
  · exact vy l v h
def uP:List Value:=[I 0,I 0,I 0,I 0]
theorem zaa (w:World):(zeroValue 338).run Tryz.prog w=.ok (.agg #[I 0,I 0,I 0,I 0]) w:=Tryz.zeroValue338 w
theorem XO (W:World) (ty:TypeId) (g o c:Nat) (hc:∀j,j<4->(W.cell? ⟨g,o+j,none⟩).isSome=true) (hf:∀j,j<4->W.frozen? ⟨g,o+j,none⟩=false) :
 (Builtin.clear_ #[265] ty #[.slice (some ⟨g,o,none⟩) 1 c]).run Tryz.prog W=.ok (.tuple #[]) (W.setCells g o uP):=by
 have TA:(Builtin.zeroCells (Value.agg #[I 0,I 0,I 0,I 0]).cells 1).toList=uP:=by simp[Builtin.zeroCells,Value.cells,uP,List.range_succ]
 have aG:=run_storeCells_cells (P:=Tryz.prog) g o uP 0 W (by simpa [uP] using hc) (by simpa [uP] using hf) (by intro v iC;simp[uP] at iC;rw[iC];rfl);simp only[Nat.add_zero] at aG;simp[Builtin.clear_,run_underlying Tryz.underlying265,zaa,TA,aG]
theorem Yg (g cap n i j:Nat) (ps:List Pt) (W:World) (h:W.ownsRow 0 338 4 (.slice (some ⟨g,0,none⟩) n cap) n (zr ps)) (hn:ps.length=n) (hi:i<n) (hj:j=i+1) :
 Calls Tryz.prog 280 #[.slice (some ⟨g,0,none⟩) n cap,I i,I j] W fun e w'=>e=.returned (.slice (some ⟨g,0,none⟩) (n-1) cap) /\
  w'.ownsRow 0 338 4 (.slice (some ⟨g,0,none⟩) (n-1) cap) (n-1) (zr (ps.eraseIdx i))/\Touch (fun k=>k=g) W w':=by
 obtain⟨cur,la,AH,SI,mH,eZ⟩:∃cur,W.heap[g]? = some (.cells cur 338 (0,0))/\n<=cap/\cap<=maxLen/\cur.size=cap*4/\cur.toList.take (n*4)=zr ps:=by
  rcases h.2 with⟨e,_⟩ | ⟨g',cap',cur,e,_,la,h1,h2,h3,h4⟩
  · cases e
  · simp only[Value.slice.injEq,Option.some.injEq,Addr.mk.injEq] at e;obtain⟨⟨rfl,_⟩,_,rfl⟩:=e;exact⟨cur,la,h1,h2,h3,h4⟩
 obtain⟨i0,sf,eG,aI,et⟩:=info_parts Xx;have ap:∀t,t<cap*4->∃v,cur[t]? = some v/\W.cell? ⟨g,t,none⟩=some v:=fun t ht=>by
  rw[<- mH] at ht;exact⟨cur[t],Array.getElem?_eq_getElem ht,by simp[World.cell?,la,Array.getElem?_eq_getElem ht]⟩
 have Io:∀t,W.frozen? ⟨g,t,none⟩=false:=fun t=>by simp[World.frozen?,la]
 have iV:∀t,t<n*4->cur[t]? = (zr ps)[t]?:=fun t ht=>by
  rw[<- eZ,List.getElem?_take,if_pos ht,Array.getElem?_toList]
 obtain⟨news,pi⟩:∃news,news=zr (ps.drop j):=⟨_,rfl⟩
 have Ps:zr ps=zr (ps.take j)++zr (ps.drop j):=by rw[<- yO,List.take_append_drop]
 have ag:news.length=(n-j)*4:=by rw[pi,yu,List.length_drop,hn]
 have pT:∀t,t<(n-j)*4->news[t]? = cur[j*4+t]?:=fun t ht=>by
  rw[iV _ (by omega),Ps,pi,List.getElem?_append_right (by rw[yu,List.length_take];omega),yu,List.length_take];congr 1;omega
 obtain⟨A,hA,nH⟩:∃A:Addr,(if cap=j then(some ⟨g,0,none⟩:Option Addr) else some ⟨g,j*4,none⟩)=some A/\Hid (∀t u,news[t]? = some u->W.drew.cell? (A.add t)=some u):=by
  by_cases e:cap=j
  · refine⟨⟨g,0,none⟩,by simp[e],fun t u hu=>?_⟩;have h0:news.length=0:=by rw[ag];omega
    rw[List.length_eq_zero_iff.1 h0] at hu;simp at hu
  · refine⟨⟨g,j*4,none⟩,by simp[e],fun t u hu=>?_⟩;have ht:t<(n-j)*4:=by
     have:=(List.getElem?_eq_some_iff.1 hu).1;rwa [ag] at this
    rw[pT t ht] at hu;rw[Addr.add_lit];obtain⟨v,h1,h2⟩:=ap (j*4+t) (by omega);rw[h1] at hu;cases hu;exact h2
 have s1:Hid (news.length=(n-j)*4):=ag;have s2:Hid (∀u∈news,u.oneCell'=true):=by rw[pi];exact vy _
 have s3:Hid (∀t,t<news.length->(W.drew.cell? ⟨g,0+i*4+t,none⟩).isSome=true/\W.drew.frozen? ⟨g,0+i*4+t,none⟩=false):=by
  intro t ht;rw[ag] at ht;obtain⟨v,h1,h2⟩:=ap (0+i*4+t) (by omega);exact⟨by show(W.cell? _).isSome=true;rw[h2];rfl,Io _⟩
 obtain⟨W1,lu⟩:∃W1,W1=W.drew.setCells g (0+i*4) news:=⟨_,rfl⟩
 obtain⟨c1,Gx,ru,ni⟩:=uK g 338 news (0+i*4) W.drew cur la;rw[<- lu] at Gx;have iI:∀ty,(Builtin.clear_ #[265] ty #[.slice (some ⟨g,(i+(n-j))*4,none⟩) (n-(i+(n-j))) (cap-(i+(n-j)))]).run Tryz.prog W1=.ok (.tuple #[]) (W1.setCells g ((i+(n-j))*4) uP):=fun ty=>by
  rw[show n-(i+(n-j))=1 by omega];refine XO W1 ty g _ _ (fun t ht=>?_) (fun t ht=>by simp[World.frozen?,Gx]);simp only[World.cell?,Gx];rw[Array.getElem?_eq_getElem (by omega)];rfl
 have HX:Hid ((W1.setCells g ((i+(n-j))*4) uP).ownsRow 0 338 4 (.slice (some ⟨g,0,none⟩) (n-1) cap) (n-1) (zr (ps.eraseIdx i))/\Touch (fun k=>k=g) W (W1.setCells g ((i+(n-j))*4) uP)):=by
  obtain⟨c2,oI,sG,nI⟩:=uK g 338 uP ((i+(n-j))*4) W1 c1 Gx;refine⟨⟨by rw[yu,List.length_eraseIdx,if_pos (by omega),hn],.inr ⟨g,cap,c2,rfl,Nat.zero_le _,oI,by omega,SI,by rw[sG,ru,mH],?_⟩⟩,?_⟩
  · rw[List.eraseIdx_eq_take_drop_succ,yO,<- hj,<- pi];apply List.ext_getElem?
    intro t;have e4:uP.length=4:=rfl;by_cases ht:t<(n-1)*4
    · rw[List.getElem?_take,if_pos ht,Array.getElem?_toList,nI t (by omega),if_neg (by omega),ni t (by omega)];by_cases e:t<i*4
      · rw[if_neg (by omega),iV t (by omega),List.getElem?_append_left (by rw[yu,List.length_take];omega)];have:zr ps=zr (ps.take i)++zr (ps.drop i):=by rw[<- yO,List.take_append_drop]
        rw[this,List.getElem?_append_left (by rw[yu,List.length_take];omega)]
      · rw[if_pos (by omega),List.getElem?_append_right (by rw[yu,List.length_take];omega),yu,List.length_take];congr 1;omega
    · rw[List.getElem?_take,if_neg ht,List.getElem?_eq_none];rw[List.length_append,yu,List.length_take,ag];omega
  · rw[lu];exact((Touch.refl _ W).drew.self (vR g _ _ _)).self (vR g _ _ _)
 have hW:Hid (W1=W.drew.setCells g (0+i*4) news):=lu;have NA:i<=cap:=by omega
 have TS:j<=cap:=by omega
 have mZ:j<=n:=by omega
 have AC:i<=j:=by omega
 have ay:¬((i:Int)=(j:Int)):=by omega
 have NP:(j:Int)=(i:Int)+1:=by omega
 have hmx:Tryz.prog.follows .mixedOrders=true:=by kernel_rfl
 have HJ:=lH hj;clear hj lu Gx ru ni pT ag Ps iV ap Io eZ la pi h NP;go_enter Tryz.func280,Tryz.ntmps280;go_wp2_with fail
 go_region_law_o (refine step_append_room rfl (.tmp 22) (.tmp 25) 265 rfl 338 i0 4 Tryz.underlying265 sf aI g 0 i cap (by simp[Act.eval,Act.put]) A (n-j) (cap-j) news (by simp[Act.eval,Act.put]) s1.out nH.out s2.out (by omega) s3.out ?_;rw[<- hW.out])
 go_wp2
 go_ret
 exact⟨by rw[show n-1=i+(n-j) by have:=HJ.out;omega];rfl,HX.out⟩
theorem zm (B:Nat) (W:World) (q:Nat):Below B W (W.drewN q):=⟨rfl,rfl,rfl,Nat.le_refl _,fun _ _=>rfl⟩
def zA (l:Ln) (id:Int):Int×Int×Ln:=
 if yh l.ps id<0 then(0,2,l)
 else(l.base-(l.ps[(yh l.ps id).toNat]!).v,0,⟨yY l.base (l.ps.eraseIdx (yh l.ps id).toNat),if l.cur=id then -1 else l.cur,l.ps.eraseIdx (yh l.ps id).toNat⟩)
def vm (b:Nat) (v:Value) (r:Int×Int×Ln) (W:World) (e:Ending) (w':World):Prop:=
 e=.returned (.tuple #[I r.1,I r.2.1])/\∃v',LineAt w' b v' r.2.2/\Touch (lfp b v) W w'/\(∀k,v'.ownBlock=some k->v.ownBlock=some k)
theorem jD (b:Nat) (v:Value) (l:Ln) (id:Int) (W:World) (h:LineAt W b v l) (ag:l.ps.length<=64) (lk:-2305843009213693952<=l.base/\l.base<=2305843009213693952)
 (hv:∀p∈l.ps,-2305843009213693952<=p.v/\p.v<=4611686018427387904) :
 Calls Tryz.prog 272 #[.pointer (some ⟨b,0,none⟩),I id] W (vm b v (zA l id) W):=by
 have ai:=vD b v l id W h;rcases zB l.ps id with⟨hp,_⟩ | ⟨k,hk,hp,_⟩
 · have hr:zA l id=(0,2,l):=by unfold zA;rw[if_pos (by omega)]
   rw[hp] at ai;unfold vm;rw[hr];have HL:=lH h;clear h hp hr;go_enter Tryz.func272,Tryz.ntmps272;go_wp2_with fail
   refine ai.mono ?_;rintro e w1 ⟨rfl,hb⟩;have HB:=lH hb;clear ai hb;go_wp2_with fail
   go_ret2
   exact⟨rfl,v,HL.out.below HB.out,Touch.of_below HB.out,fun k hk=>hk⟩
 · obtain⟨p,ij⟩:∃p,l.ps[k]! = p:=⟨_,rfl⟩
   have Oi:=hv p (by rw[<- ij,getElem!_pos l.ps k hk];exact List.getElem_mem hk);have hr:zA l id=(l.base-p.v,0,⟨yY l.base (l.ps.eraseIdx k),if l.cur=id then -1 else l.cur,l.ps.eraseIdx k⟩):=by
    unfold zA;rw[hp,if_neg (by omega)];simp only[Int.toNat_natCast];rw[ij]
   rw[hp] at ai;unfold vm;rw[hr];obtain⟨C,hC⟩:∃C,(if l.cur=id then(-1:Int) else l.cur)=C:=⟨_,rfl⟩
   rw[hC];have HC:=lH hC;clear hC;obtain⟨g,cap,sX⟩:=h.form (by omega);subst sX;obtain⟨n,hn⟩:∃n,l.ps.length=n:=⟨_,rfl⟩
   rw[hn] at hk ag h;have HN:=lH hn;have HL:=lH h;have A6:=lH ij;have b1:=lk.1;have b2:=lk.2;obtain⟨v1,v2⟩:=Oi;have aX:¬(k:Int)<0:=by omega
   have iY:(k:Int)<(n:Int):=by omega
   have ly:0<=(k:Int):=by omega
   clear hn h ij hp hr hv lk;go_enter Tryz.func272,Tryz.ntmps272;go_wp2_with fail
   refine ai.mono ?_;rintro e w1 ⟨rfl,hb⟩;have iM:=HL.out.below hb;obtain⟨c0,c1,c2,c3⟩:=iM.cells (by rw[HN.out];exact hk) A6.out;have cb:=iM.base;have cs:=iM.sl;have GV:=lH iM;have HB:=lH hb;clear ai hb iM;go_wp2_with fail
   go_quiet (fail)
   have lU:=GV.out.below (zm w1.heap.size w1 nq);have aa:=lU.row;rw[HN.out] at aa;have CT:=Yg g cap n k (k+1) l.ps _ aa HN.out hk rfl;rw[show((k+1:Nat):Int)=(k:Int)+1 by omega] at CT;have cs2:=lU.sl;have mK:=lH lU;clear lU aa c0 c1 c2 c3 cb cs;go_wp2_with fail
   refine CT.mono ?_;rintro e w2 ⟨rfl,lB,nI⟩;have Pm:b≠g:=fun e=>mK.out.ne (by rw[e];rfl);have iH:w2.heap[b]? = (w1.drewN nq).heap[b]?:=nI.block b (mK.out.lt b (.inl rfl)) Pm;have d0:=(World.cell?_of_block (a:=⟨b,0,none⟩) iH).trans mK.out.base;have d1:=(World.cell?_of_block (a:=⟨b,1,none⟩) iH).trans mK.out.cur;have d2:=(World.cell?_of_block (a:=⟨b,2,none⟩) iH).trans mK.out.sl;have f1:=(World.frozen?_of_block (a:=⟨b,1,none⟩) iH).trans (mK.out.live 1)
   have f2:=(World.frozen?_of_block (a:=⟨b,2,none⟩) iH).trans (mK.out.live 2)
   have Ni:(l.ps.eraseIdx k).length=n-1:=by rw[List.length_eraseIdx,if_pos (by rw[HN.out];exact hk),HN.out]
   have mN:=mK.out.reslice (v':=.slice (some ⟨g,0,none⟩) (n-1) cap) (ps':=l.ps.eraseIdx k) iH (by rw[Ni];exact lB) mK.out.ne;have ew:=lH (HB.out.trans (zm _ w1 nq));have eR:=lH nI;have Ga:=lH Ni;have Mi:=lH mN;clear CT lB nI iH Ni mN cs2;have lR:Touch (lfp b (.slice (some ⟨g,0,none⟩) l.ps.length cap)) W (w2.setCell ⟨b,2,none⟩ (.slice (some ⟨g,0,none⟩) (n-1) cap)):=by
    refine((Touch.of_below (HB.out.trans (zm _ w1 nq))).self (eR.out.wider (fun k hk=>?_))).self ((zG w2 b 2 _).wider (fun k hk=>.inl hk));exact .inr (by rw[hk];rfl)
   have pA:=lH lR;clear lR;by_cases mB:l.cur=id
   · have oX:=uX b _ _ _ (Mi.out.setCur (-1)) (by show(l.ps.eraseIdx k).length<=64;rw[Ga.out];omega);simp only at oX;obtain rfl:C=-1:=by rw[<- HC.out,if_pos mB]
     have Rj:=lH mB;rw[mB] at d1;clear mB;go_wp2_with fail
     refine oX.mono ?_;rintro e w4 ⟨rfl,DF,tO⟩;have GW:=lH DF;have CE:=lH ((pA.out.self ((zG _ b 1 (I (-1))).wider (fun k hk=>.inl hk))).self (tO.wider (fun k hk=>.inl hk)));clear DF tO oX;go_wp2_with fail
     go_ret2
     exact⟨rfl,_,GW.out,CE.out,fun k hk=>hk⟩
   · have oX:=uX b _ _ _ Mi.out (by show(l.ps.eraseIdx k).length<=64;rw[Ga.out];omega);simp only at oX;obtain rfl:C=l.cur:=by rw[<- HC.out,if_neg mB]
     go_wp2_with fail
     refine oX.mono ?_;rintro e w4 ⟨rfl,DF,tO⟩;have GW:=lH DF;have CE:=lH (pA.out.self (tO.wider (fun k hk=>.inl hk)));clear DF tO oX;go_wp2_with fail
     go_ret2
     exact⟨rfl,_,GW.out,CE.out,fun k hk=>hk⟩
section
attribute [local go_sem] Oper.semAt_some
theorem UV (cur:Int) (a:Option Addr) (n c:Nat) (its:List It) (id:Int) (W:World) (h:FSl W (.slice a n c) its) (hn:its.length=n) (aT:n<=64) :
 Calls Tryz.prog 40 #[.agg #[I cur,.slice a n c],I id] W fun e w'=>e=.returned (I (qk its id))/\Below W.heap.size W w':=by
 have HC:=lH (fun k (hk:k<n)=>(h.alloc (.cells #[I cur,.slice a n c] 66)).cells k (by omega));have ey:=heap_alloc_new W (.cells #[I cur,.slice a n c] 66);have c1:(W.alloc (.cells #[I cur,.slice a n c] 66)).cell? ⟨W.heap.size,1,none⟩=some (.slice a n c):=by simp only[World.cell?,ey];rfl
 have HB:Hid (Below W.heap.size W (W.alloc (.cells #[I cur,.slice a n c] 66))):=lH ((Below.refl _ _).alloc (Nat.le_refl _) _);have HN:=lH hn;clear h ey hn;go_enter Tryz.func40,Tryz.ntmps40;go_wp2_with fail
 obtain⟨V,hV⟩:∃V,W.alloc (.cells #[I cur,.slice a n c] 66)=V:=⟨_,rfl⟩
 rw[hV] at HC c1 HB⊢;clear hV;go_loop [5] (fun x=>∃k:Nat,k<=n/\x=I k/\Hid (∀j (hj:j<its.length),j<k->its[j].id≠id)) (fun x=>n-(intOf x).toNat)
 case atStart=>exact⟨0,Nat.zero_le _,rfl,lH (fun j hj hk=>absurd hk (Nat.not_lt_zero j))⟩
 case round=>
  obtain⟨k,hk,rfl,HK⟩:=hrel;have aX:0<=(k:Int):=by omega
  by_cases aw:k<n
  · obtain⟨g,rfl,g1,k0,-,-⟩:=HC.out k aw;have D0:k<its.length:=by rw[HN.out];exact aw
    rw[getElem!_pos its k D0] at k0;obtain⟨pid,iS⟩:∃x,its[k].id=x:=⟨_,rfl⟩
    rw[iS] at k0;have HP:=lH iS;have iJ:(k:Int)<(n:Int):=by omega
    clear iS;by_cases e:pid=id
    · have am:qk its id=(k:Int):=by
       rcases vM its id with⟨-,hn⟩ | ⟨j,hj,hp,h1,h2⟩
       · exact absurd (HP.out.trans e) (hn _ (List.getElem_mem D0))
       · rw[hp];congr 1
         rcases Nat.lt_trichotomy j k with ah | rfl | ah
         · exact absurd h1 (HK.out j hj ah)
         · rfl
         · exact absurd (HP.out.trans e) (h2 k ah)
      have aA:=lH am;clear am;subst e;go_wp2_with fail
      go_ret
      exact⟨by rw[aA.out];rfl,HB.out⟩
    · have oC:Hid (∀j (hj:j<its.length),j<k+1->its[j].id≠id):=lH (fun j hj CZ=>by
       by_cases e2:j<k
       · exact HK.out j hj e2
       · obtain rfl:j=k:=by omega
         rw[HP.out];exact e)
      go_wp2_with fail
      go_round
      case rel=>exact⟨k+1,by omega,by go_num,oC⟩
      case measure=>simp[intOf];omega
  · obtain rfl:k=n:=by omega
    have am:qk its id=-1:=by
     rcases vM its id with⟨hp,-⟩ | ⟨j,hj,hp,h1,h2⟩
     · exact hp
     · exact absurd h1 (HK.out j hj (by rw[<- HN.out];exact hj))
    have aA:=lH am;clear am;go_wp2_with fail
    go_ret
    exact⟨by rw[aA.out];rfl,HB.out⟩
theorem Qk (cur:Int) (a b:Option Addr) (n c d:Nat) (its:List It) (W:World) (ha:FSl W (.slice a n c) its) (hb:FSl W (.slice b n d) its) (hn:its.length=n) (aT:n<=64) :
 Calls Tryz.prog 17 #[.agg #[I cur,.slice a n c],.agg #[I cur,.slice b n d]] W fun e w'=>e=.returned (.bool true)/\Below W.heap.size W w':=by
 have aI:(W.alloc (.cells #[I cur,.slice a n c] 66)).heap.size=W.heap.size+1:=by simp
 have ey:=heap_alloc_new W (.cells #[I cur,.slice a n c] 66);have Cm:=heap_alloc_new (W.alloc (.cells #[I cur,.slice a n c] 66)) (.cells #[I cur,.slice b n d] 66);have nV:((W.alloc (.cells #[I cur,.slice a n c] 66)).alloc (.cells #[I cur,.slice b n d] 66)).heap[W.heap.size]? = _:=(Below.heap_alloc _ _ _ (by simp)).trans ey;have DC:Below W.heap.size W ((W.alloc (.cells #[I cur,.slice a n c] 66)).alloc (.cells #[I cur,.slice b n d] 66)):=((Below.refl _ _).alloc (Nat.le_refl _) _).alloc (by simp) _;rw[aI] at Cm;have x0:((W.alloc (.cells #[I cur,.slice a n c] 66)).alloc (.cells #[I cur,.slice b n d] 66)).cell? ⟨W.heap.size,0,none⟩=some (I cur):=by simp only[World.cell?,nV];rfl
 have x1:((W.alloc (.cells #[I cur,.slice a n c] 66)).alloc (.cells #[I cur,.slice b n d] 66)).cell? ⟨W.heap.size,1,none⟩=some (.slice a n c):=by simp only[World.cell?,nV];rfl
 have y0:((W.alloc (.cells #[I cur,.slice a n c] 66)).alloc (.cells #[I cur,.slice b n d] 66)).cell? ⟨W.heap.size+1,0,none⟩=some (I cur):=by simp only[World.cell?,Cm];rfl
 have y1:((W.alloc (.cells #[I cur,.slice a n c] 66)).alloc (.cells #[I cur,.slice b n d] 66)).cell? ⟨W.heap.size+1,1,none⟩=some (.slice b n d):=by simp only[World.cell?,Cm];rfl
 have HC:=lH (fun k (hk:k<n)=>(ha.below DC).cells k (by omega));have HD:=lH (fun k (hk:k<n)=>(hb.below DC).cells k (by omega));have HB:=lH DC;have HN:=lH hn;have HZ:Hid (((W.alloc (.cells #[I cur,.slice a n c] 66)).alloc (.cells #[I cur,.slice b n d] 66)).heap.size=W.heap.size+1+1):=lH (by simp);clear ha hb ey Cm nV DC hn aI;go_enter Tryz.func17,Tryz.ntmps17;go_wp2_with fail
 obtain⟨V,hV⟩:∃V,(W.alloc (.cells #[I cur,.slice a n c] 66)).alloc (.cells #[I cur,.slice b n d] 66)=V:=⟨_,rfl⟩
 rw[hV] at x1 y1 HC HD HB HZ⊢;have HX:=lH (And.intro x1 y1);clear hV x0 y0 x1 y1;go_loopw [5] (fun x wr=>∃k:Nat,k<=n/\x=I k/\Hid (Below V.heap.size V wr)) (fun x _=>n-(intOf x).toNat)
 case atStart=>exact⟨0,Nat.zero_le _,rfl,lH (Below.refl _ _)⟩
 case round=>
  obtain⟨k,hk,rfl,HQ⟩:=hrel;have aX:0<=(k:Int):=by omega
  have hz:=HZ.out;have x1:=(HQ.out.cell (p:=⟨W.heap.size,1,none⟩) (by show W.heap.size<V.heap.size;omega)).trans HX.out.1;have y1:=(HQ.out.cell (p:=⟨W.heap.size+1,1,none⟩) (by show W.heap.size+1<V.heap.size;omega)).trans HX.out.2;by_cases aw:k<n
  · obtain⟨g,rfl,g1,k0,k1,k2⟩:=HC.out k aw;obtain⟨g',rfl,g1',j0,j1,j2⟩:=HD.out k aw;have a0:=(HQ.out.cell (p:=⟨g,k*3,none⟩) g1).trans k0;have a1:=(HQ.out.cell (p:=⟨g,k*3+1,none⟩) g1).trans k1;have a2:=(HQ.out.cell (p:=⟨g,k*3+2,none⟩) g1).trans k2;have b0:=(HQ.out.cell (p:=⟨g',k*3,none⟩) g1').trans j0;have b1:=(HQ.out.cell (p:=⟨g',k*3+1,none⟩) g1').trans j1;have b2:=(HQ.out.cell (p:=⟨g',k*3+2,none⟩) g1').trans j2;generalize its[k]!.id=i1 at a0 b0;generalize its[k]!.w=i2 at a1 b1;generalize its[k]!.lag=i3 at a2 b2;have iJ:(k:Int)<(n:Int):=by omega
    clear k0 k1 k2 j0 j1 j2 hz;have hS:Tryz.prog.underlying 105=some (.struct (Tryz.prog.fieldsOf 105)):=by kernel_rfl
    have hp:Tryz.prog.stoodInHeld 105=false:=by kernel_rfl
    have ay:∀w,(binOp .neq 105 (.agg #[I i1,I i2,I i3]) (.agg #[I i1,I i2,I i3])).run Tryz.prog w=.ok (.bool false) w:=fun w=>by
     have u3:=Tryz.underlying3;have u2:=Tryz.underlying2;have q3:=Tryz.isAgg3;have q2:=Tryz.isAgg2;have z3:=Tryz.sizeOf3;have z2:=Tryz.sizeOf2;rw[run_neq_struct,show(10000:Nat)=9999+1 from rfl,run_equalIn_agg w 9999 105 _ _ hS hp];simp only[Program.fieldsOf,Tryz.underlying105];go_simp
    go_wp2_with fail
    go_still_tail 10,(by kernel_rfl)
    change wpList _ _ _ _ _ (World.drew _);go_wp2_with fail
    go_roundw
    case rel=>exact⟨k+1,aw,by go_num,lH HQ.out.drew⟩
    case measure=>simp[intOf];omega
  · obtain rfl:k=n:=by omega
    go_wp2_with fail
    go_ret
    exact⟨rfl,HB.out.trans (HQ.out.mono HB.out.size)⟩
end
end Go.Proofs.YtoiajjobecinpaaGreat
