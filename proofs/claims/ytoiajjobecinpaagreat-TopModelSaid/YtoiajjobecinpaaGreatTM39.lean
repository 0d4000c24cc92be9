/- The law's plain: an act of the document's own, by what is called. The document's Run: nobody there. -/
import Derived.Test.YtoiajjobecinpaaGreatTM36
set_option maxHeartbeats 4000000
set_option maxRecDepth 100000
namespace Go.Proofs.YtoiajjobecinpaaGreat
open Go.RowKit Go.Shelf Go.Lib Go.Proofs
set_option linter.unusedVariables false
set_option linter.unusedSimpArgs false
section
attribute [local go_sem] Oper.semAt_some
theorem RQ.box {rb:Nat} {ro:Nat->Option ROwn} {s':Sy} {W W3 w5 w6:World} {b1 b2:Nat} (h:RQ rb ro s' W3 w5) (hb:Below W.heap.size W W3) (ah:∀k,ro k≠none->k<W.heap.size) (h1:W.heap.size<=b1/\b1<W3.heap.size) (h2:W.heap.size<=b2/\b2<W3.heap.size) (ht:Touch (fun k=>k=b1\/k=b2) w5 w6):RQ rb ro s' W w6:=by
 obtain⟨B',ro',r',hR,nT,aZ,eP⟩:=h;have mG:∀k,(k=b1\/k=b2)->ro' k=none:=fun k hk=>by
  by_cases e:ro' k=none
  · exact e
  · rcases aZ k e with h | h
    · have:=ah k h;rcases hk with rfl | rfl <;> omega
    · rcases hk with rfl | rfl <;> omega
 refine⟨B',ro',r',hR.same ht.size (fun k hk=>ht.block k (hR.lt k hk) (fun e=>hk (mG k e))),nT,fun k hk=>?_,?_⟩
 · rcases aZ k hk with h | h
   · exact .inl h
   · exact .inr (Nat.le_trans hb.size h)
 · have h0:Touch (fun k=>ro k≠none) W w5:=(Touch.of_below hb).self eP;refine⟨ht.os.trans h0.os,ht.tape.trans h0.tape,ht.output.trans h0.output,Nat.le_trans h0.size ht.size,fun k hk hf=>?_⟩;rw[ht.block k (Nat.lt_of_lt_of_le hk h0.size) (fun e=>by rcases e with rfl | rfl <;> omega)];exact h0.block k hk hf
theorem RQ.kept {rb:Nat} {ro:Nat->Option ROwn} {s':Sy} {W W3 w5:World} {b:Nat} (h:RQ rb ro s' W3 w5) (ah:∀k,ro k≠none->k<W.heap.size) (h1:W.heap.size<=b/\b<W3.heap.size):w5.heap[b]? = W3.heap[b]?:=by
 obtain⟨B',ro',r',hR,nT,aZ,eP⟩:=h;exact eP.block b h1.2 (fun e=>by have:=ah b e;omega)
def plW (W:World) (op a b c n m:Int) (bl:Value):World:=((W.alloc (.cells #[I op,I a,I b,I c,I n,I m,bl] 35)).alloc (.cells #[I 0,I 0] 37)).alloc (.cells #[I 0,I 0] 37)
theorem ve (W:World) (op a b c n m:Int) (bl:Value):Below W.heap.size W (plW W op a b c n m bl)/\(plW W op a b c n m bl).heap.size=W.heap.size+3/\(plW W op a b c n m bl).heap[W.heap.size+1]? = some (.cells #[I 0,I 0] 37 (0,0))/\(plW W op a b c n m bl).heap[W.heap.size+2]? = some (.cells #[I 0,I 0] 37 (0,0)) /\
 (plW W op a b c n m bl).heap[W.heap.size]? = some (.cells #[I op,I a,I b,I c,I n,I m,bl] 35 (0,0)):=by
 unfold plW;have e0:=heap_alloc_new W (.cells #[I op,I a,I b,I c,I n,I m,bl] 35);have en:Below W.heap.size W (W.alloc (.cells #[I op,I a,I b,I c,I n,I m,bl] 35)):=(Below.refl _ _).alloc (Nat.le_refl _) _;have z0:(W.alloc (.cells #[I op,I a,I b,I c,I n,I m,bl] 35)).heap.size=W.heap.size+1:=by simp
 generalize W.alloc (.cells #[I op,I a,I b,I c,I n,I m,bl] 35)=V0 at e0 en z0⊢;have e1:=heap_alloc_new V0 (.cells #[I 0,I 0] 37);have eE:=en.alloc en.size (.cells #[I 0,I 0] 37);have z1:(V0.alloc (.cells #[I 0,I 0] 37)).heap.size=W.heap.size+2:=by simp[z0]
 have e01:(V0.alloc (.cells #[I 0,I 0] 37)).heap[W.heap.size]? = _:=(Below.heap_alloc _ _ _ (by omega)).trans e0;rw[z0] at e1;generalize V0.alloc (.cells #[I 0,I 0] 37)=V1 at e1 eE z1 e01⊢;have e2:=heap_alloc_new V1 (.cells #[I 0,I 0] 37);rw[z1] at e2;exact⟨eE.alloc eE.size _,by simp[z1],(Below.heap_alloc _ _ _ (by omega)).trans e1,e2,(Below.heap_alloc _ _ _ (by omega)).trans e01⟩
theorem Zd (W:World) (rb:Nat) (ro:Nat->Option ROwn) (s':Sy) (a b c n m:Int) (bl:Value) (x y:Int) (ah:∀k,ro k≠none->k<W.heap.size)
 (hc:∀W',Below W.heap.size W W'->Calls Tryz.prog 30 #[.pointer (some ⟨rb,0,none⟩),I a,I n,I m] W' fun e w'=>e=.returned (.tuple #[I x,I y])/\RQ rb ro s' W' w') :
 Calls Tryz.prog 14 #[.pointer (some ⟨rb,0,none⟩),yo 1 a b c n m bl] W fun e w'=>e=.returned (.agg #[I x,I y])/\RQ rb ro s' W w':=by
 obtain⟨aK,lE,ia,iU,ek⟩:=ve W 1 a b c n m bl;have af:=hc _ aK;have HK:=lH (fun w5 (bq:Nat) h h1=>RQ.kept (rb:=rb) (ro:=ro) (s':=s') (W:=W) (W3:=plW W 1 a b c n m bl) (w5:=w5) (b:=bq) h ah h1);have HB:=lH (fun w5 w6 b1 b2 h h1 h2 ht=>RQ.box (rb:=rb) (ro:=ro) (s':=s') (W:=W) (W3:=plW W 1 a b c n m bl) (w5:=w5) (w6:=w6) (b1:=b1) (b2:=b2) h aK ah h1 h2 ht);have HZ:=lH lE;have HX:=lH (And.intro ia iU);unfold yo;have i0:(plW W 1 a b c n m bl).cell? ⟨W.heap.size,0,none⟩=some (I 1):=by simp only[World.cell?,ek];rfl
 have i1:(plW W 1 a b c n m bl).cell? ⟨W.heap.size,1,none⟩=some (I a):=by simp only[World.cell?,ek];rfl
 have i2:(plW W 1 a b c n m bl).cell? ⟨W.heap.size,2,none⟩=some (I b):=by simp only[World.cell?,ek];rfl
 have i3:(plW W 1 a b c n m bl).cell? ⟨W.heap.size,3,none⟩=some (I c):=by simp only[World.cell?,ek];rfl
 have i4:(plW W 1 a b c n m bl).cell? ⟨W.heap.size,4,none⟩=some (I n):=by simp only[World.cell?,ek];rfl
 have i5:(plW W 1 a b c n m bl).cell? ⟨W.heap.size,5,none⟩=some (I m):=by simp only[World.cell?,ek];rfl
 unfold plW at af i0 i1 i2 i3 i4 i5;clear ah hc aK lE ia iU ek;go_enter Tryz.func14,Tryz.ntmps14;go_wp2_with fail
 refine af.mono ?_;rintro e w5 ⟨rfl,hq⟩;have hz:=HZ.out;have k1:=(HK.out w5 (W.heap.size+1) hq ⟨by omega,by omega⟩).trans HX.out.1;have k2:=(HK.out w5 (W.heap.size+1+1) hq ⟨by omega,by omega⟩).trans HX.out.2;have u0:w5.cell? ⟨W.heap.size+1,0,none⟩=some (I 0):=by simp only[World.cell?,k1];rfl
 have u1:w5.cell? ⟨W.heap.size+1,1,none⟩=some (I 0):=by simp only[World.cell?,k1];rfl
 have v0:w5.cell? ⟨W.heap.size+1+1,0,none⟩=some (I 0):=by simp only[World.cell?,k2];rfl
 have v1:w5.cell? ⟨W.heap.size+1+1,1,none⟩=some (I 0):=by simp only[World.cell?,k2];rfl
 have f10:=zc k1 0;have f11:=zc k1 1;have f20:=zc k2 0;have f21:=zc k2 1;have au:Hid (∀w6,Touch (fun k=>k=W.heap.size+1\/k=W.heap.size+1+1) w5 w6->RQ rb ro s' W w6):=lH (fun w6 ht=>HB.out w5 w6 _ _ hq ⟨by omega,by omega⟩ ⟨by omega,by omega⟩ ht);clear hq k1 k2 af i0 i1 i2 i3 i4 i5 hz;generalize W.heap.size+1=b1 at u0 u1 v0 v1 f10 f11 f20 f21 au⊢;go_wp2_with fail
 have hT:Touch (fun k=>k=b1\/k=b1+1) w5 ((((w5.setCell ⟨b1+1,0,none⟩ (I x)).setCell ⟨b1+1,1,none⟩ (I y)).setCell ⟨b1,0,none⟩ (I x)).setCell ⟨b1,1,none⟩ (I y)):=((((Touch.refl _ w5).setCell (t:=none) (c:=b1+1) (i:=0) (.inl (.inr rfl)) (I x)).setCell (t:=none) (c:=b1+1) (i:=1) (.inl (.inr rfl)) (I y)).setCell (t:=none) (c:=b1) (i:=0) (.inl (.inl rfl)) (I x)).setCell (t:=none) (c:=b1) (i:=1) (.inl (.inl rfl)) (I y);have iG:Hid (((((w5.setCell ⟨b1+1,0,none⟩ (I x)).setCell ⟨b1+1,1,none⟩ (I y)).setCell ⟨b1,0,none⟩ (I x)).setCell ⟨b1,1,none⟩ (I y)).cell? ⟨b1,0,none⟩=some (I x)):=lH (by rw[za _ (by simp)];exact World.cell?_setCell_same _ _ _ (by rw[za _ (by simp),za _ (by simp)];exact u0));have eV:Hid (((((w5.setCell ⟨b1+1,0,none⟩ (I x)).setCell ⟨b1+1,1,none⟩ (I y)).setCell ⟨b1,0,none⟩ (I x)).setCell ⟨b1,1,none⟩ (I y)).cell? ⟨b1,1,none⟩=some (I y)):=lH (World.cell?_setCell_same _ _ _ (by rw[za _ (by simp),za _ (by simp),za _ (by simp)];exact u1));exact bodyPost_ret (v:=.agg #[I x,I y]) (by simp[results,Tryz.results14,go_sem,iG.out,eV.out]) rfl ⟨rfl,au.out _ hT⟩
theorem Ze (W:World) (rb:Nat) (ro:Nat->Option ROwn) (s':Sy) (a b c n m:Int) (bl:Value) (x y:Int) (ah:∀k,ro k≠none->k<W.heap.size)
 (hc:∀W',Below W.heap.size W W'->Calls Tryz.prog 31 #[.pointer (some ⟨rb,0,none⟩),I a,.int .u16 (IntKind.u16.wrap b),I c] W' fun e w'=>e=.returned (.tuple #[I x,I y])/\RQ rb ro s' W' w') :
 Calls Tryz.prog 14 #[.pointer (some ⟨rb,0,none⟩),yo 2 a b c n m bl] W fun e w'=>e=.returned (.agg #[I x,I y])/\RQ rb ro s' W w':=by
 obtain⟨aK,lE,ia,iU,ek⟩:=ve W 2 a b c n m bl;have af:=hc _ aK;have HK:=lH (fun w5 (bq:Nat) h h1=>RQ.kept (rb:=rb) (ro:=ro) (s':=s') (W:=W) (W3:=plW W 2 a b c n m bl) (w5:=w5) (b:=bq) h ah h1);have HB:=lH (fun w5 w6 b1 b2 h h1 h2 ht=>RQ.box (rb:=rb) (ro:=ro) (s':=s') (W:=W) (W3:=plW W 2 a b c n m bl) (w5:=w5) (w6:=w6) (b1:=b1) (b2:=b2) h aK ah h1 h2 ht);have HZ:=lH lE;have HX:=lH (And.intro ia iU);unfold yo;have i0:(plW W 2 a b c n m bl).cell? ⟨W.heap.size,0,none⟩=some (I 2):=by simp only[World.cell?,ek];rfl
 have i1:(plW W 2 a b c n m bl).cell? ⟨W.heap.size,1,none⟩=some (I a):=by simp only[World.cell?,ek];rfl
 have i2:(plW W 2 a b c n m bl).cell? ⟨W.heap.size,2,none⟩=some (I b):=by simp only[World.cell?,ek];rfl
 have i3:(plW W 2 a b c n m bl).cell? ⟨W.heap.size,3,none⟩=some (I c):=by simp only[World.cell?,ek];rfl
 have i4:(plW W 2 a b c n m bl).cell? ⟨W.heap.size,4,none⟩=some (I n):=by simp only[World.cell?,ek];rfl
 have i5:(plW W 2 a b c n m bl).cell? ⟨W.heap.size,5,none⟩=some (I m):=by simp only[World.cell?,ek];rfl
 unfold plW at af i0 i1 i2 i3 i4 i5;clear ah hc aK lE ia iU ek;go_enter Tryz.func14,Tryz.ntmps14;go_wp2_with fail
 refine af.mono ?_;rintro e w5 ⟨rfl,hq⟩;have hz:=HZ.out;have k1:=(HK.out w5 (W.heap.size+1) hq ⟨by omega,by omega⟩).trans HX.out.1;have k2:=(HK.out w5 (W.heap.size+1+1) hq ⟨by omega,by omega⟩).trans HX.out.2;have u0:w5.cell? ⟨W.heap.size+1,0,none⟩=some (I 0):=by simp only[World.cell?,k1];rfl
 have u1:w5.cell? ⟨W.heap.size+1,1,none⟩=some (I 0):=by simp only[World.cell?,k1];rfl
 have v0:w5.cell? ⟨W.heap.size+1+1,0,none⟩=some (I 0):=by simp only[World.cell?,k2];rfl
 have v1:w5.cell? ⟨W.heap.size+1+1,1,none⟩=some (I 0):=by simp only[World.cell?,k2];rfl
 have f10:=zc k1 0;have f11:=zc k1 1;have f20:=zc k2 0;have f21:=zc k2 1;have au:Hid (∀w6,Touch (fun k=>k=W.heap.size+1\/k=W.heap.size+1+1) w5 w6->RQ rb ro s' W w6):=lH (fun w6 ht=>HB.out w5 w6 _ _ hq ⟨by omega,by omega⟩ ⟨by omega,by omega⟩ ht);clear hq k1 k2 af i0 i1 i2 i3 i4 i5 hz;generalize W.heap.size+1=b1 at u0 u1 v0 v1 f10 f11 f20 f21 au⊢;go_wp2_with fail
 have hT:Touch (fun k=>k=b1\/k=b1+1) w5 ((((w5.setCell ⟨b1+1,0,none⟩ (I x)).setCell ⟨b1+1,1,none⟩ (I y)).setCell ⟨b1,0,none⟩ (I x)).setCell ⟨b1,1,none⟩ (I y)):=((((Touch.refl _ w5).setCell (t:=none) (c:=b1+1) (i:=0) (.inl (.inr rfl)) (I x)).setCell (t:=none) (c:=b1+1) (i:=1) (.inl (.inr rfl)) (I y)).setCell (t:=none) (c:=b1) (i:=0) (.inl (.inl rfl)) (I x)).setCell (t:=none) (c:=b1) (i:=1) (.inl (.inl rfl)) (I y);have iG:Hid (((((w5.setCell ⟨b1+1,0,none⟩ (I x)).setCell ⟨b1+1,1,none⟩ (I y)).setCell ⟨b1,0,none⟩ (I x)).setCell ⟨b1,1,none⟩ (I y)).cell? ⟨b1,0,none⟩=some (I x)):=lH (by rw[za _ (by simp)];exact World.cell?_setCell_same _ _ _ (by rw[za _ (by simp),za _ (by simp)];exact u0));have eV:Hid (((((w5.setCell ⟨b1+1,0,none⟩ (I x)).setCell ⟨b1+1,1,none⟩ (I y)).setCell ⟨b1,0,none⟩ (I x)).setCell ⟨b1,1,none⟩ (I y)).cell? ⟨b1,1,none⟩=some (I y)):=lH (World.cell?_setCell_same _ _ _ (by rw[za _ (by simp),za _ (by simp),za _ (by simp)];exact u1));exact bodyPost_ret (v:=.agg #[I x,I y]) (by simp[results,Tryz.results14,go_sem,iG.out,eV.out]) rfl ⟨rfl,au.out _ hT⟩
theorem q9 (W:World) (rb:Nat) (ro:Nat->Option ROwn) (s':Sy) (op a b c n m:Int) (bl:Value) (y:Int) (ho:op=3\/op=4\/op=5\/op=6) (ah:∀k,ro k≠none->k<W.heap.size)
 (hc:∀W',Below W.heap.size W W'->Calls Tryz.prog 32 #[.pointer (some ⟨rb,0,none⟩),I op,I a] W' fun e w'=>e=.returned (I y)/\RQ rb ro s' W' w') :
 Calls Tryz.prog 14 #[.pointer (some ⟨rb,0,none⟩),yo op a b c n m bl] W fun e w'=>e=.returned (.agg #[I 0,I y])/\RQ rb ro s' W w':=by
 obtain⟨aK,lE,ia,iU,ek⟩:=ve W op a b c n m bl;have af:=hc _ aK;have HK:=lH (fun w5 (bq:Nat) h h1=>RQ.kept (rb:=rb) (ro:=ro) (s':=s') (W:=W) (W3:=plW W op a b c n m bl) (w5:=w5) (b:=bq) h ah h1);have HB:=lH (fun w5 w6 b1 b2 h h1 h2 ht=>RQ.box (rb:=rb) (ro:=ro) (s':=s') (W:=W) (W3:=plW W op a b c n m bl) (w5:=w5) (w6:=w6) (b1:=b1) (b2:=b2) h aK ah h1 h2 ht);have HZ:=lH lE;have HX:=lH (And.intro ia iU);unfold yo;have i0:(plW W op a b c n m bl).cell? ⟨W.heap.size,0,none⟩=some (I op):=by simp only[World.cell?,ek];rfl
 have i1:(plW W op a b c n m bl).cell? ⟨W.heap.size,1,none⟩=some (I a):=by simp only[World.cell?,ek];rfl
 have i2:(plW W op a b c n m bl).cell? ⟨W.heap.size,2,none⟩=some (I b):=by simp only[World.cell?,ek];rfl
 have i3:(plW W op a b c n m bl).cell? ⟨W.heap.size,3,none⟩=some (I c):=by simp only[World.cell?,ek];rfl
 have i4:(plW W op a b c n m bl).cell? ⟨W.heap.size,4,none⟩=some (I n):=by simp only[World.cell?,ek];rfl
 have i5:(plW W op a b c n m bl).cell? ⟨W.heap.size,5,none⟩=some (I m):=by simp only[World.cell?,ek];rfl
 unfold plW at af i0 i1 i2 i3 i4 i5;clear ah hc aK lE ia iU ek;rcases ho with rfl | rfl | rfl | rfl;all_goals
  go_enter Tryz.func14,Tryz.ntmps14;go_wp2_with fail
  refine af.mono ?_;rintro e w5 ⟨rfl,hq⟩;have hz:=HZ.out;have k1:=(HK.out w5 (W.heap.size+1) hq ⟨by omega,by omega⟩).trans HX.out.1;have k2:=(HK.out w5 (W.heap.size+1+1) hq ⟨by omega,by omega⟩).trans HX.out.2;have u0:w5.cell? ⟨W.heap.size+1,0,none⟩=some (I 0):=by simp only[World.cell?,k1];rfl
  have u1:w5.cell? ⟨W.heap.size+1,1,none⟩=some (I 0):=by simp only[World.cell?,k1];rfl
  have v0:w5.cell? ⟨W.heap.size+1+1,0,none⟩=some (I 0):=by simp only[World.cell?,k2];rfl
  have v1:w5.cell? ⟨W.heap.size+1+1,1,none⟩=some (I 0):=by simp only[World.cell?,k2];rfl
  have f10:=zc k1 0;have f11:=zc k1 1;have f20:=zc k2 0;have f21:=zc k2 1;have au:Hid (∀w6,Touch (fun k=>k=W.heap.size+1\/k=W.heap.size+1+1) w5 w6->RQ rb ro s' W w6):=lH (fun w6 ht=>HB.out w5 w6 _ _ hq ⟨by omega,by omega⟩ ⟨by omega,by omega⟩ ht);clear hq k1 k2 af i0 i1 i2 i3 i4 i5 hz;generalize W.heap.size+1=b1 at u0 u1 v0 v1 f10 f11 f20 f21 au⊢;go_wp2_with fail
  have hT:Touch (fun k=>k=b1\/k=b1+1) w5 (((w5.setCell ⟨b1+1,1,none⟩ (I y)).setCell ⟨b1,0,none⟩ (I 0)).setCell ⟨b1,1,none⟩ (I y)):=(((Touch.refl _ w5).setCell (t:=none) (c:=b1+1) (i:=1) (.inl (.inr rfl)) (I y)).setCell (t:=none) (c:=b1) (i:=0) (.inl (.inl rfl)) (I 0)).setCell (t:=none) (c:=b1) (i:=1) (.inl (.inl rfl)) (I y);have iG:Hid ((((w5.setCell ⟨b1+1,1,none⟩ (I y)).setCell ⟨b1,0,none⟩ (I 0)).setCell ⟨b1,1,none⟩ (I y)).cell? ⟨b1,0,none⟩=some (I 0)):=lH (by rw[za _ (by simp)];exact World.cell?_setCell_same _ _ _ (by rw[za _ (by simp)];exact u0));have eV:Hid ((((w5.setCell ⟨b1+1,1,none⟩ (I y)).setCell ⟨b1,0,none⟩ (I 0)).setCell ⟨b1,1,none⟩ (I y)).cell? ⟨b1,1,none⟩=some (I y)):=lH (World.cell?_setCell_same _ _ _ (by rw[za _ (by simp),za _ (by simp)];exact u1));exact bodyPost_ret (v:=.agg #[I 0,I y]) (by simp[results,Tryz.results14,go_sem,iG.out,eV.out]) rfl ⟨rfl,au.out _ hT⟩
theorem Zf (W:World) (rb:Nat) (ro:Nat->Option ROwn) (s':Sy) (a b c n m:Int) (bl:Value) (y:Int) (ah:∀k,ro k≠none->k<W.heap.size)
 (hc:∀W',Below W.heap.size W W'->Calls Tryz.prog 33 #[.pointer (some ⟨rb,0,none⟩),I a,I b] W' fun e w'=>e=.returned (I y)/\RQ rb ro s' W' w') :
 Calls Tryz.prog 14 #[.pointer (some ⟨rb,0,none⟩),yo 7 a b c n m bl] W fun e w'=>e=.returned (.agg #[I 0,I y])/\RQ rb ro s' W w':=by
 obtain⟨aK,lE,ia,iU,ek⟩:=ve W 7 a b c n m bl;have af:=hc _ aK;have HK:=lH (fun w5 (bq:Nat) h h1=>RQ.kept (rb:=rb) (ro:=ro) (s':=s') (W:=W) (W3:=plW W 7 a b c n m bl) (w5:=w5) (b:=bq) h ah h1);have HB:=lH (fun w5 w6 b1 b2 h h1 h2 ht=>RQ.box (rb:=rb) (ro:=ro) (s':=s') (W:=W) (W3:=plW W 7 a b c n m bl) (w5:=w5) (w6:=w6) (b1:=b1) (b2:=b2) h aK ah h1 h2 ht);have HZ:=lH lE;have HX:=lH (And.intro ia iU);unfold yo;have i0:(plW W 7 a b c n m bl).cell? ⟨W.heap.size,0,none⟩=some (I 7):=by simp only[World.cell?,ek];rfl
 have i1:(plW W 7 a b c n m bl).cell? ⟨W.heap.size,1,none⟩=some (I a):=by simp only[World.cell?,ek];rfl
 have i2:(plW W 7 a b c n m bl).cell? ⟨W.heap.size,2,none⟩=some (I b):=by simp only[World.cell?,ek];rfl
 have i3:(plW W 7 a b c n m bl).cell? ⟨W.heap.size,3,none⟩=some (I c):=by simp only[World.cell?,ek];rfl
 have i4:(plW W 7 a b c n m bl).cell? ⟨W.heap.size,4,none⟩=some (I n):=by simp only[World.cell?,ek];rfl
 have i5:(plW W 7 a b c n m bl).cell? ⟨W.heap.size,5,none⟩=some (I m):=by simp only[World.cell?,ek];rfl
 unfold plW at af i0 i1 i2 i3 i4 i5;clear ah hc aK lE ia iU ek;go_enter Tryz.func14,Tryz.ntmps14;go_wp2_with fail
 refine af.mono ?_;rintro e w5 ⟨rfl,hq⟩;have hz:=HZ.out;have k1:=(HK.out w5 (W.heap.size+1) hq ⟨by omega,by omega⟩).trans HX.out.1;have k2:=(HK.out w5 (W.heap.size+1+1) hq ⟨by omega,by omega⟩).trans HX.out.2;have u0:w5.cell? ⟨W.heap.size+1,0,none⟩=some (I 0):=by simp only[World.cell?,k1];rfl
 have u1:w5.cell? ⟨W.heap.size+1,1,none⟩=some (I 0):=by simp only[World.cell?,k1];rfl
 have v0:w5.cell? ⟨W.heap.size+1+1,0,none⟩=some (I 0):=by simp only[World.cell?,k2];rfl
 have v1:w5.cell? ⟨W.heap.size+1+1,1,none⟩=some (I 0):=by simp only[World.cell?,k2];rfl
 have f10:=zc k1 0;have f11:=zc k1 1;have f20:=zc k2 0;have f21:=zc k2 1;have au:Hid (∀w6,Touch (fun k=>k=W.heap.size+1\/k=W.heap.size+1+1) w5 w6->RQ rb ro s' W w6):=lH (fun w6 ht=>HB.out w5 w6 _ _ hq ⟨by omega,by omega⟩ ⟨by omega,by omega⟩ ht);clear hq k1 k2 af i0 i1 i2 i3 i4 i5 hz;generalize W.heap.size+1=b1 at u0 u1 v0 v1 f10 f11 f20 f21 au⊢;go_wp2_with fail
 have hT:Touch (fun k=>k=b1\/k=b1+1) w5 (((w5.setCell ⟨b1+1,1,none⟩ (I y)).setCell ⟨b1,0,none⟩ (I 0)).setCell ⟨b1,1,none⟩ (I y)):=(((Touch.refl _ w5).setCell (t:=none) (c:=b1+1) (i:=1) (.inl (.inr rfl)) (I y)).setCell (t:=none) (c:=b1) (i:=0) (.inl (.inl rfl)) (I 0)).setCell (t:=none) (c:=b1) (i:=1) (.inl (.inl rfl)) (I y);have iG:Hid ((((w5.setCell ⟨b1+1,1,none⟩ (I y)).setCell ⟨b1,0,none⟩ (I 0)).setCell ⟨b1,1,none⟩ (I y)).cell? ⟨b1,0,none⟩=some (I 0)):=lH (by rw[za _ (by simp)];exact World.cell?_setCell_same _ _ _ (by rw[za _ (by simp)];exact u0));have eV:Hid ((((w5.setCell ⟨b1+1,1,none⟩ (I y)).setCell ⟨b1,0,none⟩ (I 0)).setCell ⟨b1,1,none⟩ (I y)).cell? ⟨b1,1,none⟩=some (I y)):=lH (World.cell?_setCell_same _ _ _ (by rw[za _ (by simp),za _ (by simp)];exact u1));exact bodyPost_ret (v:=.agg #[I 0,I y]) (by simp[results,Tryz.results14,go_sem,iG.out,eV.out]) rfl ⟨rfl,au.out _ hT⟩
theorem Yy (W:World) (rb:Nat) (ro:Nat->Option ROwn) (s':Sy) (a b c n m:Int) (bl:Value) (y:Int) (ah:∀k,ro k≠none->k<W.heap.size)
 (hc:∀W',Below W.heap.size W W'->Calls Tryz.prog 34 #[.pointer (some ⟨rb,0,none⟩),I a,.int .u16 (IntKind.u16.wrap b)] W' fun e w'=>e=.returned (I y)/\RQ rb ro s' W' w') :
 Calls Tryz.prog 14 #[.pointer (some ⟨rb,0,none⟩),yo 8 a b c n m bl] W fun e w'=>e=.returned (.agg #[I 0,I y])/\RQ rb ro s' W w':=by
 obtain⟨aK,lE,ia,iU,ek⟩:=ve W 8 a b c n m bl;have af:=hc _ aK;have HK:=lH (fun w5 (bq:Nat) h h1=>RQ.kept (rb:=rb) (ro:=ro) (s':=s') (W:=W) (W3:=plW W 8 a b c n m bl) (w5:=w5) (b:=bq) h ah h1);have HB:=lH (fun w5 w6 b1 b2 h h1 h2 ht=>RQ.box (rb:=rb) (ro:=ro) (s':=s') (W:=W) (W3:=plW W 8 a b c n m bl) (w5:=w5) (w6:=w6) (b1:=b1) (b2:=b2) h aK ah h1 h2 ht);have HZ:=lH lE;have HX:=lH (And.intro ia iU);unfold yo;have i0:(plW W 8 a b c n m bl).cell? ⟨W.heap.size,0,none⟩=some (I 8):=by simp only[World.cell?,ek];rfl
 have i1:(plW W 8 a b c n m bl).cell? ⟨W.heap.size,1,none⟩=some (I a):=by simp only[World.cell?,ek];rfl
 have i2:(plW W 8 a b c n m bl).cell? ⟨W.heap.size,2,none⟩=some (I b):=by simp only[World.cell?,ek];rfl
 have i3:(plW W 8 a b c n m bl).cell? ⟨W.heap.size,3,none⟩=some (I c):=by simp only[World.cell?,ek];rfl
 have i4:(plW W 8 a b c n m bl).cell? ⟨W.heap.size,4,none⟩=some (I n):=by simp only[World.cell?,ek];rfl
 have i5:(plW W 8 a b c n m bl).cell? ⟨W.heap.size,5,none⟩=some (I m):=by simp only[World.cell?,ek];rfl
 unfold plW at af i0 i1 i2 i3 i4 i5;clear ah hc aK lE ia iU ek;go_enter Tryz.func14,Tryz.ntmps14;go_wp2_with fail
 refine af.mono ?_;rintro e w5 ⟨rfl,hq⟩;have hz:=HZ.out;have k1:=(HK.out w5 (W.heap.size+1) hq ⟨by omega,by omega⟩).trans HX.out.1;have k2:=(HK.out w5 (W.heap.size+1+1) hq ⟨by omega,by omega⟩).trans HX.out.2;have u0:w5.cell? ⟨W.heap.size+1,0,none⟩=some (I 0):=by simp only[World.cell?,k1];rfl
 have u1:w5.cell? ⟨W.heap.size+1,1,none⟩=some (I 0):=by simp only[World.cell?,k1];rfl
 have v0:w5.cell? ⟨W.heap.size+1+1,0,none⟩=some (I 0):=by simp only[World.cell?,k2];rfl
 have v1:w5.cell? ⟨W.heap.size+1+1,1,none⟩=some (I 0):=by simp only[World.cell?,k2];rfl
 have f10:=zc k1 0;have f11:=zc k1 1;have f20:=zc k2 0;have f21:=zc k2 1;have au:Hid (∀w6,Touch (fun k=>k=W.heap.size+1\/k=W.heap.size+1+1) w5 w6->RQ rb ro s' W w6):=lH (fun w6 ht=>HB.out w5 w6 _ _ hq ⟨by omega,by omega⟩ ⟨by omega,by omega⟩ ht);clear hq k1 k2 af i0 i1 i2 i3 i4 i5 hz;generalize W.heap.size+1=b1 at u0 u1 v0 v1 f10 f11 f20 f21 au⊢;go_wp2_with fail
 have hT:Touch (fun k=>k=b1\/k=b1+1) w5 (((w5.setCell ⟨b1+1,1,none⟩ (I y)).setCell ⟨b1,0,none⟩ (I 0)).setCell ⟨b1,1,none⟩ (I y)):=(((Touch.refl _ w5).setCell (t:=none) (c:=b1+1) (i:=1) (.inl (.inr rfl)) (I y)).setCell (t:=none) (c:=b1) (i:=0) (.inl (.inl rfl)) (I 0)).setCell (t:=none) (c:=b1) (i:=1) (.inl (.inl rfl)) (I y);have iG:Hid ((((w5.setCell ⟨b1+1,1,none⟩ (I y)).setCell ⟨b1,0,none⟩ (I 0)).setCell ⟨b1,1,none⟩ (I y)).cell? ⟨b1,0,none⟩=some (I 0)):=lH (by rw[za _ (by simp)];exact World.cell?_setCell_same _ _ _ (by rw[za _ (by simp)];exact u0));have eV:Hid ((((w5.setCell ⟨b1+1,1,none⟩ (I y)).setCell ⟨b1,0,none⟩ (I 0)).setCell ⟨b1,1,none⟩ (I y)).cell? ⟨b1,1,none⟩=some (I y)):=lH (World.cell?_setCell_same _ _ _ (by rw[za _ (by simp),za _ (by simp)];exact u1));exact bodyPost_ret (v:=.agg #[I 0,I y]) (by simp[results,Tryz.results14,go_sem,iG.out,eV.out]) rfl ⟨rfl,au.out _ hT⟩
theorem Y1 (W:World) (rb:Nat) (ro:Nat->Option ROwn) (s':Sy) (a b c n m:Int) (bl:Value) (y:Int) (ah:∀k,ro k≠none->k<W.heap.size)
 (hc:∀W',Below W.heap.size W W'->Calls Tryz.prog 35 #[.pointer (some ⟨rb,0,none⟩),I a,I b] W' fun e w'=>e=.returned (I y)/\RQ rb ro s' W' w') :
 Calls Tryz.prog 14 #[.pointer (some ⟨rb,0,none⟩),yo 9 a b c n m bl] W fun e w'=>e=.returned (.agg #[I 0,I y])/\RQ rb ro s' W w':=by
 obtain⟨aK,lE,ia,iU,ek⟩:=ve W 9 a b c n m bl;have af:=hc _ aK;have HK:=lH (fun w5 (bq:Nat) h h1=>RQ.kept (rb:=rb) (ro:=ro) (s':=s') (W:=W) (W3:=plW W 9 a b c n m bl) (w5:=w5) (b:=bq) h ah h1);have HB:=lH (fun w5 w6 b1 b2 h h1 h2 ht=>RQ.box (rb:=rb) (ro:=ro) (s':=s') (W:=W) (W3:=plW W 9 a b c n m bl) (w5:=w5) (w6:=w6) (b1:=b1) (b2:=b2) h aK ah h1 h2 ht);have HZ:=lH lE;have HX:=lH (And.intro ia iU);unfold yo;have i0:(plW W 9 a b c n m bl).cell? ⟨W.heap.size,0,none⟩=some (I 9):=by simp only[World.cell?,ek];rfl
 have i1:(plW W 9 a b c n m bl).cell? ⟨W.heap.size,1,none⟩=some (I a):=by simp only[World.cell?,ek];rfl
 have i2:(plW W 9 a b c n m bl).cell? ⟨W.heap.size,2,none⟩=some (I b):=by simp only[World.cell?,ek];rfl
 have i3:(plW W 9 a b c n m bl).cell? ⟨W.heap.size,3,none⟩=some (I c):=by simp only[World.cell?,ek];rfl
 have i4:(plW W 9 a b c n m bl).cell? ⟨W.heap.size,4,none⟩=some (I n):=by simp only[World.cell?,ek];rfl
 have i5:(plW W 9 a b c n m bl).cell? ⟨W.heap.size,5,none⟩=some (I m):=by simp only[World.cell?,ek];rfl
 unfold plW at af i0 i1 i2 i3 i4 i5;clear ah hc aK lE ia iU ek;go_enter Tryz.func14,Tryz.ntmps14;go_wp2_with fail
 refine af.mono ?_;rintro e w5 ⟨rfl,hq⟩;have hz:=HZ.out;have k1:=(HK.out w5 (W.heap.size+1) hq ⟨by omega,by omega⟩).trans HX.out.1;have k2:=(HK.out w5 (W.heap.size+1+1) hq ⟨by omega,by omega⟩).trans HX.out.2;have u0:w5.cell? ⟨W.heap.size+1,0,none⟩=some (I 0):=by simp only[World.cell?,k1];rfl
 have u1:w5.cell? ⟨W.heap.size+1,1,none⟩=some (I 0):=by simp only[World.cell?,k1];rfl
 have v0:w5.cell? ⟨W.heap.size+1+1,0,none⟩=some (I 0):=by simp only[World.cell?,k2];rfl
 have v1:w5.cell? ⟨W.heap.size+1+1,1,none⟩=some (I 0):=by simp only[World.cell?,k2];rfl
 have f10:=zc k1 0;have f11:=zc k1 1;have f20:=zc k2 0;have f21:=zc k2 1;have au:Hid (∀w6,Touch (fun k=>k=W.heap.size+1\/k=W.heap.size+1+1) w5 w6->RQ rb ro s' W w6):=lH (fun w6 ht=>HB.out w5 w6 _ _ hq ⟨by omega,by omega⟩ ⟨by omega,by omega⟩ ht);clear hq k1 k2 af i0 i1 i2 i3 i4 i5 hz;generalize W.heap.size+1=b1 at u0 u1 v0 v1 f10 f11 f20 f21 au⊢;go_wp2_with fail
 have hT:Touch (fun k=>k=b1\/k=b1+1) w5 (((w5.setCell ⟨b1+1,1,none⟩ (I y)).setCell ⟨b1,0,none⟩ (I 0)).setCell ⟨b1,1,none⟩ (I y)):=(((Touch.refl _ w5).setCell (t:=none) (c:=b1+1) (i:=1) (.inl (.inr rfl)) (I y)).setCell (t:=none) (c:=b1) (i:=0) (.inl (.inl rfl)) (I 0)).setCell (t:=none) (c:=b1) (i:=1) (.inl (.inl rfl)) (I y);have iG:Hid ((((w5.setCell ⟨b1+1,1,none⟩ (I y)).setCell ⟨b1,0,none⟩ (I 0)).setCell ⟨b1,1,none⟩ (I y)).cell? ⟨b1,0,none⟩=some (I 0)):=lH (by rw[za _ (by simp)];exact World.cell?_setCell_same _ _ _ (by rw[za _ (by simp)];exact u0));have eV:Hid ((((w5.setCell ⟨b1+1,1,none⟩ (I y)).setCell ⟨b1,0,none⟩ (I 0)).setCell ⟨b1,1,none⟩ (I y)).cell? ⟨b1,1,none⟩=some (I y)):=lH (World.cell?_setCell_same _ _ _ (by rw[za _ (by simp),za _ (by simp)];exact u1));exact bodyPost_ret (v:=.agg #[I 0,I y]) (by simp[results,Tryz.results14,go_sem,iG.out,eV.out]) rfl ⟨rfl,au.out _ hT⟩
theorem WD (W:World) (rb:Nat) (ro:Nat->Option ROwn) (s':Sy) (a b c n m:Int) (bl:Value) (x y:Int) (ah:∀k,ro k≠none->k<W.heap.size)
 (hc:∀W',Below W.heap.size W W'->Calls Tryz.prog 36 #[.pointer (some ⟨rb,0,none⟩),I a] W' fun e w'=>e=.returned (.tuple #[I x,I y])/\RQ rb ro s' W' w') :
 Calls Tryz.prog 14 #[.pointer (some ⟨rb,0,none⟩),yo 10 a b c n m bl] W fun e w'=>e=.returned (.agg #[I x,I y])/\RQ rb ro s' W w':=by
 obtain⟨aK,lE,ia,iU,ek⟩:=ve W 10 a b c n m bl;have af:=hc _ aK;have HK:=lH (fun w5 (bq:Nat) h h1=>RQ.kept (rb:=rb) (ro:=ro) (s':=s') (W:=W) (W3:=plW W 10 a b c n m bl) (w5:=w5) (b:=bq) h ah h1);have HB:=lH (fun w5 w6 b1 b2 h h1 h2 ht=>RQ.box (rb:=rb) (ro:=ro) (s':=s') (W:=W) (W3:=plW W 10 a b c n m bl) (w5:=w5) (w6:=w6) (b1:=b1) (b2:=b2) h aK ah h1 h2 ht);have HZ:=lH lE;have HX:=lH (And.intro ia iU);unfold yo;have i0:(plW W 10 a b c n m bl).cell? ⟨W.heap.size,0,none⟩=some (I 10):=by simp only[World.cell?,ek];rfl
 have i1:(plW W 10 a b c n m bl).cell? ⟨W.heap.size,1,none⟩=some (I a):=by simp only[World.cell?,ek];rfl
 have i2:(plW W 10 a b c n m bl).cell? ⟨W.heap.size,2,none⟩=some (I b):=by simp only[World.cell?,ek];rfl
 have i3:(plW W 10 a b c n m bl).cell? ⟨W.heap.size,3,none⟩=some (I c):=by simp only[World.cell?,ek];rfl
 have i4:(plW W 10 a b c n m bl).cell? ⟨W.heap.size,4,none⟩=some (I n):=by simp only[World.cell?,ek];rfl
 have i5:(plW W 10 a b c n m bl).cell? ⟨W.heap.size,5,none⟩=some (I m):=by simp only[World.cell?,ek];rfl
 unfold plW at af i0 i1 i2 i3 i4 i5;clear ah hc aK lE ia iU ek;go_enter Tryz.func14,Tryz.ntmps14;go_wp2_with fail
 refine af.mono ?_;rintro e w5 ⟨rfl,hq⟩;have hz:=HZ.out;have k1:=(HK.out w5 (W.heap.size+1) hq ⟨by omega,by omega⟩).trans HX.out.1;have k2:=(HK.out w5 (W.heap.size+1+1) hq ⟨by omega,by omega⟩).trans HX.out.2;have u0:w5.cell? ⟨W.heap.size+1,0,none⟩=some (I 0):=by simp only[World.cell?,k1];rfl
 have u1:w5.cell? ⟨W.heap.size+1,1,none⟩=some (I 0):=by simp only[World.cell?,k1];rfl
 have v0:w5.cell? ⟨W.heap.size+1+1,0,none⟩=some (I 0):=by simp only[World.cell?,k2];rfl
 have v1:w5.cell? ⟨W.heap.size+1+1,1,none⟩=some (I 0):=by simp only[World.cell?,k2];rfl
 have f10:=zc k1 0;have f11:=zc k1 1;have f20:=zc k2 0;have f21:=zc k2 1;have au:Hid (∀w6,Touch (fun k=>k=W.heap.size+1\/k=W.heap.size+1+1) w5 w6->RQ rb ro s' W w6):=lH (fun w6 ht=>HB.out w5 w6 _ _ hq ⟨by omega,by omega⟩ ⟨by omega,by omega⟩ ht);clear hq k1 k2 af i0 i1 i2 i3 i4 i5 hz;generalize W.heap.size+1=b1 at u0 u1 v0 v1 f10 f11 f20 f21 au⊢;go_wp2_with fail
 have hT:Touch (fun k=>k=b1\/k=b1+1) w5 ((((w5.setCell ⟨b1+1,0,none⟩ (I x)).setCell ⟨b1+1,1,none⟩ (I y)).setCell ⟨b1,0,none⟩ (I x)).setCell ⟨b1,1,none⟩ (I y)):=((((Touch.refl _ w5).setCell (t:=none) (c:=b1+1) (i:=0) (.inl (.inr rfl)) (I x)).setCell (t:=none) (c:=b1+1) (i:=1) (.inl (.inr rfl)) (I y)).setCell (t:=none) (c:=b1) (i:=0) (.inl (.inl rfl)) (I x)).setCell (t:=none) (c:=b1) (i:=1) (.inl (.inl rfl)) (I y);have iG:Hid (((((w5.setCell ⟨b1+1,0,none⟩ (I x)).setCell ⟨b1+1,1,none⟩ (I y)).setCell ⟨b1,0,none⟩ (I x)).setCell ⟨b1,1,none⟩ (I y)).cell? ⟨b1,0,none⟩=some (I x)):=lH (by rw[za _ (by simp)];exact World.cell?_setCell_same _ _ _ (by rw[za _ (by simp),za _ (by simp)];exact u0));have eV:Hid (((((w5.setCell ⟨b1+1,0,none⟩ (I x)).setCell ⟨b1+1,1,none⟩ (I y)).setCell ⟨b1,0,none⟩ (I x)).setCell ⟨b1,1,none⟩ (I y)).cell? ⟨b1,1,none⟩=some (I y)):=lH (World.cell?_setCell_same _ _ _ (by rw[za _ (by simp),za _ (by simp),za _ (by simp)];exact u1));exact bodyPost_ret (v:=.agg #[I x,I y]) (by simp[results,Tryz.results14,go_sem,iG.out,eV.out]) rfl ⟨rfl,au.out _ hT⟩
theorem Y2 (W:World) (rb:Nat) (ro:Nat->Option ROwn) (s':Sy) (a b c n m:Int) (bl:Value) (y:Int) (ah:∀k,ro k≠none->k<W.heap.size)
 (hc:∀W',Below W.heap.size W W'->Calls Tryz.prog 37 #[.pointer (some ⟨rb,0,none⟩),I n] W' fun e w'=>e=.returned (I y)/\RQ rb ro s' W' w') :
 Calls Tryz.prog 14 #[.pointer (some ⟨rb,0,none⟩),yo 11 a b c n m bl] W fun e w'=>e=.returned (.agg #[I 0,I y])/\RQ rb ro s' W w':=by
 obtain⟨aK,lE,ia,iU,ek⟩:=ve W 11 a b c n m bl;have af:=hc _ aK;have HK:=lH (fun w5 (bq:Nat) h h1=>RQ.kept (rb:=rb) (ro:=ro) (s':=s') (W:=W) (W3:=plW W 11 a b c n m bl) (w5:=w5) (b:=bq) h ah h1);have HB:=lH (fun w5 w6 b1 b2 h h1 h2 ht=>RQ.box (rb:=rb) (ro:=ro) (s':=s') (W:=W) (W3:=plW W 11 a b c n m bl) (w5:=w5) (w6:=w6) (b1:=b1) (b2:=b2) h aK ah h1 h2 ht);have HZ:=lH lE;have HX:=lH (And.intro ia iU);unfold yo;have i0:(plW W 11 a b c n m bl).cell? ⟨W.heap.size,0,none⟩=some (I 11):=by simp only[World.cell?,ek];rfl
 have i1:(plW W 11 a b c n m bl).cell? ⟨W.heap.size,1,none⟩=some (I a):=by simp only[World.cell?,ek];rfl
 have i2:(plW W 11 a b c n m bl).cell? ⟨W.heap.size,2,none⟩=some (I b):=by simp only[World.cell?,ek];rfl
 have i3:(plW W 11 a b c n m bl).cell? ⟨W.heap.size,3,none⟩=some (I c):=by simp only[World.cell?,ek];rfl
 have i4:(plW W 11 a b c n m bl).cell? ⟨W.heap.size,4,none⟩=some (I n):=by simp only[World.cell?,ek];rfl
 have i5:(plW W 11 a b c n m bl).cell? ⟨W.heap.size,5,none⟩=some (I m):=by simp only[World.cell?,ek];rfl
 unfold plW at af i0 i1 i2 i3 i4 i5;clear ah hc aK lE ia iU ek;go_enter Tryz.func14,Tryz.ntmps14;go_wp2_with fail
 refine af.mono ?_;rintro e w5 ⟨rfl,hq⟩;have hz:=HZ.out;have k1:=(HK.out w5 (W.heap.size+1) hq ⟨by omega,by omega⟩).trans HX.out.1;have k2:=(HK.out w5 (W.heap.size+1+1) hq ⟨by omega,by omega⟩).trans HX.out.2;have u0:w5.cell? ⟨W.heap.size+1,0,none⟩=some (I 0):=by simp only[World.cell?,k1];rfl
 have u1:w5.cell? ⟨W.heap.size+1,1,none⟩=some (I 0):=by simp only[World.cell?,k1];rfl
 have v0:w5.cell? ⟨W.heap.size+1+1,0,none⟩=some (I 0):=by simp only[World.cell?,k2];rfl
 have v1:w5.cell? ⟨W.heap.size+1+1,1,none⟩=some (I 0):=by simp only[World.cell?,k2];rfl
 have f10:=zc k1 0;have f11:=zc k1 1;have f20:=zc k2 0;have f21:=zc k2 1;have au:Hid (∀w6,Touch (fun k=>k=W.heap.size+1\/k=W.heap.size+1+1) w5 w6->RQ rb ro s' W w6):=lH (fun w6 ht=>HB.out w5 w6 _ _ hq ⟨by omega,by omega⟩ ⟨by omega,by omega⟩ ht);clear hq k1 k2 af i0 i1 i2 i3 i4 i5 hz;generalize W.heap.size+1=b1 at u0 u1 v0 v1 f10 f11 f20 f21 au⊢;go_wp2_with fail
 have hT:Touch (fun k=>k=b1\/k=b1+1) w5 (((w5.setCell ⟨b1+1,1,none⟩ (I y)).setCell ⟨b1,0,none⟩ (I 0)).setCell ⟨b1,1,none⟩ (I y)):=(((Touch.refl _ w5).setCell (t:=none) (c:=b1+1) (i:=1) (.inl (.inr rfl)) (I y)).setCell (t:=none) (c:=b1) (i:=0) (.inl (.inl rfl)) (I 0)).setCell (t:=none) (c:=b1) (i:=1) (.inl (.inl rfl)) (I y);have iG:Hid ((((w5.setCell ⟨b1+1,1,none⟩ (I y)).setCell ⟨b1,0,none⟩ (I 0)).setCell ⟨b1,1,none⟩ (I y)).cell? ⟨b1,0,none⟩=some (I 0)):=lH (by rw[za _ (by simp)];exact World.cell?_setCell_same _ _ _ (by rw[za _ (by simp)];exact u0));have eV:Hid ((((w5.setCell ⟨b1+1,1,none⟩ (I y)).setCell ⟨b1,0,none⟩ (I 0)).setCell ⟨b1,1,none⟩ (I y)).cell? ⟨b1,1,none⟩=some (I y)):=lH (World.cell?_setCell_same _ _ _ (by rw[za _ (by simp),za _ (by simp)];exact u1));exact bodyPost_ret (v:=.agg #[I 0,I y]) (by simp[results,Tryz.results14,go_sem,iG.out,eV.out]) rfl ⟨rfl,au.out _ hT⟩
theorem Y0 (W:World) (rb:Nat) (ro:Nat->Option ROwn) (s':Sy) (a b c n m:Int) (bl:Value) (x0:Int) (ok:Bool) (ah:∀k,ro k≠none->k<W.heap.size)
 (hc:∀W',Below W.heap.size W W'->Calls Tryz.prog 38 #[.pointer (some ⟨rb,0,none⟩)] W' fun e w'=>∃x1,e=.returned (.tuple #[I x1,.bool ok])/\(ok=true->x1=x0)/\RQ rb ro s' W' w') :
 Calls Tryz.prog 14 #[.pointer (some ⟨rb,0,none⟩),yo 12 a b c n m bl] W fun e w'=>e=.returned (.agg #[I (if ok=true then x0 else -1),I 0])/\RQ rb ro s' W w':=by
 obtain⟨aK,lE,ia,iU,ek⟩:=ve W 12 a b c n m bl;have af:=hc _ aK;have HK:=lH (fun w5 (bq:Nat) h h1=>RQ.kept (rb:=rb) (ro:=ro) (s':=s') (W:=W) (W3:=plW W 12 a b c n m bl) (w5:=w5) (b:=bq) h ah h1);have HB:=lH (fun w5 w6 b1 b2 h h1 h2 ht=>RQ.box (rb:=rb) (ro:=ro) (s':=s') (W:=W) (W3:=plW W 12 a b c n m bl) (w5:=w5) (w6:=w6) (b1:=b1) (b2:=b2) h aK ah h1 h2 ht);have HZ:=lH lE;have HX:=lH (And.intro ia iU);unfold yo;have i0:(plW W 12 a b c n m bl).cell? ⟨W.heap.size,0,none⟩=some (I 12):=by simp only[World.cell?,ek];rfl
 have i1:(plW W 12 a b c n m bl).cell? ⟨W.heap.size,1,none⟩=some (I a):=by simp only[World.cell?,ek];rfl
 have i2:(plW W 12 a b c n m bl).cell? ⟨W.heap.size,2,none⟩=some (I b):=by simp only[World.cell?,ek];rfl
 have i3:(plW W 12 a b c n m bl).cell? ⟨W.heap.size,3,none⟩=some (I c):=by simp only[World.cell?,ek];rfl
 have i4:(plW W 12 a b c n m bl).cell? ⟨W.heap.size,4,none⟩=some (I n):=by simp only[World.cell?,ek];rfl
 have i5:(plW W 12 a b c n m bl).cell? ⟨W.heap.size,5,none⟩=some (I m):=by simp only[World.cell?,ek];rfl
 unfold plW at af i0 i1 i2 i3 i4 i5;clear ah hc aK lE ia iU ek;go_enter Tryz.func14,Tryz.ntmps14;go_wp2_with fail
 refine af.mono ?_;rintro e w5 ⟨x1,rfl,hx,hq⟩;cases ok with
 | true=>
  obtain rfl:=hx rfl;have hz:=HZ.out;have k1:=(HK.out w5 (W.heap.size+1) hq ⟨by omega,by omega⟩).trans HX.out.1;have k2:=(HK.out w5 (W.heap.size+1+1) hq ⟨by omega,by omega⟩).trans HX.out.2;have u0:w5.cell? ⟨W.heap.size+1,0,none⟩=some (I 0):=by simp only[World.cell?,k1];rfl
  have u1:w5.cell? ⟨W.heap.size+1,1,none⟩=some (I 0):=by simp only[World.cell?,k1];rfl
  have v0:w5.cell? ⟨W.heap.size+1+1,0,none⟩=some (I 0):=by simp only[World.cell?,k2];rfl
  have v1:w5.cell? ⟨W.heap.size+1+1,1,none⟩=some (I 0):=by simp only[World.cell?,k2];rfl
  have f10:=zc k1 0;have f11:=zc k1 1;have f20:=zc k2 0;have f21:=zc k2 1;have au:Hid (∀w6,Touch (fun k=>k=W.heap.size+1\/k=W.heap.size+1+1) w5 w6->RQ rb ro s' W w6):=lH (fun w6 ht=>HB.out w5 w6 _ _ hq ⟨by omega,by omega⟩ ⟨by omega,by omega⟩ ht);clear hq k1 k2 af i0 i1 i2 i3 i4 i5 hz;generalize W.heap.size+1=b1 at u0 u1 v0 v1 f10 f11 f20 f21 au⊢;go_wp2_with fail
  have hT:Touch (fun k=>k=b1\/k=b1+1) w5 (((w5.setCell ⟨b1+1,0,none⟩ (I x1)).setCell ⟨b1,0,none⟩ (I x1)).setCell ⟨b1,1,none⟩ (I 0)):=(((Touch.refl _ w5).setCell (t:=none) (c:=b1+1) (i:=0) (.inl (.inr rfl)) (I x1)).setCell (t:=none) (c:=b1) (i:=0) (.inl (.inl rfl)) (I x1)).setCell (t:=none) (c:=b1) (i:=1) (.inl (.inl rfl)) (I 0);have iG:Hid ((((w5.setCell ⟨b1+1,0,none⟩ (I x1)).setCell ⟨b1,0,none⟩ (I x1)).setCell ⟨b1,1,none⟩ (I 0)).cell? ⟨b1,0,none⟩=some (I x1)):=lH (by rw[za _ (by simp)];exact World.cell?_setCell_same _ _ _ (by rw[za _ (by simp)];exact u0));have eV:Hid ((((w5.setCell ⟨b1+1,0,none⟩ (I x1)).setCell ⟨b1,0,none⟩ (I x1)).setCell ⟨b1,1,none⟩ (I 0)).cell? ⟨b1,1,none⟩=some (I 0)):=lH (World.cell?_setCell_same _ _ _ (by rw[za _ (by simp),za _ (by simp)];exact u1));exact bodyPost_ret (v:=.agg #[I x1,I 0]) (by simp[results,Tryz.results14,go_sem,iG.out,eV.out]) rfl ⟨rfl,au.out _ hT⟩
 | false=>
  clear hx;have hz:=HZ.out;have k1:=(HK.out w5 (W.heap.size+1) hq ⟨by omega,by omega⟩).trans HX.out.1;have k2:=(HK.out w5 (W.heap.size+1+1) hq ⟨by omega,by omega⟩).trans HX.out.2;have u0:w5.cell? ⟨W.heap.size+1,0,none⟩=some (I 0):=by simp only[World.cell?,k1];rfl
  have u1:w5.cell? ⟨W.heap.size+1,1,none⟩=some (I 0):=by simp only[World.cell?,k1];rfl
  have v0:w5.cell? ⟨W.heap.size+1+1,0,none⟩=some (I 0):=by simp only[World.cell?,k2];rfl
  have v1:w5.cell? ⟨W.heap.size+1+1,1,none⟩=some (I 0):=by simp only[World.cell?,k2];rfl
  have f10:=zc k1 0;have f11:=zc k1 1;have f20:=zc k2 0;have f21:=zc k2 1;have au:Hid (∀w6,Touch (fun k=>k=W.heap.size+1\/k=W.heap.size+1+1) w5 w6->RQ rb ro s' W w6):=lH (fun w6 ht=>HB.out w5 w6 _ _ hq ⟨by omega,by omega⟩ ⟨by omega,by omega⟩ ht);clear hq k1 k2 af i0 i1 i2 i3 i4 i5 hz;generalize W.heap.size+1=b1 at u0 u1 v0 v1 f10 f11 f20 f21 au⊢;go_wp2_with fail
  have hT:Touch (fun k=>k=b1\/k=b1+1) w5 ((((w5.setCell ⟨b1+1,0,none⟩ (I x1)).setCell ⟨b1+1,0,none⟩ (I (-1))).setCell ⟨b1,0,none⟩ (I (-1))).setCell ⟨b1,1,none⟩ (I 0)):=((((Touch.refl _ w5).setCell (t:=none) (c:=b1+1) (i:=0) (.inl (.inr rfl)) (I x1)).setCell (t:=none) (c:=b1+1) (i:=0) (.inl (.inr rfl)) (I (-1))).setCell (t:=none) (c:=b1) (i:=0) (.inl (.inl rfl)) (I (-1))).setCell (t:=none) (c:=b1) (i:=1) (.inl (.inl rfl)) (I 0);have iG:Hid (((((w5.setCell ⟨b1+1,0,none⟩ (I x1)).setCell ⟨b1+1,0,none⟩ (I (-1))).setCell ⟨b1,0,none⟩ (I (-1))).setCell ⟨b1,1,none⟩ (I 0)).cell? ⟨b1,0,none⟩=some (I (-1))):=lH (by rw[za _ (by simp)];exact World.cell?_setCell_same _ _ _ (by rw[za _ (by simp),za _ (by simp)];exact u0));have eV:Hid (((((w5.setCell ⟨b1+1,0,none⟩ (I x1)).setCell ⟨b1+1,0,none⟩ (I (-1))).setCell ⟨b1,0,none⟩ (I (-1))).setCell ⟨b1,1,none⟩ (I 0)).cell? ⟨b1,1,none⟩=some (I 0)):=lH (World.cell?_setCell_same _ _ _ (by rw[za _ (by simp),za _ (by simp),za _ (by simp)];exact u1));exact bodyPost_ret (v:=.agg #[I (-1),I 0]) (by simp[results,Tryz.results14,go_sem,iG.out,eV.out]) rfl ⟨rfl,au.out _ hT⟩
theorem Yz (W:World) (rb:Nat) (ro:Nat->Option ROwn) (s':Sy) (op a b c n m:Int) (bl:Value) (ho:op<1\/16<op) (B:RBk) (r:RSy) (hA:RAt W rb B ro r) (hR:Rel s' r) :
 Calls Tryz.prog 14 #[.pointer (some ⟨rb,0,none⟩),yo op a b c n m bl] W fun e w'=>e=.returned (.agg #[I 0,I 1])/\RQ rb ro s' W w':=by
 have ek:=(ve W op a b c n m bl).2.2.2.2;have i0:(plW W op a b c n m bl).cell? ⟨W.heap.size,0,none⟩=some (I op):=by simp only[World.cell?,ek];rfl
 unfold plW at i0;unfold yo;have HQ:=lH (RQ.of hA hR ((((Below.refl W.heap.size W).alloc (Nat.le_refl _) (.cells #[I op,I a,I b,I c,I n,I m,bl] 35)).alloc (by simp) (.cells #[I 0,I 1] 37)).alloc (by simp;omega) (.cells #[I 0,I 1] 37)));have hk:(((W.alloc (.cells #[I op,I a,I b,I c,I n,I m,bl] 35)).alloc (.cells #[I 0,I 1] 37)).alloc (.cells #[I 0,I 1] 37)).heap[W.heap.size+1]? = some (.cells #[I 0,I 1] 37 (0,0)):=(Below.heap_alloc _ _ _ (by simp)).trans (by have:=heap_alloc_new (W.alloc (.cells #[I op,I a,I b,I c,I n,I m,bl] 35)) (.cells #[I 0,I 1] 37);rwa [zR] at this)
 have iG:Hid ((((W.alloc (.cells #[I op,I a,I b,I c,I n,I m,bl] 35)).alloc (.cells #[I 0,I 1] 37)).alloc (.cells #[I 0,I 1] 37)).cell? ⟨W.heap.size+1,0,none⟩=some (I 0)):=lH (by simp only[World.cell?,hk];rfl);have eV:Hid ((((W.alloc (.cells #[I op,I a,I b,I c,I n,I m,bl] 35)).alloc (.cells #[I 0,I 1] 37)).alloc (.cells #[I 0,I 1] 37)).cell? ⟨W.heap.size+1,1,none⟩=some (I 1)):=lH (by simp only[World.cell?,hk];rfl);clear ek hA hR hk;have o1:¬op=1:=by omega
 have o2:¬op=2:=by omega
 have o3:¬op=3:=by omega
 have o4:¬op=4:=by omega
 have o5:¬op=5:=by omega
 have o6:¬op=6:=by omega
 have o7:¬op=7:=by omega
 have o8:¬op=8:=by omega
 have o9:¬op=9:=by omega
 have o10:¬op=10:=by omega
 have o11:¬op=11:=by omega
 have o12:¬op=12:=by omega
 clear ho;go_enter Tryz.func14,Tryz.ntmps14;go_wp2_with fail
 exact bodyPost_ret (v:=.agg #[I 0,I 1]) (by simp[results,Tryz.results14,go_sem,iG.out,eV.out]) rfl ⟨rfl,HQ.out⟩
theorem Qj (rb:Nat) (B:RBk) (own:Nat->Option ROwn) (r:RSy) (z:Int) (W:World) (h:RAt W rb B own r) (hz:z<0\/(r.cores.length:Int)<=z) :
 Calls Tryz.prog 36 #[.pointer (some ⟨rb,0,none⟩),I z] W fun e w'=>e=.returned (.tuple #[I 0,I 2])/\W=w':=by
 obtain⟨ca,cc,aQ,-⟩:=h.coreCell;have c0:=h.c0;rw[aQ] at c0;generalize r.cores.length=N at c0 hz;clear h aQ;by_cases h0:z<0
 · go_enter Tryz.func36,Tryz.ntmps36;go_wp2_with fail
   go_ret2
   exact⟨rfl,rfl⟩
 · have h1:(N:Int)<=z:=by rcases hz with h | h;exact absurd h h0;exact h
   go_enter Tryz.func36,Tryz.ntmps36;go_wp2_with fail
   go_ret2
   exact⟨rfl,rfl⟩
theorem Vd (rb:Nat) (B:RBk) (own:Nat->Option ROwn) (r:RSy) (i:Nat) (tag:Int) (l:Ln) (W:World) (h:RAt W rb B own r) (hi:i<r.cores.length) (hc:r.cores[i]! = (tag,l)) (he:l.ps=[]) :
 Calls Tryz.prog 36 #[.pointer (some ⟨rb,0,none⟩),I i] W fun e w'=>e=.returned (.tuple #[I (-1),I 0])/\∃B' own',RAt w' rb B' own' ⟨r.cores.set i (tag,⟨l.base,-1,l.ps⟩),r.ts,r.gs,r.acc,r.ps⟩/\RStep own own' W w':=by
 obtain⟨ca,cc,aQ,mA⟩:=h.coreCell;obtain⟨g,rfl,-,-,gc⟩:=mA i hi;have c0:=h.c0;have hq:=h.q i hi;rw[hc] at hq;have ij:=Y6 _ _ _ _ W hq he;obtain⟨N,hN⟩:∃N,r.cores.length=N:=⟨_,rfl⟩
 have HN:=lH hN;have HI:=lH hi;rw[aQ,hN] at c0;rw[hN] at hi;have sf:0<=(i:Int):=by omega
 have GA:(i:Int)<(N:Int):=by omega
 have HR:=lH h;have oP:=lH (h.oq i HI.out);obtain⟨qb,na⟩:∃x,B.qbs[i]! = x:=⟨_,rfl⟩
 rw[na] at gc ij oP;have pL:=lH na;clear h mA aQ hq hN na hc;go_enter Tryz.func36,Tryz.ntmps36;go_wp2_with fail
 refine ij.mono ?_;rintro e w1 ⟨rfl,m7,aF⟩;have lV:=HR.out.setQ HI.out (by rw[pL.out];exact m7) (aF.wider (fun k hk=>.inl (by rw[pL.out];exact hk))) (fun j hj=>.inl hj);have HF:=lH (And.intro lV (RStep.more (own:=own) (v':=B.qv i) (x:=.qrow i) aF (fun k hk=>by rw[hk,oP.out];simp) (fun j hj=>.inl (by rw[HR.out.oqr i HI.out j hj];simp))));clear lV m7 aF ij;go_wp2_with fail
 go_ret2
 exact⟨rfl,_,_,HF.out.1,HF.out.2⟩
end
end Go.Proofs.YtoiajjobecinpaaGreat
