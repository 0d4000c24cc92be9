/- Any version read. A core written; a queue made of bytes. What of a form is not as wanted. Does a queue fit a core? -/
import Derived.Test.YtoiajjobecinpaaGreatTA15
import Derived.Test.YtoiajjobecinpaaGreatTA16
set_option maxHeartbeats 4000000
namespace Go.Proofs.YtoiajjobecinpaaGreat
open Go.RowKit Go.Shelf Go.Lib Go.Proofs
set_option linter.unusedVariables false
set_option linter.unusedSimpArgs false
section
attribute [local go_sem] Oper.semAt_some
def UpP (w : World) (e : Ending) (W' : World) : Prop := ∃ (v' : Value) (n : Nat) (er : Int), e = .returned (.tuple #[v', .int .i64 er]) ∧ BRow W' w.heap.size v' n ∧ n ≤ 50000 ∧ Below w.heap.size w W'
theorem items_any (a : Option Addr) (n c : Nat) (lags : Bool) (w : World) (h : BSl w a n) (hn : n ≤ 50000) (hc : n ≤ c) (hcm : c ≤ 9223372036854775807) :
 Calls Tryz.prog 231 #[.slice a n c, .bool lags] w (ItemsP w) := by
 cases lags
 · exact items_false a n c w h hn hc hcm
 · exact items_true a n c w h hn hc hcm
theorem heap_setCell_cells {W : World} {B : Nat} {x y : Value} (h : W.heap[B]? = some (.cells #[x, y] 70 (0, 0))) (x' : Value) : (W.setCell ⟨B, 0, none⟩ x').heap[B]? = some (.cells #[x', y] 70 (0, 0)) := by
 simp [World.setCell, Array.getElem?_modify, h]
set_option maxRecDepth 100000 in
theorem up_any (a : Option Addr) (n c : Nat) (w : World) (h : BSl w a n) (hn : n ≤ 50000) (hc : n ≤ c) (hcm : c ≤ 9223372036854775807) :
 Calls Tryz.prog 217 #[.slice a n c] w (UpP w) := by
 have hopen := open_any a n c w h hn hc hcm; have H0 := lH h; clear h; go_enter Tryz.func217, Tryz.ntmps217; go_wp2_with fail
 refine hopen.mono ?_; rintro e w1 ⟨a1, m, c1, vv, er, rfl, hm, hmc, hcm1, hs1, hb1⟩; have HB1 := lH hb1; have HS1 := lH hs1; have hz1 := hb1.size; clear hb1 hs1 hopen; cases her : (er != 0) with
 | true =>
  go_wp2_with fail
  go_ret2
  exact ⟨_, 0, _, rfl, BRow.nil _ _, by omega, HB1.out⟩
 | false =>
  by_cases hv3 : vv = 3
  · subst hv3; go_wp2_with fail
    refine (cget_any a n c _ (H0.out.below HB1.out) hn hc hcm).mono ?_; rintro e w2 ⟨tag, cur, fv, its, er2, rfl, hl, hrow, hb2⟩; have HB2 := lH hb2; have hz2 := hb2.size; obtain ⟨fa, fn, fc, rfl⟩ : ∃ fa fn fc, fv = .slice fa fn fc := by
     rcases hrow.2 with ⟨e, h0⟩ | ⟨g', cap, cur', e, _⟩
     · exact ⟨_, _, _, e⟩
     · exact ⟨_, _, _, e⟩
    clear hb2 hrow; cases her2 : (er2 != 0) with
    | true =>
     go_wp2_with fail
     go_ret2
     exact ⟨_, 0, _, rfl, BRow.nil _ _, by omega, (HB1.out.trans (HB2.out.mono hz1)).alloc (by omega) _⟩
    | false =>
     go_wp2_with fail
     refine (sclone_any a n c _ (((H0.out.below HB1.out).below HB2.out).alloc _) (by omega)).mono ?_; rintro e w3 ⟨v3, rfl, hr3, hb3⟩; have HB3 := lH hb3; have HR3 := lH hr3; clear hb3 hr3; go_wp2_with fail
     go_ret2
     exact ⟨_, n, _, rfl, HR3.out.base (by simp; omega), hn, ((HB1.out.trans (HB2.out.mono hz1)).alloc (by omega) _).trans (HB3.out.mono (by simp; omega))⟩
  · by_cases hv12 : vv = 1 ∨ vv = 2
    · rcases hv12 with rfl | rfl
      · by_cases hm1 : m < 1
        · have hmi : ¬ (1 : Int) ≤ (m : Int) := by omega
          go_wp2_with fail
          go_ret2
          exact ⟨_, 0, _, rfl, BRow.nil _ _, by omega, HB1.out.alloc hz1 _⟩
        · have hmi : (1 : Int) ≤ (m : Int) := by omega
          obtain ⟨a2, hs2, hsl2⟩ := sl_tail w1 a1 m c1 1 HS1.out (by omega) hmc; replace hs2 := hs2 w1 HS1.out; rw [show ((1 : Nat) : Int) = 1 from rfl] at hsl2; obtain ⟨g, i, x0, rfl, hx0, hx1, hxc⟩ := HS1.out.get 0 (by omega); rw [Nat.add_zero] at hxc; have hxc' : ∀ o, (w1.alloc o).cell? ⟨g, i, none⟩ = some (.int .u8 x0) := fun o => c2a o hxc; have hm0 : (0 : Int) < (m : Int) := by omega
          go_wp2_with fail
          go_quiet (fail)
          go_wp2_with fail
          obtain ⟨W2, hW2⟩ : ∃ W2, (w1.alloc (.cells #[.int .i64 (-1), .slice none 0 0] 70)).drewN nq = W2 := ⟨_, rfl⟩
          have HRB : Hid (RBox W2 w1.heap.size (.int .i64 (-1)) (.slice none 0 0)) := lH (by rw [← hW2]; exact rbox_new w1 _ _); have HB2 : Hid (Below w1.heap.size w1 W2) := lH (by rw [← hW2]; exact below_drewN ((Below.refl _ _).alloc (Nat.le_refl _) _) _); have HBW : Hid (Below w.heap.size w W2) := lH (HB1.out.trans (HB2.out.mono hz1)); rw [hW2]; clear hW2 hxc hxc' hsl2; refine (items_any a2 (m - 1) (c1 - 1) false _ (hs2.below HB2.out) (by omega) (by omega) (by omega)).mono ?_; rintro e w3 ⟨fv, its, ok, rfl, hl, hrow, hb3⟩; obtain ⟨fa, fn, fc, rfl⟩ : ∃ fa fn fc, fv = .slice fa fn fc := by
           rcases hrow.2 with ⟨e, h0⟩ | ⟨g', cap, cur', e, _⟩
           · exact ⟨_, _, _, e⟩
           · exact ⟨_, _, _, e⟩
          have hR3 : RBox w3 w1.heap.size (.int .i64 (-1)) (.slice none 0 0) := HRB.out.below hb3 HRB.out.lt; obtain ⟨r0, r1, r2, r3⟩ := hR3.cells; have s0 : (w3.setCell ⟨w1.heap.size, 1, none⟩ (.slice fa fn fc)).cell? ⟨w1.heap.size, 0, none⟩ = some (.int .i64 (-1)) := by rw [cell_setCell_ne _ (by simp)]; exact r0
          have s1 : (w3.setCell ⟨w1.heap.size, 1, none⟩ (.slice fa fn fc)).cell? ⟨w1.heap.size, 1, none⟩ = some (.slice fa fn fc) := World.cell?_setCell_same _ _ _ r1; have HB4 : Hid (Below w.heap.size w (w3.setCell ⟨w1.heap.size, 1, none⟩ (.slice fa fn fc))) := lH ((HBW.out.trans (hb3.mono HBW.out.size)).setCell hz1 _); have hsl4 : FSl (w3.setCell ⟨w1.heap.size, 1, none⟩ (.slice fa fn fc)) (.slice fa fn fc) its := FSl.of (ownsRow_same hrow (fun j hj => Below.heap_setCell _ _ _ _ (by have := (hrow.lt j hj).1; have := HRB.out.lt; simp; omega))); have hput := fun tag => cput_any tag (-1) _ its _ hsl4 (by omega); clear hsl4 hrow hb3 hR3; cases ok with
          | false =>
           go_wp2_with fail
           go_ret2
           exact ⟨_, 0, _, rfl, BRow.nil _ _, by omega, HB4.out⟩
          | true =>
           replace hput := hput x0; go_wp2_with fail
           refine hput.mono ?_; rintro e w5 ⟨v5, n5, er5, rfl, hr5, hn5, hb5⟩; have HB5 := lH hb5; have HR5 := lH hr5; clear hb5 hr5 hput; cases her5 : (er5 != 0) with
           | true =>
            go_wp2_with fail
            go_ret2
            exact ⟨_, 0, _, rfl, BRow.nil _ _, by omega, HB4.out.trans (HB5.out.mono HB4.out.size)⟩
           | false =>
            go_wp2_with fail
            go_ret2
            exact ⟨_, n5, _, rfl, HR5.out.base HB4.out.size, by omega, HB4.out.trans (HB5.out.mono HB4.out.size)⟩
      · by_cases hm1 : m < 3
        · by_cases hm0 : m < 1
          · have hmi : ¬ (1 : Int) ≤ (m : Int) := by omega
            go_wp2_with fail
            go_ret2
            exact ⟨_, 0, _, rfl, BRow.nil _ _, by omega, HB1.out.alloc hz1 _⟩
          · have hmi : (1 : Int) ≤ (m : Int) := by omega
            have hmi3 : decide ((3 : Int) ≤ (m : Int)) = false := decide_eq_false (by omega); go_wp2_with fail
            go_ret2
            exact ⟨_, 0, _, rfl, BRow.nil _ _, by omega, HB1.out.alloc hz1 _⟩
        · have hmi : (1 : Int) ≤ (m : Int) := by omega
          have hmi3 : (3 : Int) ≤ (m : Int) := by omega
          obtain ⟨a2, hs2, hsl2⟩ := sl_tail w1 a1 m c1 1 HS1.out (by omega) hmc; replace hs2 := hs2 w1 HS1.out; rw [show ((1 : Nat) : Int) = 1 from rfl] at hsl2; obtain ⟨g, i, x0, rfl, hx0, hx1, hxc⟩ := HS1.out.get 0 (by omega); rw [Nat.add_zero] at hxc; have hxc' : ∀ o, (w1.alloc o).cell? ⟨g, i, none⟩ = some (.int .u8 x0) := fun o => c2a o hxc; have hm0 : (0 : Int) < (m : Int) := by omega
          go_wp2_with fail
          go_quiet (fail)
          go_wp2_with fail
          obtain ⟨W2, hW2⟩ : ∃ W2, (w1.alloc (.cells #[.int .i64 (-1), .slice none 0 0] 70)).drewN nq = W2 := ⟨_, rfl⟩
          have HRB0 : Hid (RBox W2 w1.heap.size (.int .i64 (-1)) (.slice none 0 0)) := lH (by rw [← hW2]; exact rbox_new w1 _ _); have HB2 : Hid (Below w1.heap.size w1 W2) := lH (by rw [← hW2]; exact below_drewN ((Below.refl _ _).alloc (Nat.le_refl _) _) _); have HBW0 : Hid (Below w.heap.size w W2) := lH (HB1.out.trans (HB2.out.mono hz1)); rw [hW2]; clear hW2 hxc hxc' hsl2; refine (read_any a2 (m - 1) (c1 - 1) 2 _ (hs2.below HB2.out) (by omega) (by omega) (by omega) (by omega) (by omega)).mono ?_; rintro e w2 ⟨cu, a3, rfl, hs3, hb2⟩; replace hs3 := hs3 w1 hs2; obtain ⟨c3, hc3⟩ : ∃ c3, c1 - 1 - 2 = c3 := ⟨_, rfl⟩
          obtain ⟨m3, hm3⟩ : ∃ m3, m - 1 - 2 = m3 := ⟨_, rfl⟩
          rw [hm3] at hs3; rw [hc3, hm3]; have hc3b : m3 ≤ c3 ∧ c3 ≤ 9223372036854775807 ∧ m3 ≤ 50000 := by omega
          clear hc3 hm3; have hR2 : RBox w2 w1.heap.size (.int .i64 (-1)) (.slice none 0 0) := HRB0.out.below hb2 HRB0.out.lt; obtain ⟨q0, q1, q2, q3⟩ := hR2.cells; have hRs : ∀ y, RBox (w2.setCell ⟨w1.heap.size, 0, none⟩ (.int .i64 y)) w1.heap.size (.int .i64 y) (.slice none 0 0) := fun y => by
           unfold RBox at hR2 ⊢; exact heap_setCell_cells hR2 _
          have HB3 : ∀ y, Hid (Below w1.heap.size w1 (w2.setCell ⟨w1.heap.size, 0, none⟩ (.int .i64 y))) := fun y => lH ((HB2.out.trans (hb2.mono HB2.out.size)).setCell (Nat.le_refl _) _); clear hR2 hb2; go_wp2_with fail
          replace hRs := hRs (wrap64 (cu - 1)); replace HB3 := HB3 (wrap64 (cu - 1)); obtain ⟨cu3, hcu3⟩ : ∃ cu3, wrap64 (cu - 1) = cu3 := ⟨_, rfl⟩
          rw [hcu3] at hRs HB3 ⊢; clear hcu3; obtain ⟨W3, hW3⟩ : ∃ W3, w2.setCell ⟨w1.heap.size, 0, none⟩ (.int .i64 cu3) = W3 := ⟨_, rfl⟩
          rw [hW3] at hRs HB3 ⊢; have HRB := lH hRs; have HBW : Hid (Below w.heap.size w W3) := lH (HB1.out.trans (HB3.out.mono hz1)); clear hW3 hRs q0 q1 q2 q3; refine (items_any a3 m3 c3 true _ (hs3.below HB3.out) (by omega) (by omega) (by omega)).mono ?_; rintro e w3 ⟨fv, its, ok, rfl, hl, hrow, hb3⟩; obtain ⟨fa, fn, fc, rfl⟩ : ∃ fa fn fc, fv = .slice fa fn fc := by
           rcases hrow.2 with ⟨e, h0⟩ | ⟨g', cap, cur', e, _⟩
           · exact ⟨_, _, _, e⟩
           · exact ⟨_, _, _, e⟩
          have hR3 : RBox w3 w1.heap.size (.int .i64 cu3) (.slice none 0 0) := HRB.out.below hb3 HRB.out.lt; obtain ⟨r0, r1, r2, r3⟩ := hR3.cells; have s0 : (w3.setCell ⟨w1.heap.size, 1, none⟩ (.slice fa fn fc)).cell? ⟨w1.heap.size, 0, none⟩ = some (.int .i64 cu3) := by rw [cell_setCell_ne _ (by simp)]; exact r0
          have s1 : (w3.setCell ⟨w1.heap.size, 1, none⟩ (.slice fa fn fc)).cell? ⟨w1.heap.size, 1, none⟩ = some (.slice fa fn fc) := World.cell?_setCell_same _ _ _ r1; have HB4 : Hid (Below w.heap.size w (w3.setCell ⟨w1.heap.size, 1, none⟩ (.slice fa fn fc))) := lH ((HBW.out.trans (hb3.mono HBW.out.size)).setCell hz1 _); have hsl4 : FSl (w3.setCell ⟨w1.heap.size, 1, none⟩ (.slice fa fn fc)) (.slice fa fn fc) its := FSl.of (ownsRow_same hrow (fun j hj => Below.heap_setCell _ _ _ _ (by have := (hrow.lt j hj).1; have := HRB.out.lt; simp; omega))); have hput := fun tag => cput_any tag cu3 _ its _ hsl4 (by omega); clear hsl4 hrow hb3 hR3; cases ok with
          | false =>
           go_wp2_with fail
           go_ret2
           exact ⟨_, 0, _, rfl, BRow.nil _ _, by omega, HB4.out⟩
          | true =>
           replace hput := hput x0; go_wp2_with fail
           refine hput.mono ?_; rintro e w5 ⟨v5, n5, er5, rfl, hr5, hn5, hb5⟩; have HB5 := lH hb5; have HR5 := lH hr5; clear hb5 hr5 hput; cases her5 : (er5 != 0) with
           | true =>
            go_wp2_with fail
            go_ret2
            exact ⟨_, 0, _, rfl, BRow.nil _ _, by omega, HB4.out.trans (HB5.out.mono HB4.out.size)⟩
           | false =>
            go_wp2_with fail
            go_ret2
            exact ⟨_, n5, _, rfl, HR5.out.base HB4.out.size, by omega, HB4.out.trans (HB5.out.mono HB4.out.size)⟩
    · have d1 : (vv != 1) = true := by simp; omega
      have d2 : (vv != 2) = true := by simp; omega
      have d3 : (vv == 3) = false := by simp; omega
      go_wp2_with fail
      go_ret2
      exact ⟨_, 0, _, rfl, BRow.nil _ _, by omega, HB1.out⟩
set_option maxRecDepth 100000 in
theorem eread_any (a : Option Addr) (n c : Nat) (w : World) (h : BSl w a n) (hn : n ≤ 50000) (hc : n ≤ c) (hcm : c ≤ 9223372036854775807) :
 Calls Tryz.prog 205 #[.slice a n c] w (GetP w) := by
 have hup := up_any a n c _ (h.alloc (.cells #[.int .i64 0, .slice none 0 0] 70)) hn hc hcm; have HW0 : Hid (Below w.heap.size w (w.alloc (.cells #[.int .i64 0, .slice none 0 0] 70))) := lH ((Below.refl _ w).alloc (Nat.le_refl _) _); clear h; go_enter Tryz.func205, Tryz.ntmps205; go_wp2_with fail
 refine hup.mono ?_; rintro e w1 ⟨v1, n1, er, rfl, hr1, hn1, hb1⟩; obtain ⟨a1, c1, rfl, hc1, hcm1⟩ := hr1.form2; have hR : RBox w1 w.heap.size (.int .i64 0) (.slice none 0 0) := (rbox_new w _ _).below hb1 (by simp); have HB1 : Hid (Below (w.heap.size + 1) (w.alloc (.cells #[.int .i64 0, .slice none 0 0] 70)) w1) := lH (hb1.mono (by simp)); have HRB := lH hR; have hs1 := hr1.toSl; have hz1 := HB1.out.size; simp only [World.size_alloc] at hz1; clear hb1 hr1 hup; cases her : (er != 0) with
 | true =>
  obtain ⟨r0, r1, r2, r3⟩ := hR.cells; obtain ⟨g0, g1⟩ := hR.set (.int .i64 0) (.slice none 0 0); have HG0 := lH g0; have HG1 := lH g1; clear g0 g1 hR; go_wp2_with fail
  exact bodyPost_ret (v := .tuple #[.int .i64 0, .agg #[.int .i64 0, .slice none 0 0], .int .i64 er]) (by simp [results, Tryz.results205, go_sem, HG0.out, HG1.out]) rfl ⟨_, _, _, [], _, rfl, by simp, World.ownsRow_nil .., ((HW0.out.trans (HB1.out.mono (by omega))).setCell (by simp) _).setCell (by simp) _⟩
 | false =>
  clear hR; go_wp2_with fail
  refine (cget_any a1 n1 c1 _ hs1 hn1 hc1 hcm1).mono ?_; rintro e w2 ⟨tag, cur, fv, its, er2, rfl, hl, hrow, hb2⟩; obtain ⟨fa, fn, fc, rfl⟩ : ∃ fa fn fc, fv = .slice fa fn fc := by
   rcases hrow.2 with ⟨e, h0⟩ | ⟨g', cap, cur', e, _⟩
   · exact ⟨_, _, _, e⟩
   · exact ⟨_, _, _, e⟩
  have hR2 : RBox w2 w.heap.size (.int .i64 0) (.slice none 0 0) := HRB.out.below hb2 HRB.out.lt; obtain ⟨r0, r1, r2, r3⟩ := hR2.cells; obtain ⟨g0, g1⟩ := hR2.set (.int .i64 cur) (.slice fa fn fc); have HG0 := lH g0; have HG1 := lH g1; have HROW : Hid (((w2.setCell ⟨w.heap.size, 0, none⟩ (.int .i64 cur)).setCell ⟨w.heap.size, 1, none⟩ (.slice fa fn fc)).ownsRow w.heap.size 77 3 (.slice fa fn fc) its.length (flatI its)) :=
   lH (ownsRow_base (ownsRow_same hrow (fun j hj => by have := (hrow.lt j hj).1; rw [Below.heap_setCell _ _ _ _ (by simp; omega), Below.heap_setCell _ _ _ _ (by simp; omega)])) (by omega))
  have HBF : Hid (Below w.heap.size w ((w2.setCell ⟨w.heap.size, 0, none⟩ (.int .i64 cur)).setCell ⟨w.heap.size, 1, none⟩ (.slice fa fn fc))) := lH (((HW0.out.trans ((HB1.out.trans (hb2.mono hz1)).mono (by omega))).setCell (by simp) _).setCell (by simp) _); clear g0 g1 hR2 hrow hb2 hs1; go_wp2_with fail
  exact bodyPost_ret (v := .tuple #[.int .i64 tag, .agg #[.int .i64 cur, .slice fa fn fc], .int .i64 er2]) (by simp [results, Tryz.results205, go_sem, HG0.out, HG1.out]) rfl ⟨_, _, _, its, _, rfl, hl, HROW.out, HBF.out⟩
end
section
attribute [local go_sem] Oper.semAt_some
set_option maxRecDepth 100000 in
theorem write_any (cb : Nat) (F : Nat → Prop) (c : Co) (W : World) (h : CoreIn W cb F c) (hf : Fits c.l) :
 Calls Tryz.prog 186 #[.pointer (some ⟨cb, 0, none⟩)] W (CPutP W) := by
 have htag := ctag_any cb F c W h; have hform := cform_any cb F c W h hf; have hlen : (formL c.l).length ≤ 64 := by unfold formL; rw [List.length_map]; exact hf.1
 generalize formL c.l = its at hform hlen; generalize c.l.cur = cur at hform; generalize c.tag = tag at htag; clear h hf; go_enter Tryz.func186, Tryz.ntmps186; go_wp2_with fail
 refine htag.mono ?_; rintro e w0 ⟨rfl, rfl⟩; go_wp2_with fail
 refine hform.mono ?_; rintro e w1 ⟨v, rfl, hrow, hb1⟩; have hput := cput_any tag cur v its w1 (FSl.of hrow) (by omega); have HB1 := lH hb1; obtain ⟨va, vn, vc, rfl⟩ : ∃ va vn vc, v = .slice va vn vc := by
  rcases hrow.2 with ⟨e, h0⟩ | ⟨g', cap, cur', e, _⟩
  · exact ⟨_, _, _, e⟩
  · exact ⟨_, _, _, e⟩
 clear hrow hb1 htag hform; go_wp2_with fail
 refine hput.mono ?_; rintro e w2 ⟨v', n, er, rfl, hr, hn, hb2⟩; obtain ⟨xa, xc, rfl, -, -⟩ := hr.form2; have HB2 := lH hb2; have HR := lH hr; clear hr hb2 hput; go_wp2
 go_ret2
 exact ⟨_, n, _, rfl, HR.out.base HB1.out.size, hn, HB1.out.trans (HB2.out.mono HB1.out.size)⟩
def MakeP (tag base : Int) (w : World) (e : Ending) (W' : World) : Prop :=
 Below w.heap.size w W' ∧ ((∃ er : Int, er ≠ 0 ∧ e = .returned (.tuple #[.pointer none, .int .i64 er])) ∨
  ∃ qb F cur its, e = .returned (.tuple #[.pointer (some ⟨qb, 0, none⟩), .int .i64 0]) ∧ GoodI cur its ∧ (-1152921504606846976 ≤ base ∧ base ≤ 1152921504606846976) ∧ QIn W' qb F tag (seedL base cur its) ∧ ∀ k, F k → w.heap.size ≤ k)
set_option maxRecDepth 100000 in
theorem make_any (a : Option Addr) (n c : Nat) (tag base : Int) (W : World) (h : BSl W a n) (hn : n ≤ 50000) (hc : n ≤ c) (hcm : c ≤ 9223372036854775807) :
 Calls Tryz.prog 187 #[.slice a n c, .int .i64 tag, .int .i64 base] W (MakeP tag base W) := by
 have hg := pgood_any tag W; by_cases ht : 0 ≤ tag ∧ tag ≤ 2
 · have hread := eread_any a n c W h hn hc hcm; have HT : Hid (tag = 0 ∨ tag = 1 ∨ tag = 2) := lH (by omega); rw [decide_eq_true ht] at hg; clear ht h; go_enter Tryz.func187, Tryz.ntmps187; go_wp2_with fail
   refine hg.mono ?_; rintro e w0 ⟨rfl, rfl⟩; go_wp2_with fail
   refine hread.mono ?_; rintro e w1 ⟨tg, cur, fv, its, er, rfl, hl, hrow, hb1⟩; obtain ⟨va, vn, vc, rfl⟩ : ∃ va vn vc, fv = .slice va vn vc := by
    rcases hrow.2 with ⟨e, h0⟩ | ⟨g', cap, cur', e, _⟩
    · exact ⟨_, _, _, e⟩
    · exact ⟨_, _, _, e⟩
   have HB1 := lH hb1; have hz1 := hb1.size; have hseed := pseed_any tag base cur _ its _ HT.out ((FSl.of hrow).alloc (.cells #[.int .i64 cur, .slice va vn vc] 70)) (by omega); clear hrow hb1 hread hg; cases her : (er != 0) with
   | true =>
    have HER : Hid (er ≠ 0) := lH (by simpa using her); go_wp2_with fail
    go_ret2
    exact ⟨HB1.out.alloc hz1 _, .inl ⟨er, HER.out, rfl⟩⟩
   | false =>
    go_wp2_with fail
    refine hseed.mono ?_; rintro e w2 ⟨hb2, rfl | ⟨qb, F, rfl, hgi, hbd, hQ, hF⟩⟩
    · have HB2 := lH hb2; clear hb2 hseed; go_wp2_with fail
      go_ret2
      exact ⟨(HB1.out.alloc hz1 _).trans (HB2.out.mono (by simp; omega)), .inl ⟨1, by decide, rfl⟩⟩
    · have HB2 := lH hb2; have HQ := lH hQ; have HF := lH hF; have HGI := lH hgi; have HBD := lH hbd; clear hb2 hQ hF hgi hbd hseed; go_wp2_with fail
      go_ret2
      exact ⟨(HB1.out.alloc hz1 _).trans (HB2.out.mono (by simp; omega)), .inr ⟨qb, F, cur, its, rfl, HGI.out, HBD.out, HQ.out, fun k hk => by have := HF.out k hk; simp at this; omega⟩⟩
 · rw [decide_eq_false ht] at hg; clear ht h; go_enter Tryz.func187, Tryz.ntmps187; go_wp2_with fail
   refine hg.mono ?_; rintro e w0 ⟨rfl, rfl⟩; go_wp2_with fail
   go_ret2
   exact ⟨Below.refl _ _, .inl ⟨1, by decide, rfl⟩⟩
end
section
attribute [local go_sem] Oper.semAt_some
def SlP (w : World) (e : Ending) (W' : World) : Prop := ∃ (a : Option Addr) (n c : Nat), e = .returned (.slice a n c) ∧ n ≤ 9223372036854775807 ∧ Below w.heap.size w W'
set_option maxRecDepth 100000 in
theorem clip_any (a : Option Addr) (n c : Nat) (w : World) (hn : n ≤ 100000) (hc : n ≤ c) :
 Calls Tryz.prog 223 #[.slice a n c] w (SlP w) := by
 have h1 : (0 : Int) ≤ n := by omega
 have h2 : (n : Int) ≤ c := by omega
 go_enter Tryz.func223, Tryz.ntmps223; go_wp2
 go_ret
 exact ⟨_, _, _, rfl, by omega, Below.refl _ _⟩
set_option maxRecDepth 100000 in
theorem faults_any (c1 c2 : Int) (v1 v2 : Value) (xs ys : List It) (W : World) (h1 : FSl W v1 xs) (h2 : FSl W v2 ys) (l1 : xs.length ≤ 64) (l2 : ys.length ≤ 64) :
 Calls Tryz.prog 207 #[.agg #[.int .i64 c1, v1], .agg #[.int .i64 c2, v2]] W (SlP W) := by
 obtain ⟨i0, hi, hz0, hz1, hz2⟩ := info_parts info322; have hchk := chkform_any c1 v1 xs _ ((h1.alloc (.cells #[.int .i64 c1, v1] 70)).alloc (.cells #[.int .i64 c2, v2] 70)) l1; obtain ⟨a1, d1, rfl⟩ := h1.form; obtain ⟨a2, d2, rfl⟩ := h2.form; obtain ⟨n1, hn1⟩ : ∃ n, xs.length = n := ⟨_, rfl⟩
 obtain ⟨n2, hn2⟩ : ∃ n, ys.length = n := ⟨_, rfl⟩
 rw [hn1] at l1 h1; rw [hn2] at l2 h2; rw [hn1, hn2] at hchk ⊢; have HF1 := lH ((h1.alloc (.cells #[.int .i64 c1, .slice a1 n1 d1] 70)).alloc (.cells #[.int .i64 c2, .slice a2 n2 d2] 70)); have HF2 := lH ((h2.alloc (.cells #[.int .i64 c1, .slice a1 n1 d1] 70)).alloc (.cells #[.int .i64 c2, .slice a2 n2 d2] 70)); have HO1 : Hid (∀ j, (Value.slice a1 n1 d1).ownBlock = some j → j < W.heap.size) := lH (fun j hj => h1.lt hj); have HO2 : Hid (∀ j, (Value.slice a2 n2 d2).ownBlock = some j → j < W.heap.size) := lH (fun j hj => h2.lt hj); have hRB1 : RBox ((W.alloc (.cells #[.int .i64 c1, .slice a1 n1 d1] 70)).alloc (.cells #[.int .i64 c2, .slice a2 n2 d2] 70)) W.heap.size (.int .i64 c1) (.slice a1 n1 d1) := (rbox_new W _ _).alloc _; have hRB2 : RBox ((W.alloc (.cells #[.int .i64 c1, .slice a1 n1 d1] 70)).alloc (.cells #[.int .i64 c2, .slice a2 n2 d2] 70)) (W.heap.size + 1) (.int .i64 c2) (.slice a2 n2 d2) := by
  have := rbox_new (W.alloc (.cells #[.int .i64 c1, .slice a1 n1 d1] 70)) (.int .i64 c2) (.slice a2 n2 d2); rwa [size_alloc1] at this
 have HRB1 := lH hRB1; have HRB2 := lH hRB2; have HN1 := lH hn1; have HN2 := lH hn2; have HW0 : Hid (Below W.heap.size W ((W.alloc (.cells #[.int .i64 c1, .slice a1 n1 d1] 70)).alloc (.cells #[.int .i64 c2, .slice a2 n2 d2] 70))) := lH (((Below.refl _ W).alloc (Nat.le_refl _) _).alloc (by simp) _); clear h1 h2 hn1 hn2 hRB1 hRB2; go_enter Tryz.func207, Tryz.ntmps207; go_wp2_with fail
 refine hchk.mono ?_; rintro e w1 ⟨v, q1, rfl, hq1, hr1, hb1⟩; have HB1 : Hid (Below (W.heap.size + 2) ((W.alloc (.cells #[.int .i64 c1, .slice a1 n1 d1] 70)).alloc (.cells #[.int .i64 c2, .slice a2 n2 d2] 70)) w1) := lH (hb1.mono (by simp)); have HR1 : Hid (FRow w1 (W.heap.size + 2) v q1) := lH (hr1.base (by simp)); have hz1' := hb1.size; simp only [World.size_alloc] at hz1'; obtain ⟨va, vc, rfl, hvc, hvm⟩ := hr1.form; obtain ⟨r0, r1, -, -⟩ := (HRB1.out.below HB1.out (by omega)).cells; obtain ⟨s0, s1, -, -⟩ := (HRB2.out.below HB1.out (by omega)).cells; clear hb1 hr1 hchk; by_cases hq0 : 0 < q1
 · have hd : decide ((q1 : Int) > 0) = true := decide_eq_true (by omega); have hd2 : decide (0 < q1) = true := decide_eq_true hq0; go_wp2_with fail
   go_ret
   exact ⟨_, _, _, rfl, by omega, HW0.out.trans (HB1.out.mono (by omega))⟩
 · obtain rfl : q1 = 0 := by omega
   go_wp2_with fail
   go_loopw [5, 23] (fun l x wr => ∃ (k q : Nat), k ≤ n2 ∧ x = .int .i64 k ∧ q ≤ 3 * k ∧ Hid (FRow wr (W.heap.size + 2) l q) ∧ Hid (Below (W.heap.size + 2) ((W.alloc (.cells #[.int .i64 c1, .slice a1 n1 d1] 70)).alloc (.cells #[.int .i64 c2, .slice a2 n2 d2] 70)) wr) ∧ W.heap.size + 2 ≤ wr.heap.size) (fun _ x _ => n2 - (intOf x).toNat)
   case atStart => exact ⟨0, 0, Nat.zero_le _, rfl, by omega, HR1, HB1, by omega⟩
   case round =>
    obtain ⟨k, q, hk, rfl, hq, HR, HB, hzr⟩ := hrel; by_cases hkn : k < n2
    · have hkl : k < ys.length := by rw [HN2.out]; exact hkn
      have HG1 : Hid (FSl wr (.slice a1 n1 d1) xs) := lH (HF1.out.same (by simp; omega) (fun j hj => HB.out.block j (by have := HO1.out j hj; omega))); have hg2 : FSl wr (.slice a2 n2 d2) ys := HF2.out.same (by simp; omega) (fun j hj => HB.out.block j (by have := HO2.out j hj; omega)); obtain ⟨g, rfl, hg, t0, t1, t2⟩ := hg2.cells k hkl; obtain ⟨⟨i, ww, lag⟩, hx⟩ : ∃ x, ys[k]! = x := ⟨_, rfl⟩
      rw [hx] at t0 t1 t2; simp only at t0 t1 t2; have hk1 : (k : Int) < (n2 : Int) := by omega
      have hk0 : 0 ≤ (k : Int) := by omega
      have hrb := (HRB1.out.below HB.out (by omega)).alloc (.cells #[.int .i64 i, .int .i64 ww, .int .i64 lag] 77); obtain ⟨p0, p1, -, -⟩ := hrb.cells; have hfind := finditem_any c1 _ xs i _ (HG1.out.alloc (.cells #[.int .i64 i, .int .i64 ww, .int .i64 lag] 77)) (by rw [HN1.out]; omega); unfold FindP at hfind; generalize itemI xs i = y at hfind; generalize decide (0 ≤ posI xs i) = ok at hfind; have hX0 := ibox_new wr ⟨i, ww, lag⟩; have HX0 := lH hX0; obtain ⟨⟨x00, -, -⟩, -⟩ := hX0.cells; clear hx hrb hX0 hg2 r0 r1 s0 s1 HR1; go_wp2_with fail
      refine hfind.mono ?_; rintro e w5 ⟨rfl, hb5⟩; have hz5 := hb5.size; simp only [World.size_alloc] at hz5; have hX5 := (HX0.out.below hb5 HX0.out.lt).alloc (.cells #[.int .i64 y.id, .int .i64 y.w, .int .i64 y.lag] 77); have hY5 : IBox (w5.alloc (.cells #[.int .i64 y.id, .int .i64 y.w, .int .i64 y.lag] 77)) w5.heap.size ⟨y.id, y.w, y.lag⟩ := ibox_new w5 ⟨y.id, y.w, y.lag⟩; obtain ⟨⟨x0, x1, x2⟩, -⟩ := hX5.cells; obtain ⟨⟨y0, y1, y2⟩, -⟩ := hY5.cells; have HBw6 : Hid (Below (W.heap.size + 2) ((W.alloc (.cells #[.int .i64 c1, .slice a1 n1 d1] 70)).alloc (.cells #[.int .i64 c2, .slice (some ⟨g, 0, none⟩) n2 d2] 70)) (w5.alloc (.cells #[.int .i64 y.id, .int .i64 y.w, .int .i64 y.lag] 77))) := lH (((HB.out.alloc (by omega) _).trans (hb5.mono (by simp; omega))).alloc (by omega) _); have hR6 : FRow (w5.alloc (.cells #[.int .i64 y.id, .int .i64 y.w, .int .i64 y.lag] 77)) (W.heap.size + 2) u5 q := ((HR.out.alloc _).below hb5).alloc _; have hol : ∀ j, u5.ownBlock = some j → j < wr.heap.size := fun j hj => (HR.out.lt hj).2; have hs6 : (w5.alloc (.cells #[.int .i64 y.id, .int .i64 y.w, .int .i64 y.lag] 77)).heap.size = w5.heap.size + 1 := by simp
      obtain ⟨w6, hw6⟩ : ∃ w6, w5.alloc (.cells #[.int .i64 y.id, .int .i64 y.w, .int .i64 y.lag] 77) = w6 := ⟨_, rfl⟩
      simp only at x0 x1 x2 y0 y1 y2; rw [hw6] at x0 x1 x2 y0 y1 y2 HBw6 hR6 hs6; have HR6 := lH hR6; obtain ⟨xs6, hrow6⟩ := hR6; have hX6l : wr.heap.size < w6.heap.size := by omega
      have hY6l : w5.heap.size < w6.heap.size := by omega
      have hz6 : W.heap.size + 2 ≤ w6.heap.size := by omega
      clear hs6; have x0' : ∀ o, (w6.alloc o).cell? ⟨wr.heap.size, 0, none⟩ = some (.int .i64 i) := fun o => c2a o x0; clear hX5 hY5 hb5 hfind t0 t1 t2 p0 p1 x00; cases ok with
      | false =>
       go_wp2_with (at_builtin; refine wpList_append_lies _ rfl _ _ 279 rfl (W.heap.size + 2) 322 i0 (.agg #[.int .i64 0, .int .i64 0]) 2 16 Tryz.underlying279 hi hz0 hz1 hz2 rfl (by decide) _ (q) _ rfl (hrow6.alloc _) ⟨w6.heap.size, 0, none⟩ 1 1 [_, _] rfl rfl (World.news_of_block (heap_alloc_new w6 _)) (by simp [Value.oneCell']) (by omega) (by unfold maxLen; omega) (by omega) (by simp; omega) (w6.heap.size + 1) (by simp) ?_; intro gw8 capw8 w8 hownw8 hgroww8 hatw8 hltw8; have hzw8 : w6.heap.size + 1 ≤ w8.heap.size := (by have := hgroww8.size; simpa using this))
       have HBw8 : Hid (Below (W.heap.size + 2) ((W.alloc (.cells #[.int .i64 c1, .slice a1 n1 d1] 70)).alloc (.cells #[.int .i64 c2, .slice (some ⟨g, 0, none⟩) n2 d2] 70)) w8) := lH ((HBw6.out.alloc (by omega) _).grown hgroww8 (by simp; omega) (fun o ho => (hrow6.lt o ho).1)); have HRw8 : Hid (FRow w8 (W.heap.size + 2) (.slice (some ⟨gw8, 0, none⟩) (q + 1) capw8) (q + 1)) := lH ⟨_, hownw8⟩; clear hownw8 hgroww8 hatw8 hltw8 hrow6 x0' x0 x1 x2 y0 y1 y2; go_wp2_with fail
       go_roundw
       case rel => exact ⟨k + 1, q + 1, hkn, by go_num, by omega, HRw8, HBw8, by omega⟩
       case measure => simp [intOf]; omega
      | true =>
       cases hw : (y.w != ww) with
       | false =>
        cases hl : (y.lag != lag) with
        | false =>
         clear hrow6 x0'; go_wp2_with fail
         go_roundw
         case rel => exact ⟨k + 1, q, hkn, by go_num, by omega, HR6, HBw6, by omega⟩
         case measure => simp [intOf]; omega
        | true =>
         go_wp2_with (at_builtin; refine wpList_append_lies _ rfl _ _ 279 rfl (W.heap.size + 2) 322 i0 (.agg #[.int .i64 0, .int .i64 0]) 2 16 Tryz.underlying279 hi hz0 hz1 hz2 rfl (by decide) _ (q) _ rfl (hrow6.alloc _) ⟨w6.heap.size, 0, none⟩ 1 1 [_, _] rfl rfl (World.news_of_block (heap_alloc_new w6 _)) (by simp [Value.oneCell']) (by omega) (by unfold maxLen; omega) (by omega) (by simp; omega) (w6.heap.size + 1) (by simp) ?_; intro gw8 capw8 w8 hownw8 hgroww8 hatw8 hltw8; have hzw8 : w6.heap.size + 1 ≤ w8.heap.size := (by have := hgroww8.size; simpa using this))
         have HBw8 : Hid (Below (W.heap.size + 2) ((W.alloc (.cells #[.int .i64 c1, .slice a1 n1 d1] 70)).alloc (.cells #[.int .i64 c2, .slice (some ⟨g, 0, none⟩) n2 d2] 70)) w8) := lH ((HBw6.out.alloc (by omega) _).grown hgroww8 (by simp; omega) (fun o ho => (hrow6.lt o ho).1)); have HRw8 : Hid (FRow w8 (W.heap.size + 2) (.slice (some ⟨gw8, 0, none⟩) (q + 1) capw8) (q + 1)) := lH ⟨_, hownw8⟩; clear hownw8 hgroww8 hatw8 hltw8 hrow6 x0' x0 x1 x2 y0 y1 y2; go_wp2_with fail
         go_roundw
         case rel => exact ⟨k + 1, q + 1, hkn, by go_num, by omega, HRw8, HBw8, by omega⟩
         case measure => simp [intOf]; omega
       | true =>
        cases hl : (y.lag != lag) with
        | false =>
         go_wp2_with (at_builtin; refine wpList_append_lies _ rfl _ _ 279 rfl (W.heap.size + 2) 322 i0 (.agg #[.int .i64 0, .int .i64 0]) 2 16 Tryz.underlying279 hi hz0 hz1 hz2 rfl (by decide) _ (q) _ rfl (hrow6.alloc _) ⟨w6.heap.size, 0, none⟩ 1 1 [_, _] rfl rfl (World.news_of_block (heap_alloc_new w6 _)) (by simp [Value.oneCell']) (by omega) (by unfold maxLen; omega) (by omega) (by simp; omega) (w6.heap.size + 1) (by simp) ?_; intro gw8 capw8 w8 hownw8 hgroww8 hatw8 hltw8; have hzw8 : w6.heap.size + 1 ≤ w8.heap.size := (by have := hgroww8.size; simpa using this); have k0 := hgroww8.cell (c2a _ x0) (fun e => Nat.lt_irrefl wr.heap.size (hol wr.heap.size e.symm)); have k2 := hgroww8.cell (c2a _ x2) (fun e => Nat.lt_irrefl wr.heap.size (hol wr.heap.size e.symm)); have m2 := hgroww8.cell (c2a _ y2) (fun e => Nat.lt_irrefl _ (Nat.lt_trans (hol w5.heap.size e.symm) (Nat.lt_of_succ_le hz5))))
         have HBw8 : Hid (Below (W.heap.size + 2) ((W.alloc (.cells #[.int .i64 c1, .slice a1 n1 d1] 70)).alloc (.cells #[.int .i64 c2, .slice (some ⟨g, 0, none⟩) n2 d2] 70)) w8) := lH ((HBw6.out.alloc (by omega) _).grown hgroww8 (by simp; omega) (fun o ho => (hrow6.lt o ho).1)); have HRw8 : Hid (FRow w8 (W.heap.size + 2) (.slice (some ⟨gw8, 0, none⟩) (q + 1) capw8) (q + 1)) := lH ⟨_, hownw8⟩; clear hownw8 hgroww8 hatw8 hltw8 hrow6 x0' x0 x1 x2 y0 y1 y2; go_wp2_with fail
         go_roundw
         case rel => exact ⟨k + 1, q + 1, hkn, by go_num, by omega, HRw8, HBw8, by omega⟩
         case measure => simp [intOf]; omega
        | true =>
         go_wp2_with (first | (at_builtin; refine wpList_append_lies _ rfl _ _ 279 rfl (W.heap.size + 2) 322 i0 (.agg #[.int .i64 0, .int .i64 0]) 2 16 Tryz.underlying279 hi hz0 hz1 hz2 rfl (by decide) _ (q) _ rfl (hrow6.alloc _) ⟨w6.heap.size, 0, none⟩ 1 1 [_, _] rfl rfl (World.news_of_block (heap_alloc_new w6 _)) (by simp [Value.oneCell']) (by omega) (by unfold maxLen; omega) (by omega) (by simp; omega) (w6.heap.size + 1) (by simp) ?_; intro gw8 capw8 w8 hownw8 hgroww8 hatw8 hltw8; have hzw8 : w6.heap.size + 1 ≤ w8.heap.size := (by have := hgroww8.size; simpa using this); have k0 := hgroww8.cell (c2a _ x0) (fun e => Nat.lt_irrefl wr.heap.size (hol wr.heap.size e.symm)); have k2 := hgroww8.cell (c2a _ x2) (fun e => Nat.lt_irrefl wr.heap.size (hol wr.heap.size e.symm)); have m2 := hgroww8.cell (c2a _ y2) (fun e => Nat.lt_irrefl _ (Nat.lt_trans (hol w5.heap.size e.symm) (Nat.lt_of_succ_le hz5))); have k0' : ∀ o, (w8.alloc o).cell? ⟨wr.heap.size, 0, none⟩ = some (.int .i64 i) := fun o => c2a o k0) | (at_builtin; refine wpList_append_lies _ rfl _ _ 279 rfl (W.heap.size + 2) 322 i0 (.agg #[.int .i64 0, .int .i64 0]) 2 16 Tryz.underlying279 hi hz0 hz1 hz2 rfl (by decide) _ (q + 1) _ rfl (hownw8.alloc _) ⟨w8.heap.size, 0, none⟩ 1 1 [_, _] rfl rfl (World.news_of_block (heap_alloc_new w8 _)) (by simp [Value.oneCell']) (by omega) (by unfold maxLen; omega) (by omega) (by simp; omega) (w8.heap.size + 1) (by simp) ?_; intro gw9 capw9 w9 hownw9 hgroww9 hatw9 hltw9; have hzw9 : w8.heap.size + 1 ≤ w9.heap.size := (by have := hgroww9.size; simpa using this)))
         have HBw8 : Hid (Below (W.heap.size + 2) ((W.alloc (.cells #[.int .i64 c1, .slice a1 n1 d1] 70)).alloc (.cells #[.int .i64 c2, .slice (some ⟨g, 0, none⟩) n2 d2] 70)) w8) := lH ((HBw6.out.alloc (by omega) _).grown hgroww8 (by simp; omega) (fun o ho => (hrow6.lt o ho).1)); have HRw8 : Hid (FRow w8 (W.heap.size + 2) (.slice (some ⟨gw8, 0, none⟩) (q + 1) capw8) (q + 1)) := lH ⟨_, hownw8⟩; have HBw9 : Hid (Below (W.heap.size + 2) ((W.alloc (.cells #[.int .i64 c1, .slice a1 n1 d1] 70)).alloc (.cells #[.int .i64 c2, .slice (some ⟨g, 0, none⟩) n2 d2] 70)) w9) := lH ((HBw8.out.alloc (by omega) _).grown hgroww9 (by simp; omega) (fun o ho => (hownw8.lt o ho).1)); have HRw9 : Hid (FRow w9 (W.heap.size + 2) (.slice (some ⟨gw9, 0, none⟩) (q + 1 + 1) capw9) (q + 1 + 1)) := lH ⟨_, hownw9⟩; clear hownw8 hgroww8 hatw8 hltw8 hownw9 hgroww9 hatw9 hltw9 hrow6 x0' x0 x1 x2 y0 y1 y2 k0 k0' k2 m2; go_wp2_with fail
         go_roundw
         case rel => exact ⟨k + 1, q + 1 + 1, hkn, by go_num, by omega, HRw9, HBw9, by omega⟩
         case measure => simp [intOf]; omega
    · obtain rfl : k = n2 := by omega
      have hrb := HRB1.out.below HB.out (by omega); obtain ⟨p0, p1, -, -⟩ := hrb.cells; have hq192 : q ≤ 192 := by omega
      have HRs := HR; have HBs := HB; clear hrb r0 r1 s0 s1 HR1; go_wp2_with fail
      go_loopw [5, 68] (fun l x w3 => ∃ (j q' : Nat), j ≤ n1 ∧ x = .int .i64 j ∧ q' ≤ 192 + j ∧ Hid (FRow w3 (W.heap.size + 2) l q') ∧ Hid (Below (W.heap.size + 2) ((W.alloc (.cells #[.int .i64 c1, .slice a1 n1 d1] 70)).alloc (.cells #[.int .i64 c2, .slice a2 k d2] 70)) w3) ∧ W.heap.size + 2 ≤ w3.heap.size) (fun _ x _ => n1 - (intOf x).toNat)
      case atStart => exact ⟨0, q, Nat.zero_le _, rfl, by omega, HRs, HBs, by omega⟩
      case round =>
       obtain ⟨j, q', hj, rfl, hq', HR2, HB2, hz2'⟩ := hrel; have hrb2 := HRB2.out.below HB2.out (by omega); by_cases hjn : j < n1
       · have hjl : j < xs.length := by rw [HN1.out]; exact hjn
         have HG2 : Hid (FSl wr (.slice a2 k d2) ys) := lH (HF2.out.same (by simp; omega) (fun o ho => HB2.out.block o (by have := HO2.out o ho; omega))); have hg1 : FSl wr (.slice a1 n1 d1) xs := HF1.out.same (by simp; omega) (fun o ho => HB2.out.block o (by have := HO1.out o ho; omega)); obtain ⟨g, rfl, hg, t0, t1, t2⟩ := hg1.cells j hjl; obtain ⟨⟨i, ww, lag⟩, hx⟩ : ∃ x, xs[j]! = x := ⟨_, rfl⟩
         rw [hx] at t0 t1 t2; simp only at t0 t1 t2; have hj1 : (j : Int) < (n1 : Int) := by omega
         have hj0 : 0 ≤ (j : Int) := by omega
         have hrb := hrb2.alloc (.cells #[.int .i64 i, .int .i64 ww, .int .i64 lag] 77); obtain ⟨p0, p1, -, -⟩ := hrb.cells; have hfind := finditem_any c2 _ ys i _ (HG2.out.alloc (.cells #[.int .i64 i, .int .i64 ww, .int .i64 lag] 77)) (by rw [HN2.out]; omega); unfold FindP at hfind; generalize itemI ys i = y at hfind; generalize decide (0 ≤ posI ys i) = ok at hfind; have hX0 := ibox_new wr ⟨i, ww, lag⟩; have HX0 := lH hX0; obtain ⟨⟨x00, -, -⟩, -⟩ := hX0.cells; clear hx hrb hX0 hg1 hrb2 HRs HBs; go_wp2_with fail
         refine hfind.mono ?_; rintro e w5 ⟨rfl, hb5⟩; have hz5 := hb5.size; simp only [World.size_alloc] at hz5; have hX5 := (HX0.out.below hb5 HX0.out.lt).alloc (.cells #[.int .i64 y.id, .int .i64 y.w, .int .i64 y.lag] 77); obtain ⟨⟨x0, x1, x2⟩, -⟩ := hX5.cells; have HBw6 : Hid (Below (W.heap.size + 2) ((W.alloc (.cells #[.int .i64 c1, .slice (some ⟨g, 0, none⟩) n1 d1] 70)).alloc (.cells #[.int .i64 c2, .slice a2 k d2] 70)) (w5.alloc (.cells #[.int .i64 y.id, .int .i64 y.w, .int .i64 y.lag] 77))) := lH (((HB2.out.alloc (by omega) _).trans (hb5.mono (by simp; omega))).alloc (by omega) _); have hR6 : FRow (w5.alloc (.cells #[.int .i64 y.id, .int .i64 y.w, .int .i64 y.lag] 77)) (W.heap.size + 2) u5 q' := ((HR2.out.alloc _).below hb5).alloc _; have hs6 : (w5.alloc (.cells #[.int .i64 y.id, .int .i64 y.w, .int .i64 y.lag] 77)).heap.size = w5.heap.size + 1 := by simp
         obtain ⟨w6, hw6⟩ : ∃ w6, w5.alloc (.cells #[.int .i64 y.id, .int .i64 y.w, .int .i64 y.lag] 77) = w6 := ⟨_, rfl⟩
         simp only at x0 x1 x2; rw [hw6] at x0 x1 x2 HBw6 hR6 hs6; have HR6 := lH hR6; obtain ⟨xs6, hrow6⟩ := hR6; have hz6 : W.heap.size + 2 ≤ w6.heap.size := by omega
         clear hs6; have x0' : ∀ o, (w6.alloc o).cell? ⟨wr.heap.size, 0, none⟩ = some (.int .i64 i) := fun o => c2a o x0; clear hX5 hb5 hfind t0 t1 t2 p0 p1 x00; cases ok with
         | false =>
          go_wp2_with (at_builtin; refine wpList_append_lies _ rfl _ _ 279 rfl (W.heap.size + 2) 322 i0 (.agg #[.int .i64 0, .int .i64 0]) 2 16 Tryz.underlying279 hi hz0 hz1 hz2 rfl (by decide) _ (q') _ rfl (hrow6.alloc _) ⟨w6.heap.size, 0, none⟩ 1 1 [_, _] rfl rfl (World.news_of_block (heap_alloc_new w6 _)) (by simp [Value.oneCell']) (by omega) (by unfold maxLen; omega) (by omega) (by simp; omega) (w6.heap.size + 1) (by simp) ?_; intro gw8 capw8 w8 hownw8 hgroww8 hatw8 hltw8; have hzw8 : w6.heap.size + 1 ≤ w8.heap.size := (by have := hgroww8.size; simpa using this))
          have HBw8 : Hid (Below (W.heap.size + 2) ((W.alloc (.cells #[.int .i64 c1, .slice (some ⟨g, 0, none⟩) n1 d1] 70)).alloc (.cells #[.int .i64 c2, .slice a2 k d2] 70)) w8) := lH ((HBw6.out.alloc (by omega) _).grown hgroww8 (by simp; omega) (fun o ho => (hrow6.lt o ho).1)); have HRw8 : Hid (FRow w8 (W.heap.size + 2) (.slice (some ⟨gw8, 0, none⟩) (q' + 1) capw8) (q' + 1)) := lH ⟨_, hownw8⟩; clear hownw8 hgroww8 hatw8 hltw8 hrow6 x0' x0 x1 x2; go_wp2_with fail
          go_roundw
          case rel => exact ⟨j + 1, q' + 1, hjn, by go_num, by omega, HRw8, HBw8, by omega⟩
          case measure => simp [intOf]; omega
         | true =>
          clear hrow6 x0'; go_wp2_with fail
          go_roundw
          case rel => exact ⟨j + 1, q', hjn, by go_num, by omega, HR6, HBw6, by omega⟩
          case measure => simp [intOf]; omega
       · obtain rfl : j = n1 := by omega
         have hrb1 := HRB1.out.below HB2.out (by omega); obtain ⟨r0, r1, -, -⟩ := hrb1.cells; obtain ⟨s0, s1, -, -⟩ := hrb2.cells; have s0' : ∀ o, (wr.alloc o).cell? ⟨W.heap.size, 0, none⟩ = some (.int .i64 c1) := fun o => c2a o r0; obtain ⟨xs6, hrow6⟩ := HR2.out; clear hrb1 hrb2 HRs HBs; cases hcc : (c1 != c2) with
         | false =>
          obtain ⟨fa, fc, rfl, hfc, hfm⟩ := HR2.out.form; clear hrow6 s0'; go_wp2_with fail
          refine (clip_any fa q' fc _ (by omega) hfc).mono ?_; rintro e w9 ⟨ra, rn, rc, rfl, hrn, hb9⟩; have HB9 := lH hb9; clear hb9; go_wp2
          go_ret
          exact ⟨_, _, _, rfl, hrn, (HW0.out.trans (HB2.out.mono (by omega))).trans (HB9.out.mono (by have := HW0.out.size; have := HB2.out.size; simp at this; omega))⟩
         | true =>
          go_wp2_with (at_builtin; refine wpList_append_lies _ rfl _ _ 279 rfl (W.heap.size + 2) 322 i0 (.agg #[.int .i64 0, .int .i64 0]) 2 16 Tryz.underlying279 hi hz0 hz1 hz2 rfl (by decide) _ (q') _ rfl (hrow6.alloc _) ⟨wr.heap.size, 0, none⟩ 1 1 [_, _] rfl rfl (World.news_of_block (heap_alloc_new wr _)) (by simp [Value.oneCell']) (by omega) (by unfold maxLen; omega) (by omega) (by simp; omega) (wr.heap.size + 1) (by simp) ?_; intro gw8 capw8 w8 hownw8 hgroww8 hatw8 hltw8; have hzw8 : wr.heap.size + 1 ≤ w8.heap.size := (by have := hgroww8.size; simpa using this))
          have HBw8 : Hid (Below (W.heap.size + 2) ((W.alloc (.cells #[.int .i64 c1, .slice a1 j d1] 70)).alloc (.cells #[.int .i64 c2, .slice a2 k d2] 70)) w8) := lH ((HB2.out.alloc (by omega) _).grown hgroww8 (by simp; omega) (fun o ho => (hrow6.lt o ho).1)); have hfr : FRow w8 (W.heap.size + 2) (.slice (some ⟨gw8, 0, none⟩) (q' + 1) capw8) (q' + 1) := ⟨_, hownw8⟩
          obtain ⟨fa, fc, hfe, hfc, hfm⟩ := hfr.form; simp only [Value.slice.injEq, true_and] at hfe; obtain ⟨rfl, rfl⟩ := hfe; clear hownw8 hgroww8 hatw8 hltw8 hrow6 hfr; refine (clip_any _ (q' + 1) capw8 _ (by omega) hfc).mono ?_; rintro e w9 ⟨ra, rn, rc, rfl, hrn, hb9⟩; have HB9 := lH hb9; clear hb9; go_wp2
          go_ret
          exact ⟨_, _, _, rfl, hrn, (HW0.out.trans (HBw8.out.mono (by omega))).trans (HB9.out.mono (by have := HBw8.out.size; simp at this; omega))⟩
end
section
attribute [local go_sem] Oper.semAt_some
theorem form_meth (tag : Int) (ht : tag = 0 ∨ tag = 1 ∨ tag = 2) : ∃ (T : TypeId) (K : FuncId), qty tag = T ∧ (∀ (p : Value) (W : World), Sem.run Tryz.prog (method 484 T p "Form") W = Result.ok (K, p) W) ∧
 (∀ args w, (callFunc K args).run Tryz.prog w = .ok (.enter K args) w) ∧ ∀ (b : Nat) (v : Value) (l : Ln) (W : World), LineAt W b v l → Fits l → Calls Tryz.prog K #[.pointer (some ⟨b, 0, none⟩)] W (FormP W l.cur (formL l)) := by
 rcases ht with rfl | rfl | rfl
 · exact ⟨235, 262, rfl, meth_Form_stride, enters_of Tryz.func262 (by kernel_rfl) rfl, qform_stride⟩
 · exact ⟨239, 303, rfl, meth_Form_fair, enters_of Tryz.func303 (by kernel_rfl) rfl, qform_fair⟩
 · exact ⟨242, 313, rfl, meth_Form_due, enters_of Tryz.func313 (by kernel_rfl) rfl, qform_due⟩
set_option maxRecDepth 100000 in
theorem fits_any (cb : Nat) (F : Nat → Prop) (c : Co) (qb : Nat) (G : Nat → Prop) (tag : Int) (l : Ln) (W : World) (h : CoreIn W cb F c) (hf : Fits c.l) (hq : QIn W qb G tag l) (hfl : Fits l) :
 Calls Tryz.prog 188 #[.pointer (some ⟨cb, 0, none⟩), .pointer (some ⟨qb, 0, none⟩)] W (SlP W) := by
 obtain ⟨lb, v, q0, hL, ht, -⟩ := hq.line; obtain ⟨T, K, hT, hm, he, hform⟩ := form_meth tag ht; rw [hT] at q0; have hform := hform lb v l W hL hfl; have hcf := fun (W' : World) (hb : Below W.heap.size W W') => cform_any cb F c W' (h.below hb) hf; have hlen : (formL c.l).length ≤ 64 := by unfold formL; rw [List.length_map]; exact hf.1
 have hlen2 : (formL l).length ≤ 64 := by unfold formL; rw [List.length_map]; exact hfl.1
 generalize formL c.l = its at hcf hlen; generalize c.l.cur = cur at hcf; generalize formL l = its2 at hform hlen2; generalize l.cur = cur2 at hform; clear h hf hq hfl hL ht hT; go_enter Tryz.func188, Tryz.ntmps188; go_wp2_with fail
 refine hform.mono ?_; rintro e w1 ⟨v1, rfl, hrow1, hb1⟩; have hcf := hcf w1 hb1; have HB1 := lH hb1; have HF1 := lH (FSl.of hrow1); clear hrow1 hb1 hm he hform; go_wp2_with fail
 refine hcf.mono ?_; rintro e w2 ⟨v2, rfl, hrow2, hb2⟩; have hfl := faults_any cur2 cur v1 v2 its2 its w2 (HF1.out.below hb2) (FSl.of hrow2) hlen2 hlen; have HB2 := lH hb2; clear hrow2 hb2 hcf; go_wp2_with fail
 refine hfl.mono ?_; rintro e w3 ⟨a, n, d, rfl, hn, hb3⟩; have HB3 := lH hb3; clear hb3 hfl; go_wp2
 go_ret
 exact ⟨_, _, _, rfl, hn, (HB1.out.trans (HB2.out.mono HB1.out.size)).trans (HB3.out.mono (Nat.le_trans HB1.out.size HB2.out.size))⟩
end
end Go.Proofs.YtoiajjobecinpaaGreat
