/- The law AccountTicks, walked: it returns true at any account and any numbers. -/
import Derived.Test.YtjnmdkdgkjakoaaAccE
namespace Go.Proofs.Ytjnmdkdgkjakoaa
open Go.RowKit
set_option linter.unusedVariables false
set_option linter.unusedSimpArgs false

set_option maxHeartbeats 1000000 in
theorem ticks_out (a : Value) (n m : Int) (w : World) (ha : ∃ q p l f : Int, a = acc q p l f) (h : n < 0 ∨ 300 < n ∨ m < 0 ∨ n < m) :
    Calls Try.prog 6 #[a, .int .i64 n, .int .i64 m] w fun e w' => e = .returned (.bool true) ∧ Below w.heap.size w w' := by
  obtain ⟨q, p, l, f, rfl⟩ := ha
  by_cases c1 : n < 0
  · clear h
    go_enter Try.func6, Try.ntmps6
    go_wp2_with fail
    refine (awake8_any _).mono ?_
    rintro e w1 ⟨rfl, hb⟩
    go_wp2
    go_ret
    exact ⟨rfl, below_step _ hb⟩
  · by_cases c2 : 300 < n
    · clear h
      go_enter Try.func6, Try.ntmps6
      go_wp2_with fail
      refine (awake8_any _).mono ?_
      rintro e w1 ⟨rfl, hb⟩
      go_wp2
      go_ret
      exact ⟨rfl, below_step _ hb⟩
    · by_cases c3 : m < 0
      · clear h
        go_enter Try.func6, Try.ntmps6
        go_wp2_with fail
        refine (awake8_any _).mono ?_
        rintro e w1 ⟨rfl, hb⟩
        go_wp2
        go_ret
        exact ⟨rfl, below_step _ hb⟩
      · have c4 : n < m := by omega
        clear h
        go_enter Try.func6, Try.ntmps6
        go_wp2_with fail
        refine (awake8_any _).mono ?_
        rintro e w1 ⟨rfl, hb⟩
        go_wp2
        go_ret
        exact ⟨rfl, below_step _ hb⟩

set_option maxHeartbeats 4000000 in
set_option maxRecDepth 100000 in
theorem ticks_in (q p l f : Int) (n m : Nat) (w : World) (hn : n ≤ 300) (hm : m ≤ n) :
    Calls Try.prog 6 #[acc q p l f, .int .i64 n, .int .i64 m] w fun e w' => e = .returned (.bool true) ∧ Below w.heap.size w w' := by
  obtain ⟨c, hc1, hc2⟩ := tick_two q p l f m ((n : Int) - m) (by omega) (by omega)
  rw [show (m : Int) + ((n : Int) - m) = n from by omega] at hc1 hc2
  have HC1 := Lib.hid hc1
  have HC2 := Lib.hid hc2
  clear hc1 hc2
  go_enter Try.func6, Try.ntmps6
  go_wp2_with fail
  refine (awake8_any _).mono ?_
  rintro e w0 ⟨rfl, hb0⟩
  have ha := (AccAt.new w q p l f).kept hb0
  have hlt0 := ha.lt
  have hb := below_step _ hb0
  clear hb0
  obtain ⟨k0, k1, k2, k3⟩ := ha.cells
  go_wp2_with fail
  clear k0 k1 k2 k3
  obtain ⟨⟨⟨x1, x2, x3, x4⟩, xb⟩, HX⟩ : ∃ r, Hid (tickP q p l f n = r) := ⟨_, Lib.hid rfl⟩
  refine (atick_any q p l f n w0 (by omega) (by omega)).mono ?_
  rw [HX.out]
  rintro e w1 ⟨rfl, hb1⟩
  replace ha := ha.kept hb1
  replace hb := hb.trans (hb1.mono hb.size)
  have hx := AccAt.new w1 x1 x2 x3 x4
  replace ha := ha.alloc (.cells #[.int .i64 x1, .int .i64 x2, .int .i64 x3, .int .i64 x4] 32)
  have hs := hb.size
  replace hb := hb.alloc hs (.cells #[.int .i64 x1, .int .i64 x2, .int .i64 x3, .int .i64 x4] 32)
  obtain ⟨k0, k1, k2, k3⟩ := ha.cells
  go_wp2_with fail
  clear k0 k1 k2 k3
  obtain ⟨sx, HSX⟩ : ∃ s, Hid (w1.heap.size = s) := ⟨_, Lib.hid rfl⟩
  have hsx : w.heap.size < sx := by rw [← HSX.out]; have := hb1.size; omega
  rw [HSX.out] at hx ⊢
  obtain ⟨⟨⟨y1, y2, y3, y4⟩, yb⟩, HY⟩ : ∃ r, Hid (tickP q p l f m = r) := ⟨_, Lib.hid rfl⟩
  rw [HX.out, HY.out] at HC1 HC2
  refine (atick_any q p l f m _ (by omega) (by omega)).mono ?_
  rw [HY.out]
  rintro e w2 ⟨rfl, hb2⟩
  replace ha := ha.kept hb2
  replace hx := hx.kept hb2
  replace hb := hb.trans (hb2.mono hb.size)
  have hy := AccAt.new w2 y1 y2 y3 y4
  replace ha := ha.alloc (.cells #[.int .i64 y1, .int .i64 y2, .int .i64 y3, .int .i64 y4] 32)
  replace hx := hx.alloc (.cells #[.int .i64 y1, .int .i64 y2, .int .i64 y3, .int .i64 y4] 32)
  have hs := hb.size
  replace hb := hb.alloc hs (.cells #[.int .i64 y1, .int .i64 y2, .int .i64 y3, .int .i64 y4] 32)
  have hlx := hb2.size
  rw [World.size_alloc] at hlx
  obtain ⟨sy, HSY⟩ : ∃ s, Hid (w2.heap.size = s) := ⟨_, Lib.hid rfl⟩
  have hsy : sx < sy := by rw [← HSY.out, ← HSX.out]; omega
  obtain ⟨k0, k1, k2, k3⟩ := hy.cells
  go_wp2_with fail
  clear k0 k1 k2 k3
  rw [HSY.out] at hy ⊢
  refine (atick_any y1 y2 y3 y4 ((n : Int) - m) _ (by omega) (by omega)).mono ?_
  rw [HC1.out]
  rintro e w3 ⟨rfl, hb3⟩
  replace ha := ha.kept hb3
  replace hx := hx.kept hb3
  replace hy := hy.kept hb3
  replace hb := hb.trans (hb3.mono hb.size)
  obtain ⟨k0, k1, k2, k3⟩ := hy.cells
  obtain ⟨j0, j1, j2, j3⟩ := ha.cells
  have f1 := hy.free
  have hne1 : w.heap.size ≠ sy := by omega
  have hne2 : sx ≠ sy := by omega
  go_wp2_with fail
  clear k0 k1 k2 k3 j0 j1 j2 j3 f1
  replace ha := ha.apart hne1 (.int .i64 x1) (.int .i64 x2) (.int .i64 x3) (.int .i64 x4)
  replace hx := hx.apart hne2 (.int .i64 x1) (.int .i64 x2) (.int .i64 x3) (.int .i64 x4)
  replace hy := hy.put x1 x2 x3 x4
  replace hb := below_put hb (show w.heap.size ≤ sy by omega) (.int .i64 x1) (.int .i64 x2) (.int .i64 x3) (.int .i64 x4)
  have hz := AccAt.new ((((w3.setCell ⟨sy, 0, none⟩ (.int .i64 x1)).setCell ⟨sy, 1, none⟩ (.int .i64 x2)).setCell ⟨sy, 2, none⟩ (.int .i64 x3)).setCell ⟨sy, 3, none⟩ (.int .i64 x4)) q p l f
  replace hx := hx.alloc (.cells #[.int .i64 q, .int .i64 p, .int .i64 l, .int .i64 f] 32)
  replace hy := hy.alloc (.cells #[.int .i64 q, .int .i64 p, .int .i64 l, .int .i64 f] 32)
  have hs := hb.size
  replace hb := hb.alloc hs (.cells #[.int .i64 q, .int .i64 p, .int .i64 l, .int .i64 f] 32)
  have hlz := hb3.size
  rw [World.size_alloc] at hlz
  obtain ⟨sz, HSZ⟩ : ∃ s, Hid (w3.heap.size = s) := ⟨_, Lib.hid rfl⟩
  have hsz : sy < sz := by rw [← HSZ.out, ← HSY.out]; omega
  simp only [World.size_setCell] at hz
  rw [HSZ.out] at hz ⊢
  have HT0 : Hid (tickP q p l f ((0 : Nat) : Int) = ((q, p, l, f), false)) := Lib.hid (by unfold tickP; rw [if_neg (by omega)])
  go_loopw [13, 14, 15, 16] (fun v13 v14 _ _ wr => ∃ (k : Nat) (z1 z2 z3 z4 : Int) (zb : Bool), k ≤ n ∧ v14 = .int .i64 k ∧ v13 = .bool zb ∧ Hid (tickP q p l f k = ((z1, z2, z3, z4), zb)) ∧ AccAt wr sz z1 z2 z3 z4 ∧ AccAt wr sx x1 x2 x3 x4 ∧ AccAt wr sy x1 x2 x3 x4 ∧ Below w.heap.size w wr) (fun _ v14 _ _ _ => n - (intOf v14).toNat)
  case atStart => exact ⟨0, q, p, l, f, false, by omega, rfl, rfl, HT0, hz, hx, hy, hb⟩
  case round =>
    obtain ⟨k, z1, z2, z3, z4, zb, hk, rfl, rfl, HT, hz', hx', hy', hb'⟩ := hrel
    clear hz hx hy hb
    by_cases hkn : k < n
    · obtain ⟨d, hd1, hd2⟩ := tick_two q p l f k 1 (by omega) (by omega)
      rw [HT.out] at hd1 hd2
      rw [show (k : Int) + 1 = ((k + 1 : Nat) : Int) from rfl] at hd1 hd2
      obtain ⟨⟨⟨v1, v2, v3, v4⟩, vb⟩, HV⟩ : ∃ r, Hid (tickP q p l f ((k + 1 : Nat) : Int) = r) := ⟨_, Lib.hid rfl⟩
      rw [HV.out] at hd1 hd2
      have HD1 := Lib.hid hd1
      simp only at hd2
      have HD2 := Lib.hid hd2
      clear hd1 hd2
      obtain ⟨k0, k1, k2, k3⟩ := hz'.cells
      go_wp2_with fail
      clear k0 k1 k2 k3
      refine (atick_any z1 z2 z3 z4 1 _ (by omega) (by omega)).mono ?_
      rw [HD1.out]
      rintro e w5 ⟨rfl, hb5⟩
      replace hz' := (hz'.kept hb5).alloc (.cells #[.int .i64 v1, .int .i64 v2, .int .i64 v3, .int .i64 v4] 32)
      replace hx' := (hx'.kept hb5).alloc (.cells #[.int .i64 v1, .int .i64 v2, .int .i64 v3, .int .i64 v4] 32)
      replace hy' := (hy'.kept hb5).alloc (.cells #[.int .i64 v1, .int .i64 v2, .int .i64 v3, .int .i64 v4] 32)
      replace hb' := hb'.trans (hb5.mono hb'.size)
      have hs := hb'.size
      replace hb' := hb'.alloc hs (.cells #[.int .i64 v1, .int .i64 v2, .int .i64 v3, .int .i64 v4] 32)
      obtain ⟨k0, k1, k2, k3⟩ := hz'.cells
      have f1 := hz'.free
      have hnx : sx ≠ sz := by omega
      have hny : sy ≠ sz := by omega
      have hput := hz'.put v1 v2 v3 v4
      have hxp := hx'.apart hnx (.int .i64 v1) (.int .i64 v2) (.int .i64 v3) (.int .i64 v4)
      have hyp := hy'.apart hny (.int .i64 v1) (.int .i64 v2) (.int .i64 v3) (.int .i64 v4)
      have hbp := below_put hb' (show w.heap.size ≤ sz by omega) (.int .i64 v1) (.int .i64 v2) (.int .i64 v3) (.int .i64 v4)
      clear hz' hx' hy' hb'
      cases zb with
      | true =>
        have hvb : vb = true := by rw [← HD2.out]; rfl
        go_wp2
        go_roundw
        case rel => exact ⟨k + 1, v1, v2, v3, v4, vb, by omega, by go_num, by rw [hvb], HV, hput, hxp, hyp, hbp⟩
        case measure => simp [intOf]; omega
      | false =>
        have hvb : vb = d := by rw [← HD2.out]; rfl
        subst hvb
        go_wp2
        go_roundw
        case rel => exact ⟨k + 1, v1, v2, v3, v4, vb, by omega, by go_num, rfl, HV, hput, hxp, hyp, hbp⟩
        case measure => simp [intOf]; omega
    · obtain rfl : k = n := by omega
      have e := HT.out
      rw [HX.out] at e
      simp only [Prod.mk.injEq] at e
      obtain ⟨⟨rfl, rfl, rfl, rfl⟩, rfl⟩ := e
      obtain ⟨k0, k1, k2, k3⟩ := hz'.cells
      obtain ⟨j0, j1, j2, j3⟩ := hx'.cells
      obtain ⟨i0, i1, i2, i3⟩ := hy'.cells
      have hc := HC2.out
      replace hc : (yb || c) = xb := hc
      cases yb with
      | true =>
        have hxb : xb = true := by rw [← hc]; rfl
        clear hc
        subst hxb
        go_wp2
        go_ret
        exact ⟨rfl, hb'⟩
      | false =>
        have hxb : c = xb := hc
        clear hc
        subst hxb
        cases c with
        | true =>
          go_wp2
          go_ret
          exact ⟨rfl, hb'⟩
        | false =>
          go_wp2
          go_ret
          exact ⟨rfl, hb'⟩

theorem accountTicks_any (q p l f n m : Int) (w : World) :
    Calls Try.prog 6 #[acc q p l f, .int .i64 n, .int .i64 m] w fun e w' => e = .returned (.bool true) ∧ Below w.heap.size w w' := by
  by_cases h : n < 0 ∨ 300 < n ∨ m < 0 ∨ n < m
  · exact ticks_out _ n m w ⟨q, p, l, f, rfl⟩ h
  · obtain ⟨N, rfl⟩ := Int.eq_ofNat_of_zero_le (show 0 ≤ n by omega)
    obtain ⟨M, rfl⟩ := Int.eq_ofNat_of_zero_le (show 0 ≤ m by omega)
    exact ticks_in q p l f N M w (by omega) (by omega)

end Go.Proofs.Ytjnmdkdgkjakoaa
