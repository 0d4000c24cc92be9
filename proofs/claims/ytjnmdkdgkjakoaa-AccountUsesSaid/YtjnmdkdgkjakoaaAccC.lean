/- Contract of package account: Tick. -/
import Derived.Test.YtjnmdkdgkjakoaaAccB
namespace Go.Proofs.Ytjnmdkdgkjakoaa
open Go.RowKit
set_option linter.unusedVariables false
set_option linter.unusedSimpArgs false

set_option maxHeartbeats 2000000 in
theorem tick_end (q p l f n : Int) (w : World) (hn1 : -9223372036854775808 ≤ n) (hn2 : n ≤ 9223372036854775807) (h : FullA q p l f) (hn : 0 < n) (ht : p - f ≤ n) :
    Calls Try.prog 21 #[acc q p l f, .int .i64 n] w fun e w' => e = .returned (.tuple #[accT (tickP q p l f n).1, .bool (tickP q p l f n).2]) ∧ Below w.heap.size w w' := by
  have hg := agood_any q p l f
  have hf := afree_any q p l f
  rw [full_good h] at hg
  rw [full_not_free h] at hf
  rw [show tickP q p l f n = ((q, p, q, (f + n % p) % p), true) from by unfold tickP; rw [if_pos ⟨h, hn⟩, if_pos ht]]
  obtain ⟨x1, x2, x3, x4, x5, x6, x7, x8⟩ := h
  go_enter Try.func21, Try.ntmps21
  go_wp2_with fail
  refine (hg _).mono ?_
  rintro e w1 ⟨rfl, hb1⟩
  have b1 := first_of_two hb1
  have b2 := second_of_two hb1
  have hz1 := hb1.size
  rw [World.size_alloc, World.size_alloc] at hz1
  have hz : w.heap.size + 1 < w1.heap.size := by omega
  obtain ⟨u0, u1, u2, u3⟩ := cells4 b1
  go_wp2_with fail
  refine (hf _).mono ?_
  rintro e w2 ⟨rfl, hb2⟩
  have hz2 := hb2.size
  replace b1 := kept_row hb2 b1
  replace b2 := kept_row hb2 b2
  obtain ⟨y0, y1, y2, y3⟩ := cells4 b1
  obtain ⟨t0, t1, t2, t3⟩ := cells4 b2
  have f1 := frozen_row b1
  have f2 := frozen_row b2
  have B1 := Lib.hid b1
  have B2 := Lib.hid b2
  clear b1 b2
  have hp : p ≠ 0 := by omega
  have hp' : (p == 0) = false := beq_eq_false_iff_ne.2 hp
  have HX2 : Hid (((wrap64 (f + n % p)).tmod p) = (f + n % p) % p) := Lib.hid (by
    have e1 := Int.emod_nonneg n (show p ≠ 0 by omega)
    have e2 := Int.emod_lt_of_pos n (show 0 < p by omega)
    have e3 : wrap64 (f + n % p) = f + n % p := by unfold wrap64; omega
    rw [e3, Int.tmod_eq_emod_of_nonneg (by omega)])
  have hbb := (below_two hb1).trans (hb2.mono (by omega))
  go_wp2_with fail
  go_region
  go_wp2_with fail
  have n1 : ((w2.setCell ⟨w.heap.size, 3, none⟩ (.int .i64 ((wrap64 (f + n % p)).tmod p))).setCell ⟨w.heap.size, 2, none⟩ (.int .i64 q)).heap[w.heap.size + 1]? = _ := (Below.heap_setCell _ _ _ _ (by simp)).trans ((Below.heap_setCell _ _ _ _ (by simp)).trans B2.out)
  obtain ⟨r0, r1, r2, r3⟩ := cells4 (blk4 n1 (.int .i64 q) (.int .i64 p) (.int .i64 q) (.int .i64 ((wrap64 (f + n % p)).tmod p)))
  refine bodyPost_ret (v := .tuple #[acc q p q ((wrap64 (f + n % p)).tmod p), .bool true]) (by simp [results, Try.results21, go_sem, r0, r1, r2, r3]) rfl ⟨by rw [HX2.out], ?_⟩
  refine Below.drew ?_
  repeat (first | exact hbb | refine Below.setCell ?_ (by simp) _)

set_option maxHeartbeats 2000000 in
theorem tick_go (q p l f n : Int) (w : World) (hn1 : -9223372036854775808 ≤ n) (hn2 : n ≤ 9223372036854775807) (h : FullA q p l f) (hn : 0 < n) (ht : ¬ p - f ≤ n) :
    Calls Try.prog 21 #[acc q p l f, .int .i64 n] w fun e w' => e = .returned (.tuple #[accT (tickP q p l f n).1, .bool (tickP q p l f n).2]) ∧ Below w.heap.size w w' := by
  have hg := agood_any q p l f
  have hf := afree_any q p l f
  rw [full_good h] at hg
  rw [full_not_free h] at hf
  rw [show tickP q p l f n = ((q, p, l, (f + n % p) % p), false) from by unfold tickP; rw [if_pos ⟨h, hn⟩, if_neg ht]]
  obtain ⟨x1, x2, x3, x4, x5, x6, x7, x8⟩ := h
  have hd : decide (p - f ≤ n) = false := decide_eq_false ht
  go_enter Try.func21, Try.ntmps21
  go_wp2_with fail
  refine (hg _).mono ?_
  rintro e w1 ⟨rfl, hb1⟩
  have b1 := first_of_two hb1
  have b2 := second_of_two hb1
  have hz1 := hb1.size
  rw [World.size_alloc, World.size_alloc] at hz1
  have hz : w.heap.size + 1 < w1.heap.size := by omega
  obtain ⟨u0, u1, u2, u3⟩ := cells4 b1
  go_wp2_with fail
  refine (hf _).mono ?_
  rintro e w2 ⟨rfl, hb2⟩
  have hz2 := hb2.size
  replace b1 := kept_row hb2 b1
  replace b2 := kept_row hb2 b2
  obtain ⟨y0, y1, y2, y3⟩ := cells4 b1
  obtain ⟨t0, t1, t2, t3⟩ := cells4 b2
  have f1 := frozen_row b1
  have f2 := frozen_row b2
  have B1 := Lib.hid b1
  have B2 := Lib.hid b2
  clear b1 b2
  have hp : p ≠ 0 := by omega
  have hp' : (p == 0) = false := beq_eq_false_iff_ne.2 hp
  have HX2 : Hid (((wrap64 (f + n % p)).tmod p) = (f + n % p) % p) := Lib.hid (by
    have e1 := Int.emod_nonneg n (show p ≠ 0 by omega)
    have e2 := Int.emod_lt_of_pos n (show 0 < p by omega)
    have e3 : wrap64 (f + n % p) = f + n % p := by unfold wrap64; omega
    rw [e3, Int.tmod_eq_emod_of_nonneg (by omega)])
  have hbb := (below_two hb1).trans (hb2.mono (by omega))
  go_wp2_with fail
  go_region
  go_wp2_with fail
  have n1 : (w2.setCell ⟨w.heap.size, 3, none⟩ (.int .i64 ((wrap64 (f + n % p)).tmod p))).heap[w.heap.size + 1]? = _ := (Below.heap_setCell _ _ _ _ (by simp)).trans B2.out
  obtain ⟨r0, r1, r2, r3⟩ := cells4 (blk4 n1 (.int .i64 q) (.int .i64 p) (.int .i64 l) (.int .i64 ((wrap64 (f + n % p)).tmod p)))
  refine bodyPost_ret (v := .tuple #[acc q p l ((wrap64 (f + n % p)).tmod p), .bool false]) (by simp [results, Try.results21, go_sem, r0, r1, r2, r3]) rfl ⟨by rw [HX2.out], ?_⟩
  refine Below.drew ?_
  repeat (first | exact hbb | refine Below.setCell ?_ (by simp) _)

set_option maxHeartbeats 2000000 in
theorem tick_stay (q p l f n : Int) (w : World) (hn1 : -9223372036854775808 ≤ n) (hn2 : n ≤ 9223372036854775807) (h : FullA q p l f) (hn : ¬ 0 < n) :
    Calls Try.prog 21 #[acc q p l f, .int .i64 n] w fun e w' => e = .returned (.tuple #[accT (tickP q p l f n).1, .bool (tickP q p l f n).2]) ∧ Below w.heap.size w w' := by
  have hg := agood_any q p l f
  have hf := afree_any q p l f
  rw [full_good h] at hg
  rw [full_not_free h] at hf
  rw [show tickP q p l f n = ((q, p, l, f), false) from by unfold tickP; rw [if_neg (fun g => hn g.2)]]
  clear h
  go_enter Try.func21, Try.ntmps21
  go_wp2_with fail
  refine (hg _).mono ?_
  rintro e w1 ⟨rfl, hb1⟩
  have b1 := first_of_two hb1
  have b2 := second_of_two hb1
  have hz1 := hb1.size
  rw [World.size_alloc, World.size_alloc] at hz1
  have hz : w.heap.size + 1 < w1.heap.size := by omega
  obtain ⟨u0, u1, u2, u3⟩ := cells4 b1
  go_wp2_with fail
  refine (hf _).mono ?_
  rintro e w2 ⟨rfl, hb2⟩
  have hz2 := hb2.size
  replace b1 := kept_row hb2 b1
  replace b2 := kept_row hb2 b2
  obtain ⟨y0, y1, y2, y3⟩ := cells4 b1
  obtain ⟨t0, t1, t2, t3⟩ := cells4 b2
  have f2 := frozen_row b2
  obtain ⟨r0, r1, r2, r3⟩ := cells4 (blk4 b2 (.int .i64 q) (.int .i64 p) (.int .i64 l) (.int .i64 f))
  have hbb := (below_two hb1).trans (hb2.mono (by omega))
  clear b1 b2
  go_wp2_with fail
  refine bodyPost_ret (v := .tuple #[acc q p l f, .bool false]) (by simp [results, Try.results21, go_sem, r0, r1, r2, r3]) rfl ⟨rfl, ?_⟩
  repeat (first | exact hbb | refine Below.setCell ?_ (by simp) _)

set_option maxHeartbeats 2000000 in
theorem tick_free (q p l f n : Int) (w : World) (hn1 : -9223372036854775808 ≤ n) (hn2 : n ≤ 9223372036854775807) (h : FreeA q p l f) :
    Calls Try.prog 21 #[acc q p l f, .int .i64 n] w fun e w' => e = .returned (.tuple #[accT (tickP q p l f n).1, .bool (tickP q p l f n).2]) ∧ Below w.heap.size w w' := by
  have hg := agood_any q p l f
  have hf := afree_any q p l f
  rw [free_good h] at hg
  rw [show freeB q p l f = true from decide_eq_true h] at hf
  rw [show tickP q p l f n = ((q, p, l, f), false) from by unfold tickP; rw [if_neg (fun g => free_not_full h g.1)]]
  clear h
  go_enter Try.func21, Try.ntmps21
  go_wp2_with fail
  refine (hg _).mono ?_
  rintro e w1 ⟨rfl, hb1⟩
  have b1 := first_of_two hb1
  have b2 := second_of_two hb1
  have hz1 := hb1.size
  rw [World.size_alloc, World.size_alloc] at hz1
  have hz : w.heap.size + 1 < w1.heap.size := by omega
  obtain ⟨u0, u1, u2, u3⟩ := cells4 b1
  go_wp2_with fail
  refine (hf _).mono ?_
  rintro e w2 ⟨rfl, hb2⟩
  have hz2 := hb2.size
  replace b1 := kept_row hb2 b1
  replace b2 := kept_row hb2 b2
  obtain ⟨y0, y1, y2, y3⟩ := cells4 b1
  obtain ⟨t0, t1, t2, t3⟩ := cells4 b2
  have f2 := frozen_row b2
  obtain ⟨r0, r1, r2, r3⟩ := cells4 (blk4 b2 (.int .i64 q) (.int .i64 p) (.int .i64 l) (.int .i64 f))
  have hbb := (below_two hb1).trans (hb2.mono (by omega))
  clear b1 b2
  go_wp2_with fail
  refine bodyPost_ret (v := .tuple #[acc q p l f, .bool false]) (by simp [results, Try.results21, go_sem, r0, r1, r2, r3]) rfl ⟨rfl, ?_⟩
  repeat (first | exact hbb | refine Below.setCell ?_ (by simp) _)

set_option maxHeartbeats 2000000 in
theorem tick_bad (q p l f n : Int) (w : World) (hn1 : -9223372036854775808 ≤ n) (hn2 : n ≤ 9223372036854775807) (h : goodB q p l f = false) :
    Calls Try.prog 21 #[acc q p l f, .int .i64 n] w fun e w' => e = .returned (.tuple #[accT (tickP q p l f n).1, .bool (tickP q p l f n).2]) ∧ Below w.heap.size w w' := by
  have hg := agood_any q p l f
  have hf := afree_any q p l f
  rw [show tickP q p l f n = ((q, p, l, f), false) from by unfold tickP; rw [if_neg (fun g => by rw [full_good g.1] at h; cases h)]]
  rw [h] at hg
  clear h
  go_enter Try.func21, Try.ntmps21
  go_wp2_with fail
  refine (hg _).mono ?_
  rintro e w1 ⟨rfl, hb1⟩
  have b1 := first_of_two hb1
  have b2 := second_of_two hb1
  obtain ⟨y0, y1, y2, y3⟩ := cells4 b1
  obtain ⟨t0, t1, t2, t3⟩ := cells4 b2
  have f2 := frozen_row b2
  obtain ⟨r0, r1, r2, r3⟩ := cells4 (blk4 b2 (.int .i64 q) (.int .i64 p) (.int .i64 l) (.int .i64 f))
  have hbb := below_two hb1
  clear b1 b2
  go_wp2_with fail
  refine bodyPost_ret (v := .tuple #[acc q p l f, .bool false]) (by simp [results, Try.results21, go_sem, r0, r1, r2, r3]) rfl ⟨rfl, ?_⟩
  repeat (first | exact hbb | refine Below.setCell ?_ (by simp) _)

theorem atick_any (q p l f n : Int) (w : World) (hn1 : -9223372036854775808 ≤ n) (hn2 : n ≤ 9223372036854775807) :
    Calls Try.prog 21 #[acc q p l f, .int .i64 n] w fun e w' => e = .returned (.tuple #[accT (tickP q p l f n).1, .bool (tickP q p l f n).2]) ∧ Below w.heap.size w w' := by
  rcases three q p l f with h | h | h
  · by_cases hn : 0 < n
    · by_cases ht : p - f ≤ n
      · exact tick_end q p l f n w hn1 hn2 h hn ht
      · exact tick_go q p l f n w hn1 hn2 h hn ht
    · exact tick_stay q p l f n w hn1 hn2 h hn
  · exact tick_free q p l f n w hn1 hn2 h
  · exact tick_bad q p l f n w hn1 hn2 h

end Go.Proofs.Ytjnmdkdgkjakoaa
