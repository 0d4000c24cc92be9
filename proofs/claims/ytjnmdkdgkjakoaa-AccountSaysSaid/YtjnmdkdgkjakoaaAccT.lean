/- Contract of the document's own Tick, as the same plain function. -/
import Derived.Test.YtjnmdkdgkjakoaaAccT1
import Derived.Test.YtjnmdkdgkjakoaaAccT2
namespace Go.Proofs.Ytjnmdkdgkjakoaa
open Go.RowKit
set_option linter.unusedVariables false
set_option linter.unusedSimpArgs false

set_option maxHeartbeats 2000000 in
theorem rtick_go (q p l f n : Int) (w : World) (hn1 : -9223372036854775808 ≤ n) (hn2 : n ≤ 9223372036854775807) (h : FullA q p l f) (hn : 0 < n) (ht : ¬ p - f ≤ n) :
    Calls Try.prog 44 #[acc q p l f, .int .i64 n] w fun e w' => e = .returned (.tuple #[accT (tickP q p l f n).1, .bool (tickP q p l f n).2]) ∧ Below w.heap.size w w' := by
  have hg := rgood_any q p l f
  rw [full_good h] at hg
  rw [show tickP q p l f n = ((q, p, l, (f + n % p) % p), false) from by unfold tickP; rw [if_pos ⟨h, hn⟩, if_neg ht]]
  obtain ⟨x1, x2, x3, x4, x5, x6, x7, x8⟩ := h
  have e1 := Int.emod_nonneg n (show p ≠ 0 by omega)
  have e2 := Int.emod_lt_of_pos n (show 0 < p by omega)
  have e0 : (q == 0) = false := beq_eq_false_iff_ne.2 (by omega)
  have ep : (p == 0) = false := beq_eq_false_iff_ne.2 (by omega)
  have ep' : p ≠ 0 := by omega
  have hd := div_no (show 0 ≤ n by omega) (show n < p by omega)
  have hm : n % p = n := Int.emod_eq_of_lt (by omega) (by omega)
  have hge : f + n % p < p := by omega
  have HM := Lib.hid hm
  clear hm
  go_enter Try.func44, Try.ntmps44
  go_wp2_with fail
  refine (hg _).mono ?_
  rintro e w1 ⟨rfl, hb1⟩
  have b1 := first_of_two hb1
  have b2 := second_of_two hb1
  obtain ⟨y0, y1, y2, y3⟩ := cells4 b1
  obtain ⟨t0, t1, t2, t3⟩ := cells4 b2
  have f1 := frozen_row b1
  have f2 := frozen_row b2
  have hbb := below_two hb1
  have N1 := Lib.hid (show (w1.setCell ⟨w.heap.size, 3, none⟩ (.int .i64 ((f + n % p) % p))).heap[w.heap.size + 1]? = _ from (Below.heap_setCell _ _ _ _ (by simp)).trans b2)
  clear b1 b2
  go_wp2_with fail
  have hX : (f + n) % p = (f + n % p) % p := by simp
  try rw [hX]
  clear hX
  generalize (f + n % p) % p = X at N1 ⊢
  obtain ⟨r0, r1, r2, r3⟩ := cells4 (blk4 N1.out (.int .i64 q) (.int .i64 p) (.int .i64 l) (.int .i64 X))
  refine bodyPost_ret (v := .tuple #[acc q p l X, .bool false]) (by simp [results, Try.results44, go_sem, r0, r1, r2, r3, hge]) rfl ⟨rfl, ?_⟩
  repeat (first | exact hbb | refine Below.setCell ?_ (by simp) _)

set_option maxHeartbeats 2000000 in
theorem rtick_stay (q p l f n : Int) (w : World) (hn1 : -9223372036854775808 ≤ n) (hn2 : n ≤ 9223372036854775807) (h : FullA q p l f) (hn : ¬ 0 < n) :
    Calls Try.prog 44 #[acc q p l f, .int .i64 n] w fun e w' => e = .returned (.tuple #[accT (tickP q p l f n).1, .bool (tickP q p l f n).2]) ∧ Below w.heap.size w w' := by
  have hg := rgood_any q p l f
  rw [full_good h] at hg
  rw [show tickP q p l f n = ((q, p, l, f), false) from by unfold tickP; rw [if_neg (fun g => hn g.2)]]
  clear h
  go_enter Try.func44, Try.ntmps44
  go_wp2_with fail
  refine (hg _).mono ?_
  rintro e w1 ⟨rfl, hb1⟩
  have b1 := first_of_two hb1
  have b2 := second_of_two hb1
  obtain ⟨y0, y1, y2, y3⟩ := cells4 b1
  obtain ⟨t0, t1, t2, t3⟩ := cells4 b2
  have f1 := frozen_row b1
  have f2 := frozen_row b2
  have hbb := below_two hb1
  obtain ⟨r0, r1, r2, r3⟩ := cells4 (blk4 b2 (.int .i64 q) (.int .i64 p) (.int .i64 l) (.int .i64 f))
  clear b1 b2
  go_wp2_with fail
  refine bodyPost_ret (v := .tuple #[acc q p l f, .bool false]) (by simp [results, Try.results44, go_sem, r0, r1, r2, r3]) rfl ⟨rfl, ?_⟩
  repeat (first | exact hbb | refine Below.setCell ?_ (by simp) _)

set_option maxHeartbeats 2000000 in
theorem rtick_free (q p l f n : Int) (w : World) (hn1 : -9223372036854775808 ≤ n) (hn2 : n ≤ 9223372036854775807) (h : FreeA q p l f) :
    Calls Try.prog 44 #[acc q p l f, .int .i64 n] w fun e w' => e = .returned (.tuple #[accT (tickP q p l f n).1, .bool (tickP q p l f n).2]) ∧ Below w.heap.size w w' := by
  have hg := rgood_any q p l f
  rw [free_good h] at hg
  rw [show tickP q p l f n = ((q, p, l, f), false) from by unfold tickP; rw [if_neg (fun g => free_not_full h g.1)]]
  obtain ⟨rfl, rfl, rfl, rfl⟩ := h
  by_cases c : n < 1
  · go_enter Try.func44, Try.ntmps44
    go_wp2_with fail
    refine (hg _).mono ?_
    rintro e w1 ⟨rfl, hb1⟩
    have b1 := first_of_two hb1
    have b2 := second_of_two hb1
    obtain ⟨y0, y1, y2, y3⟩ := cells4 b1
    obtain ⟨t0, t1, t2, t3⟩ := cells4 b2
    have f1 := frozen_row b1
    have f2 := frozen_row b2
    have hbb := below_two hb1
    obtain ⟨r0, r1, r2, r3⟩ := cells4 (blk4 b2 (.int .i64 0) (.int .i64 0) (.int .i64 0) (.int .i64 0))
    clear b1 b2
    go_wp2_with fail
    refine bodyPost_ret (v := .tuple #[acc 0 0 0 0, .bool false]) (by simp [results, Try.results44, go_sem, r0, r1, r2, r3]) rfl ⟨rfl, ?_⟩
    repeat (first | exact hbb | refine Below.setCell ?_ (by simp) _)
  · go_enter Try.func44, Try.ntmps44
    go_wp2_with fail
    refine (hg _).mono ?_
    rintro e w1 ⟨rfl, hb1⟩
    have b1 := first_of_two hb1
    have b2 := second_of_two hb1
    obtain ⟨y0, y1, y2, y3⟩ := cells4 b1
    obtain ⟨t0, t1, t2, t3⟩ := cells4 b2
    have f1 := frozen_row b1
    have f2 := frozen_row b2
    have hbb := below_two hb1
    obtain ⟨r0, r1, r2, r3⟩ := cells4 (blk4 b2 (.int .i64 0) (.int .i64 0) (.int .i64 0) (.int .i64 0))
    clear b1 b2
    go_wp2_with fail
    refine bodyPost_ret (v := .tuple #[acc 0 0 0 0, .bool false]) (by simp [results, Try.results44, go_sem, r0, r1, r2, r3]) rfl ⟨rfl, ?_⟩
    repeat (first | exact hbb | refine Below.setCell ?_ (by simp) _)

set_option maxHeartbeats 2000000 in
theorem rtick_bad (q p l f n : Int) (w : World) (hn1 : -9223372036854775808 ≤ n) (hn2 : n ≤ 9223372036854775807) (h : goodB q p l f = false) :
    Calls Try.prog 44 #[acc q p l f, .int .i64 n] w fun e w' => e = .returned (.tuple #[accT (tickP q p l f n).1, .bool (tickP q p l f n).2]) ∧ Below w.heap.size w w' := by
  have hg := rgood_any q p l f
  rw [show tickP q p l f n = ((q, p, l, f), false) from by unfold tickP; rw [if_neg (fun g => by rw [full_good g.1] at h; cases h)]]
  rw [h] at hg
  clear h
  go_enter Try.func44, Try.ntmps44
  go_wp2_with fail
  refine (hg _).mono ?_
  rintro e w1 ⟨rfl, hb1⟩
  have b1 := first_of_two hb1
  have b2 := second_of_two hb1
  obtain ⟨y0, y1, y2, y3⟩ := cells4 b1
  obtain ⟨t0, t1, t2, t3⟩ := cells4 b2
  have f1 := frozen_row b1
  have f2 := frozen_row b2
  have hbb := below_two hb1
  obtain ⟨r0, r1, r2, r3⟩ := cells4 (blk4 b2 (.int .i64 q) (.int .i64 p) (.int .i64 l) (.int .i64 f))
  clear b1 b2
  go_wp2_with fail
  refine bodyPost_ret (v := .tuple #[acc q p l f, .bool false]) (by simp [results, Try.results44, go_sem, r0, r1, r2, r3]) rfl ⟨rfl, ?_⟩
  repeat (first | exact hbb | refine Below.setCell ?_ (by simp) _)

theorem rtick_any (q p l f n : Int) (w : World) (hn1 : -9223372036854775808 ≤ n) (hn2 : n ≤ 9223372036854775807) :
    Calls Try.prog 44 #[acc q p l f, .int .i64 n] w fun e w' => e = .returned (.tuple #[accT (tickP q p l f n).1, .bool (tickP q p l f n).2]) ∧ Below w.heap.size w w' := by
  rcases three q p l f with h | h | h
  · by_cases hn : 0 < n
    · by_cases ht : p - f ≤ n
      · by_cases hp : p ≤ n
        · exact rtick_far q p l f n w hn1 hn2 h hn ht hp
        · exact rtick_near q p l f n w hn1 hn2 h hn ht hp
      · exact rtick_go q p l f n w hn1 hn2 h hn ht
    · exact rtick_stay q p l f n w hn1 hn2 h hn
  · exact rtick_free q p l f n w hn1 hn2 h
  · exact rtick_bad q p l f n w hn1 hn2 h

end Go.Proofs.Ytjnmdkdgkjakoaa
