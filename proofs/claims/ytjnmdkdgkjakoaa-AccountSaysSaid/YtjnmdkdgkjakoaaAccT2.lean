/- Contract of the document's own Tick, as the same plain function. -/
import Derived.Test.YtjnmdkdgkjakoaaAccV
namespace Go.Proofs.Ytjnmdkdgkjakoaa
open Go.RowKit
set_option linter.unusedVariables false
set_option linter.unusedSimpArgs false

set_option maxHeartbeats 2000000 in
theorem rtick_near (q p l f n : Int) (w : World) (hn1 : -9223372036854775808 ≤ n) (hn2 : n ≤ 9223372036854775807) (h : FullA q p l f) (hn : 0 < n) (ht : p - f ≤ n) (hp : ¬ p ≤ n) :
    Calls Try.prog 44 #[acc q p l f, .int .i64 n] w fun e w' => e = .returned (.tuple #[accT (tickP q p l f n).1, .bool (tickP q p l f n).2]) ∧ Below w.heap.size w w' := by
  have hg := rgood_any q p l f
  rw [full_good h] at hg
  rw [show tickP q p l f n = ((q, p, q, (f + n % p) % p), true) from by unfold tickP; rw [if_pos ⟨h, hn⟩, if_pos ht]]
  obtain ⟨x1, x2, x3, x4, x5, x6, x7, x8⟩ := h
  have e1 := Int.emod_nonneg n (show p ≠ 0 by omega)
  have e2 := Int.emod_lt_of_pos n (show 0 < p by omega)
  have e0 : (q == 0) = false := beq_eq_false_iff_ne.2 (by omega)
  have ep : (p == 0) = false := beq_eq_false_iff_ne.2 (by omega)
  have ep' : p ≠ 0 := by omega
  have hd := div_no (show 0 ≤ n by omega) (show n < p by omega)
  have hm : n % p = n := Int.emod_eq_of_lt (by omega) (by omega)
  have hge : p ≤ f + n % p := by omega
  have HM := Lib.hid hm
  clear hm
  go_enter Try.func44, Try.ntmps44
  go_wp2_with fail
  refine (hg _).mono ?_
  rintro e w1 ⟨rfl, hb1⟩
  have b1 := first_of_two hb1
  have b2 := second_of_two hb1
  obtain ⟨y0, y1, y2, y3⟩ := cells4 b1
  obtain ⟨t0, t1, t2, t3⟩ := cells4 b2
  have f1 := frozen_row b1
  have f2 := frozen_row b2
  have hbb := below_two hb1
  have N1 := Lib.hid (show ((w1.setCell ⟨w.heap.size, 3, none⟩ (.int .i64 ((f + n % p) % p))).setCell ⟨w.heap.size, 2, none⟩ (.int .i64 q)).heap[w.heap.size + 1]? = _ from (Below.heap_setCell _ _ _ _ (by simp)).trans ((Below.heap_setCell _ _ _ _ (by simp)).trans b2))
  clear b1 b2
  go_wp2_with fail
  have hX : (f + n) % p = (f + n % p) % p := by simp
  try rw [hX]
  clear hX
  generalize (f + n % p) % p = X at N1 ⊢
  obtain ⟨r0, r1, r2, r3⟩ := cells4 (blk4 N1.out (.int .i64 q) (.int .i64 p) (.int .i64 q) (.int .i64 X))
  refine bodyPost_ret (v := .tuple #[acc q p q X, .bool true]) (by simp [results, Try.results44, go_sem, r0, r1, r2, r3]) rfl ⟨rfl, ?_⟩
  repeat (first | exact hbb | refine Below.setCell ?_ (by simp) _)


end Go.Proofs.Ytjnmdkdgkjakoaa
