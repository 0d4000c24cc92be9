/- Contracts of the document's own accounts: Spent, Next, Use, Tick. -/
import Derived.Test.YtjnmdkdgkjakoaaAccR
namespace Go.Proofs.Ytjnmdkdgkjakoaa
open Go.RowKit
set_option linter.unusedVariables false
set_option linter.unusedSimpArgs false

set_option maxHeartbeats 1000000 in
theorem rspent_any (q p l f : Int) (w : World) :
    Calls Try.prog 46 #[acc q p l f] w fun e w' => e = .returned (.bool (spentB q p l f)) ∧ Below w.heap.size w w' := by
  have hg := rgood_any q p l f
  rcases three q p l f with h | h | h
  · rw [full_good h] at hg
    rw [spent_full h]
    have hq : 0 < q := by unfold FullA at h; omega
    clear h
    go_enter Try.func46, Try.ntmps46
    go_wp2_with fail
    refine (hg _).mono ?_
    rintro e w1 ⟨rfl, hb⟩
    obtain ⟨k0, k1, k2, k3⟩ := cells4 (kept_row hb (heap_alloc_new w _))
    go_wp2
    go_ret
    exact ⟨rfl, below_step _ hb⟩
  · rw [free_good h] at hg
    rw [show spentB q p l f = false from decide_eq_false fun g => free_not_full h g.1]
    obtain ⟨rfl, rfl, rfl, rfl⟩ := h
    go_enter Try.func46, Try.ntmps46
    go_wp2_with fail
    refine (hg _).mono ?_
    rintro e w1 ⟨rfl, hb⟩
    obtain ⟨k0, k1, k2, k3⟩ := cells4 (kept_row hb (heap_alloc_new w _))
    go_wp2
    go_ret
    exact ⟨rfl, below_step _ hb⟩
  · rw [h] at hg
    rw [show spentB q p l f = false from decide_eq_false fun g => by rw [full_good g.1] at h; cases h]
    clear h
    go_enter Try.func46, Try.ntmps46
    go_wp2_with fail
    refine (hg _).mono ?_
    rintro e w1 ⟨rfl, hb⟩
    go_wp2
    go_ret
    exact ⟨rfl, below_step _ hb⟩

set_option maxHeartbeats 1000000 in
theorem rnext_any (q p l f : Int) (w : World) :
    Calls Try.prog 47 #[acc q p l f] w fun e w' => e = .returned (.int .i64 (nextI q p l f)) ∧ Below w.heap.size w w' := by
  have hg := rgood_any q p l f
  rcases three q p l f with h | h | h
  · rw [full_good h] at hg
    rw [show nextI q p l f = p - f from if_pos h]
    obtain ⟨a1, _, b1, b2, _, _, b3, b4⟩ := h
    have e0 : (q == 0) = false := beq_eq_false_iff_ne.2 (by omega)
    go_enter Try.func47, Try.ntmps47
    go_wp2_with fail
    refine (hg _).mono ?_
    rintro e w1 ⟨rfl, hb⟩
    obtain ⟨k0, k1, k2, k3⟩ := cells4 (kept_row hb (heap_alloc_new w _))
    go_wp2
    go_ret
    exact ⟨rfl, below_step _ hb⟩
  · rw [free_good h] at hg
    rw [show nextI q p l f = 0 from if_neg (free_not_full h)]
    obtain ⟨rfl, rfl, rfl, rfl⟩ := h
    go_enter Try.func47, Try.ntmps47
    go_wp2_with fail
    refine (hg _).mono ?_
    rintro e w1 ⟨rfl, hb⟩
    obtain ⟨k0, k1, k2, k3⟩ := cells4 (kept_row hb (heap_alloc_new w _))
    go_wp2
    go_ret
    exact ⟨rfl, below_step _ hb⟩
  · rw [h] at hg
    rw [show nextI q p l f = 0 from if_neg (fun g => by rw [full_good g] at h; cases h)]
    clear h
    go_enter Try.func47, Try.ntmps47
    go_wp2_with fail
    refine (hg _).mono ?_
    rintro e w1 ⟨rfl, hb⟩
    go_wp2
    go_ret
    exact ⟨rfl, below_step _ hb⟩

set_option maxHeartbeats 2000000 in
theorem ruse_any (q p l f : Int) (w : World) :
    Calls Try.prog 43 #[acc q p l f] w fun e w' => e = .returned (.tuple #[accT (useP q p l f).1, .int .i64 (useP q p l f).2]) ∧ Below w.heap.size w w' := by
  have hg := rgood_any q p l f
  have hs := rspent_any q p l f
  rcases three q p l f with h | h | h
  · rw [full_good h] at hg
    rw [spent_full h] at hs
    have hq : 0 < q := by unfold FullA at h; omega
    by_cases hl0 : l = 0
    · rw [decide_eq_true hl0] at hs
      rw [show useP q p l f = ((0, 0, 0, 0), 14) from by unfold useP; rw [if_pos h, if_pos hl0]]
      clear h hl0
      go_enter Try.func43, Try.ntmps43
      go_wp2_with fail
      refine (hg _).mono ?_
      rintro e w1 ⟨rfl, hb1⟩
      have b1 := first_of_two hb1
      have b2 := second_of_two hb1
      obtain ⟨y0, y1, y2, y3⟩ := cells4 b1
      go_wp2_with fail
      refine (hs _).mono ?_
      rintro e w2 ⟨rfl, hb2⟩
      replace b1 := kept_row hb2 b1
      replace b2 := kept_row hb2 b2
      have hz1 := hb1.size
      rw [World.size_alloc, World.size_alloc] at hz1
      have hbb := (below_two hb1).trans (hb2.mono (by omega))
      obtain ⟨t0, t1, t2, t3⟩ := cells4 b2
      have f2 := frozen_row b2
      obtain ⟨r0, r1, r2, r3⟩ := cells4 (blk4 b2 (.int .i64 0) (.int .i64 0) (.int .i64 0) (.int .i64 0))
      clear b1 b2
      go_wp2_with fail
      refine bodyPost_ret (v := .tuple #[acc 0 0 0 0, .int .i64 14]) (by simp [results, Try.results43, go_sem, r0, r1, r2, r3]) rfl ⟨rfl, ?_⟩
      repeat (first | exact hbb | refine Below.setCell ?_ (by simp) _)
    · rw [decide_eq_false hl0] at hs
      rw [show useP q p l f = ((q, p, l - 1, f), 0) from by unfold useP; rw [if_pos h, if_neg hl0]]
      have hl1 : 1 ≤ l := by unfold FullA at h; omega
      have hl2 : l ≤ 1073741824 := by unfold FullA at h; omega
      clear h hl0
      go_enter Try.func43, Try.ntmps43
      go_wp2_with fail
      refine (hg _).mono ?_
      rintro e w1 ⟨rfl, hb1⟩
      have b1 := first_of_two hb1
      have b2 := second_of_two hb1
      obtain ⟨y0, y1, y2, y3⟩ := cells4 b1
      go_wp2_with fail
      clear y0 y1 y2 y3
      refine (hs _).mono ?_
      rintro e w2 ⟨rfl, hb2⟩
      replace b1 := kept_row hb2 b1
      replace b2 := kept_row hb2 b2
      have hz1 := hb1.size
      rw [World.size_alloc, World.size_alloc] at hz1
      have hbb := (below_two hb1).trans (hb2.mono (by omega))
      obtain ⟨y0, y1, y2, y3⟩ := cells4 b1
      obtain ⟨t0, t1, t2, t3⟩ := cells4 b2
      have f1 := frozen_row b1
      have f2 := frozen_row b2
      have m1 : (w2.setCell ⟨w.heap.size, 2, none⟩ (.int .i64 (l - 1))).heap[w.heap.size]? = some (.cells #[.int .i64 q, .int .i64 p, .int .i64 (l - 1), .int .i64 f] 54 (0, 0)) := by
        simp [World.setCell, Array.getElem?_modify, b1]
      obtain ⟨_, _, m2, _⟩ := cells4 m1
      have n1 : (w2.setCell ⟨w.heap.size, 2, none⟩ (.int .i64 (l - 1))).heap[w.heap.size + 1]? = _ := (Below.heap_setCell _ _ _ _ (by simp)).trans b2
      obtain ⟨r0, r1, r2, r3⟩ := cells4 (blk4 n1 (.int .i64 q) (.int .i64 p) (.int .i64 (l - 1)) (.int .i64 f))
      clear m1 n1 b1 b2
      go_wp2_with fail
      refine bodyPost_ret (v := .tuple #[acc q p (l - 1) f, .int .i64 0]) (by simp [results, Try.results43, go_sem, r0, r1, r2, r3]) rfl ⟨rfl, ?_⟩
      repeat (first | exact hbb | refine Below.setCell ?_ (by simp) _)
  · rw [free_good h] at hg
    rw [show spentB q p l f = false from decide_eq_false fun g => free_not_full h g.1] at hs
    rw [show useP q p l f = ((q, p, l, f), 0) from by unfold useP; rw [if_neg (free_not_full h), if_pos h]]
    obtain ⟨rfl, rfl, rfl, rfl⟩ := h
    go_enter Try.func43, Try.ntmps43
    go_wp2_with fail
    refine (hg _).mono ?_
    rintro e w1 ⟨rfl, hb1⟩
    have b1 := first_of_two hb1
    have b2 := second_of_two hb1
    obtain ⟨y0, y1, y2, y3⟩ := cells4 b1
    go_wp2_with fail
    clear y0 y1 y2 y3
    refine (hs _).mono ?_
    rintro e w2 ⟨rfl, hb2⟩
    replace b1 := kept_row hb2 b1
    replace b2 := kept_row hb2 b2
    have hz1 := hb1.size
    rw [World.size_alloc, World.size_alloc] at hz1
    have hbb := (below_two hb1).trans (hb2.mono (by omega))
    obtain ⟨y0, y1, y2, y3⟩ := cells4 b1
    obtain ⟨t0, t1, t2, t3⟩ := cells4 b2
    have f2 := frozen_row b2
    obtain ⟨r0, r1, r2, r3⟩ := cells4 (blk4 b2 (.int .i64 0) (.int .i64 0) (.int .i64 0) (.int .i64 0))
    clear b1 b2
    go_wp2_with fail
    refine bodyPost_ret (v := .tuple #[acc 0 0 0 0, .int .i64 0]) (by simp [results, Try.results43, go_sem, r0, r1, r2, r3]) rfl ⟨rfl, ?_⟩
    repeat (first | exact hbb | refine Below.setCell ?_ (by simp) _)
  · rw [show useP q p l f = ((0, 0, 0, 0), 1) from by
      unfold useP
      rw [if_neg (fun g => by rw [full_good g] at h; cases h), if_neg (fun g => by rw [free_good g] at h; cases h)]]
    rw [h] at hg
    clear h hs
    go_enter Try.func43, Try.ntmps43
    go_wp2_with fail
    refine (hg _).mono ?_
    rintro e w1 ⟨rfl, hb1⟩
    have b2 := second_of_two hb1
    obtain ⟨t0, t1, t2, t3⟩ := cells4 b2
    have f2 := frozen_row b2
    obtain ⟨r0, r1, r2, r3⟩ := cells4 (blk4 b2 (.int .i64 0) (.int .i64 0) (.int .i64 0) (.int .i64 0))
    have hbb := below_two hb1
    clear b2
    go_wp2_with fail
    refine bodyPost_ret (v := .tuple #[acc 0 0 0 0, .int .i64 1]) (by simp [results, Try.results43, go_sem, r0, r1, r2, r3]) rfl ⟨rfl, ?_⟩
    repeat (first | exact hbb | refine Below.setCell ?_ (by simp) _)

end Go.Proofs.Ytjnmdkdgkjakoaa
