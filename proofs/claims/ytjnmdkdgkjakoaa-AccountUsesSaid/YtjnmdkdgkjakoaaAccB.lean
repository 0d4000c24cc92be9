/- Contracts of package account: New, Use, Tick. -/
import Derived.Test.YtjnmdkdgkjakoaaAccA
import Derived.RegionTactic
import Derived.ChangeAlike
namespace Go.Proofs.Ytjnmdkdgkjakoaa
open Go.RowKit
set_option linter.unusedVariables false
set_option linter.unusedSimpArgs false

/-- An account as four numbers. -/
abbrev Four := Int × Int × Int × Int
abbrev accT (t : Four) : Value := acc t.1 t.2.1 t.2.2.1 t.2.2.2

def newP (q p : Int) : Four × Int := if goodB q p q 0 = true then ((q, p, q, 0), 0) else ((0, 0, 0, 0), 1)
def useP (q p l f : Int) : Four × Int :=
  if FullA q p l f then (if l = 0 then ((0, 0, 0, 0), 14) else ((q, p, l - 1, f), 0))
  else if FreeA q p l f then ((q, p, l, f), 0) else ((0, 0, 0, 0), 1)
def tickP (q p l f n : Int) : Four × Bool :=
  if FullA q p l f ∧ 0 < n then (if p - f ≤ n then ((q, p, q, (f + n % p) % p), true) else ((q, p, l, (f + n % p) % p), false))
  else ((q, p, l, f), false)

/-- A block of four cells, all written. -/
theorem blk4 {w1 : World} {b : Nat} {c0 c1 c2 c3 : Value} {T : TypeId} (h : w1.heap[b]? = some (.cells #[c0, c1, c2, c3] T (0, 0))) (v0 v1 v2 v3 : Value) :
    ((((w1.setCell ⟨b, 0, none⟩ v0).setCell ⟨b, 1, none⟩ v1).setCell ⟨b, 2, none⟩ v2).setCell ⟨b, 3, none⟩ v3).heap[b]? = some (.cells #[v0, v1, v2, v3] T (0, 0)) := by
  simp [World.setCell, Array.getElem?_modify, h]

theorem cells4 {w1 : World} {b : Nat} {c0 c1 c2 c3 : Value} {T : TypeId} (h : w1.heap[b]? = some (.cells #[c0, c1, c2, c3] T (0, 0))) :
    w1.cell? ⟨b, 0, none⟩ = some c0 ∧ w1.cell? ⟨b, 1, none⟩ = some c1 ∧ w1.cell? ⟨b, 2, none⟩ = some c2 ∧ w1.cell? ⟨b, 3, none⟩ = some c3 := by
  simp [World.cell?, h]

/-- A block that was made first, behind one more and a call that leaves it alone. -/
theorem first_of_two {w w1 : World} {A B : Obj} (hb : Below ((w.alloc A).alloc B).heap.size ((w.alloc A).alloc B) w1) : w1.heap[w.heap.size]? = some A := by
  rw [hb.block _ (by simp; omega), Below.heap_alloc _ _ _ (by simp)]
  exact heap_alloc_new w _

theorem second_of_two {w w1 : World} {A B : Obj} (hb : Below ((w.alloc A).alloc B).heap.size ((w.alloc A).alloc B) w1) : w1.heap[w.heap.size + 1]? = some B := by
  rw [hb.block _ (by simp)]
  have := heap_alloc_new (w.alloc A) B
  rwa [World.size_alloc] at this

theorem below_two {w w1 : World} {A B : Obj} (hb : Below ((w.alloc A).alloc B).heap.size ((w.alloc A).alloc B) w1) : Below w.heap.size w w1 :=
  (((Below.refl w.heap.size w).alloc (Nat.le_refl _) _).alloc (by simp) _).trans (hb.mono (by simp; omega))

set_option maxHeartbeats 1000000 in
theorem anew_any (q p : Int) (w : World) :
    Calls Try.prog 36 #[.int .i64 q, .int .i64 p] w fun e w' => e = .returned (.tuple #[accT (newP q p).1, .int .i64 (newP q p).2]) ∧ Below w.heap.size w w' := by
  have hg := agood_any q p q 0
  cases hb : goodB q p q 0 with
  | true =>
    rw [hb] at hg
    rw [show newP q p = ((q, p, q, 0), 0) from if_pos hb]
    clear hb
    go_enter Try.func36, Try.ntmps36
    go_wp2_with fail
    refine (hg _).mono ?_
    rintro e w1 ⟨rfl, hb1⟩
    obtain ⟨k1, k2⟩ := bcell hb1
    have hz1 := hb1.size
    go_wp2_with fail
    obtain ⟨r0, r1, r2, r3⟩ := cells4 (blk4 (first_of_two hb1) (.int .i64 q) (.int .i64 p) (.int .i64 q) (.int .i64 0))
    refine bodyPost_ret (v := .tuple #[acc q p q 0, .int .i64 0]) (by simp [results, Try.results36, go_sem, r0, r1, r2, r3]) rfl ⟨rfl, ?_⟩
    have hbb := below_two hb1
    repeat (first | exact hbb | refine Below.setCell ?_ (by simp) _)
  | false =>
    rw [hb] at hg
    rw [show newP q p = ((0, 0, 0, 0), 1) from if_neg (by rw [hb]; decide)]
    clear hb
    go_enter Try.func36, Try.ntmps36
    go_wp2_with fail
    refine (hg _).mono ?_
    rintro e w1 ⟨rfl, hb1⟩
    obtain ⟨k1, k2⟩ := bcell hb1
    have hz1 := hb1.size
    go_wp2_with fail
    obtain ⟨r0, r1, r2, r3⟩ := cells4 (blk4 (first_of_two hb1) (.int .i64 0) (.int .i64 0) (.int .i64 0) (.int .i64 0))
    refine bodyPost_ret (v := .tuple #[acc 0 0 0 0, .int .i64 1]) (by simp [results, Try.results36, go_sem, r0, r1, r2, r3]) rfl ⟨rfl, ?_⟩
    have hbb := below_two hb1
    repeat (first | exact hbb | refine Below.setCell ?_ (by simp) _)

theorem frozen_row {w1 : World} {b : Nat} {cs : Array Value} {T : TypeId} (h : w1.heap[b]? = some (.cells cs T (0, 0))) : ∀ i, w1.frozen? ⟨b, i, none⟩ = false := by
  intro i
  simp [World.frozen?, h]

theorem spent_full {q p l f : Int} (h : FullA q p l f) : spentB q p l f = decide (l = 0) := by
  unfold spentB
  exact decide_eq_decide.2 ⟨fun g => g.2, fun g => ⟨h, g⟩⟩

theorem free_not_full {q p l f : Int} (h : FreeA q p l f) : ¬ FullA q p l f := by unfold FreeA at h; unfold FullA; omega

/-- What lay there before still reads so behind a call that leaves it alone, wherever it lay. -/
theorem kept_row {W w1 : World} {b : Nat} {o : Obj} (hb : Below W.heap.size W w1) (h : W.heap[b]? = some o) : w1.heap[b]? = some o := by
  rw [hb.block b (Array.getElem?_eq_some_iff.1 h).1, h]

set_option maxHeartbeats 2000000 in
theorem ause_any (q p l f : Int) (w : World) (hl : -9223372036854775808 ≤ l) (hl2 : l ≤ 9223372036854775807) :
    Calls Try.prog 37 #[acc q p l f] w fun e w' => e = .returned (.tuple #[accT (useP q p l f).1, .int .i64 (useP q p l f).2]) ∧ Below w.heap.size w w' := by
  have hg := agood_any q p l f
  have hs := aspent_any q p l f
  have hf := afree_any q p l f
  rcases three q p l f with h | h | h
  · rw [full_good h] at hg
    rw [full_not_free h] at hf
    rw [spent_full h] at hs
    by_cases hl0 : l = 0
    · rw [decide_eq_true hl0] at hs
      rw [show useP q p l f = ((0, 0, 0, 0), 14) from by unfold useP; rw [if_pos h, if_pos hl0]]
      clear h hl0
      go_enter Try.func37, Try.ntmps37
      go_wp2_with fail
      refine (hg _).mono ?_
      rintro e w1 ⟨rfl, hb1⟩
      obtain ⟨k1, k2⟩ := bcell hb1
      have b1 := first_of_two hb1
      have b2 := second_of_two hb1
      have hz1 := hb1.size
      rw [World.size_alloc, World.size_alloc] at hz1
      go_wp2_with fail
      refine (hs _).mono ?_
      rintro e w2 ⟨rfl, hb2⟩
      obtain ⟨k3, k4⟩ := bcell hb2
      have hz2 := hb2.size
      obtain ⟨r0, r1, r2, r3⟩ := cells4 (blk4 (kept_row hb2 b2) (.int .i64 0) (.int .i64 0) (.int .i64 0) (.int .i64 0))
      have hz : w.heap.size + 1 < w1.heap.size := by omega
      go_wp2_with fail
      refine bodyPost_ret (v := .tuple #[acc 0 0 0 0, .int .i64 14]) (by simp [results, Try.results37, go_sem, r0, r1, r2, r3]) rfl ⟨rfl, ?_⟩
      have hbb := (below_two hb1).trans (hb2.mono (by omega))
      repeat (first | exact hbb | refine Below.setCell ?_ (by simp) _)
    · rw [decide_eq_false hl0] at hs
      rw [show useP q p l f = ((q, p, l - 1, f), 0) from by unfold useP; rw [if_pos h, if_neg hl0]]
      have hl1 : 1 ≤ l := by unfold FullA at h; omega
      clear h hl0
      go_enter Try.func37, Try.ntmps37
      go_wp2_with fail
      refine (hg _).mono ?_
      rintro e w1 ⟨rfl, hb1⟩
      obtain ⟨k1, k2⟩ := bcell hb1
      have b1 := first_of_two hb1
      have b2 := second_of_two hb1
      have hz1 := hb1.size
      rw [World.size_alloc, World.size_alloc] at hz1
      have hz : w.heap.size + 1 < w1.heap.size := by omega
      go_wp2_with fail
      refine (hs _).mono ?_
      rintro e w2 ⟨rfl, hb2⟩
      obtain ⟨k3, k4⟩ := bcell hb2
      have hz2 := hb2.size
      have hz' : w.heap.size + 1 < w2.heap.size := by omega
      replace b1 := kept_row hb2 b1
      replace b2 := kept_row hb2 b2
      obtain ⟨u0, u1, u2, u3⟩ := cells4 b1
      go_wp2_with fail
      refine (hf _).mono ?_
      rintro e w3 ⟨rfl, hb3⟩
      replace b1 := kept_row hb3 b1
      replace b2 := kept_row hb3 b2
      obtain ⟨y0, y1, y2, y3⟩ := cells4 b1
      obtain ⟨t0, t1, t2, t3⟩ := cells4 b2
      have f1 := frozen_row b1
      have f2 := frozen_row b2
      have hz3 := hb3.size
      have hbb := ((below_two hb1).trans (hb2.mono (by omega))).trans (hb3.mono (by omega))
      have m1 : (w3.setCell ⟨w.heap.size, 2, none⟩ (.int .i64 (l - 1))).heap[w.heap.size]? = some (.cells #[.int .i64 q, .int .i64 p, .int .i64 (l - 1), .int .i64 f] 32 (0, 0)) := by
        simp [World.setCell, Array.getElem?_modify, b1]
      obtain ⟨_, _, m2, _⟩ := cells4 m1
      have n1 : (w3.setCell ⟨w.heap.size, 2, none⟩ (.int .i64 (l - 1))).heap[w.heap.size + 1]? = _ := (Below.heap_setCell _ _ _ _ (by simp)).trans b2
      obtain ⟨r0, r1, r2, r3⟩ := cells4 (blk4 n1 (.int .i64 q) (.int .i64 p) (.int .i64 (l - 1)) (.int .i64 f))
      clear m1 n1 b1 b2 k1 k2 k3 k4
      go_wp2_with fail
      refine bodyPost_ret (v := .tuple #[acc q p (l - 1) f, .int .i64 0]) (by simp [results, Try.results37, go_sem, r0, r1, r2, r3]) rfl ⟨rfl, ?_⟩
      repeat (first | exact hbb | refine Below.setCell ?_ (by simp) _)
  · rw [free_good h] at hg
    rw [show freeB q p l f = true from decide_eq_true h] at hf
    rw [show spentB q p l f = false from decide_eq_false fun g => free_not_full h g.1] at hs
    rw [show useP q p l f = ((q, p, l, f), 0) from by unfold useP; rw [if_neg (free_not_full h), if_pos h]]
    clear h
    go_enter Try.func37, Try.ntmps37
    go_wp2_with fail
    refine (hg _).mono ?_
    rintro e w1 ⟨rfl, hb1⟩
    obtain ⟨k1, k2⟩ := bcell hb1
    have b1 := first_of_two hb1
    have b2 := second_of_two hb1
    have hz1 := hb1.size
    rw [World.size_alloc, World.size_alloc] at hz1
    have hz : w.heap.size + 1 < w1.heap.size := by omega
    go_wp2_with fail
    refine (hs _).mono ?_
    rintro e w2 ⟨rfl, hb2⟩
    have hz2 := hb2.size
    have hz' : w.heap.size + 1 < w2.heap.size := by omega
    replace b1 := kept_row hb2 b1
    replace b2 := kept_row hb2 b2
    obtain ⟨u0, u1, u2, u3⟩ := cells4 b1
    go_wp2_with fail
    refine (hf _).mono ?_
    rintro e w3 ⟨rfl, hb3⟩
    replace b1 := kept_row hb3 b1
    replace b2 := kept_row hb3 b2
    obtain ⟨y0, y1, y2, y3⟩ := cells4 b1
    obtain ⟨t0, t1, t2, t3⟩ := cells4 b2
    have f2 := frozen_row b2
    have hz3 := hb3.size
    have hbb := ((below_two hb1).trans (hb2.mono (by omega))).trans (hb3.mono (by omega))
    obtain ⟨r0, r1, r2, r3⟩ := cells4 (blk4 b2 (.int .i64 q) (.int .i64 p) (.int .i64 l) (.int .i64 f))
    clear b2 b1 k1 k2
    go_wp2_with fail
    refine bodyPost_ret (v := .tuple #[acc q p l f, .int .i64 0]) (by simp [results, Try.results37, go_sem, r0, r1, r2, r3]) rfl ⟨rfl, ?_⟩
    repeat (first | exact hbb | refine Below.setCell ?_ (by simp) _)
  · rw [show useP q p l f = ((0, 0, 0, 0), 1) from by
      unfold useP
      rw [if_neg (fun g => by rw [full_good g] at h; cases h), if_neg (fun g => by rw [free_good g] at h; cases h)]]
    rw [h] at hg
    clear h
    go_enter Try.func37, Try.ntmps37
    go_wp2_with fail
    refine (hg _).mono ?_
    rintro e w1 ⟨rfl, hb1⟩
    obtain ⟨k1, k2⟩ := bcell hb1
    have b2 := second_of_two hb1
    have hz1 := hb1.size
    obtain ⟨r0, r1, r2, r3⟩ := cells4 (blk4 b2 (.int .i64 0) (.int .i64 0) (.int .i64 0) (.int .i64 0))
    have hbb := below_two hb1
    clear b2
    go_wp2_with fail
    refine bodyPost_ret (v := .tuple #[acc 0 0 0 0, .int .i64 1]) (by simp [results, Try.results37, go_sem, r0, r1, r2, r3]) rfl ⟨rfl, ?_⟩
    repeat (first | exact hbb | refine Below.setCell ?_ (by simp) _)

end Go.Proofs.Ytjnmdkdgkjakoaa
