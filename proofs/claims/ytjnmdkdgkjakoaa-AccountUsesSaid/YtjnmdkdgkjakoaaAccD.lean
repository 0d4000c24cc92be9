/- The accounts' laws' own start, walked. -/
import Derived.Test.YtjnmdkdgkjakoaaAccC
namespace Go.Proofs.Ytjnmdkdgkjakoaa
open Go.RowKit
set_option linter.unusedVariables false
set_option linter.unusedSimpArgs false

/-- Block b holds this account. -/
def AccAt (w : World) (b : Nat) (q p l f : Int) : Prop := w.heap[b]? = some (.cells #[.int .i64 q, .int .i64 p, .int .i64 l, .int .i64 f] 32 (0, 0))

theorem AccAt.cells {w : World} {b : Nat} {q p l f : Int} (h : AccAt w b q p l f) :
    w.cell? ⟨b, 0, none⟩ = some (.int .i64 q) ∧ w.cell? ⟨b, 1, none⟩ = some (.int .i64 p) ∧ w.cell? ⟨b, 2, none⟩ = some (.int .i64 l) ∧ w.cell? ⟨b, 3, none⟩ = some (.int .i64 f) := cells4 h

theorem AccAt.new (w : World) (q p l f : Int) : AccAt (w.alloc (.cells #[.int .i64 q, .int .i64 p, .int .i64 l, .int .i64 f] 32)) w.heap.size q p l f := heap_alloc_new w _

theorem AccAt.kept {W w1 : World} {b : Nat} {q p l f : Int} (h : AccAt W b q p l f) (hb : Below W.heap.size W w1) : AccAt w1 b q p l f := kept_row hb h

theorem AccAt.lt {W : World} {b : Nat} {q p l f : Int} (h : AccAt W b q p l f) : b < W.heap.size := (Array.getElem?_eq_some_iff.1 h).1

theorem AccAt.alloc {w : World} {b : Nat} {q p l f : Int} (h : AccAt w b q p l f) (o : Obj) : AccAt (w.alloc o) b q p l f :=
  (Below.heap_alloc _ _ _ h.lt).trans h

/-- Written anew, as a whole. -/
theorem AccAt.put {w : World} {b : Nat} {q p l f : Int} (h : AccAt w b q p l f) (q' p' l' f' : Int) :
    AccAt ((((w.setCell ⟨b, 0, none⟩ (.int .i64 q')).setCell ⟨b, 1, none⟩ (.int .i64 p')).setCell ⟨b, 2, none⟩ (.int .i64 l')).setCell ⟨b, 3, none⟩ (.int .i64 f')) b q' p' l' f' := blk4 h _ _ _ _

theorem AccAt.apart {w : World} {b c : Nat} {q p l f : Int} (h : AccAt w b q p l f) (hne : b ≠ c) (v0 v1 v2 v3 : Value) :
    AccAt ((((w.setCell ⟨c, 0, none⟩ v0).setCell ⟨c, 1, none⟩ v1).setCell ⟨c, 2, none⟩ v2).setCell ⟨c, 3, none⟩ v3) b q p l f := by
  unfold AccAt
  rw [Below.heap_setCell _ _ _ _ hne, Below.heap_setCell _ _ _ _ hne, Below.heap_setCell _ _ _ _ hne, Below.heap_setCell _ _ _ _ hne]
  exact h

theorem AccAt.free {w : World} {b : Nat} {q p l f : Int} (h : AccAt w b q p l f) : ∀ i, w.frozen? ⟨b, i, none⟩ = false := frozen_row h

theorem below_put {w w1 : World} {B b : Nat} (h : Below B w w1) (hB : B ≤ b) (v0 v1 v2 v3 : Value) :
    Below B w ((((w1.setCell ⟨b, 0, none⟩ v0).setCell ⟨b, 1, none⟩ v1).setCell ⟨b, 2, none⟩ v2).setCell ⟨b, 3, none⟩ v3) :=
  (((h.setCell hB _).setCell hB _).setCell hB _).setCell hB _

set_option maxHeartbeats 1000000 in
theorem awake8_any (w : World) : Calls Try.prog 20 #[] w fun e w' => e = .returned (.bool true) ∧ Below w.heap.size w w' := by
  go_enter Try.func20, Try.ntmps20
  go_wp2_with fail
  refine (anew_any 2 5 w).mono ?_
  rw [show newP 2 5 = ((2, 5, 2, 0), 0) from by decide]
  rintro e w1 ⟨rfl, hb⟩
  have ha := AccAt.new w1 2 5 2 0
  have hs := hb.size
  obtain ⟨s, HS⟩ : ∃ s, Hid (w1.heap.size = s) := ⟨_, Lib.hid rfl⟩
  have hB : w.heap.size ≤ s := by rw [← HS.out]; exact hb.size
  replace hb := hb.alloc hs (.cells #[.int .i64 2, .int .i64 5, .int .i64 2, .int .i64 0] 32)
  obtain ⟨W1, HW1⟩ : ∃ W, Hid (w1.alloc (.cells #[.int .i64 2, .int .i64 5, .int .i64 2, .int .i64 0] 32) = W) := ⟨_, Lib.hid rfl⟩
  rw [HW1.out] at ha hb
  rw [HS.out] at ha
  go_wp2_with fail
  rw [HW1.out, HS.out]
  refine (ause_any 2 5 2 0 W1 (by omega) (by omega)).mono ?_
  rw [show useP 2 5 2 0 = ((2, 5, 1, 0), 0) from by decide]
  rintro e w2 ⟨rfl, hb2⟩
  replace ha := ha.kept hb2
  replace hb := hb.trans (hb2.mono hb.size)
  obtain ⟨c0, c1, c2, c3⟩ := ha.cells
  have f1 := ha.free
  go_wp2_with fail
  clear c0 c1 c2 c3 f1
  replace ha := ha.put 2 5 1 0
  replace hb := below_put hb hB (.int .i64 2) (.int .i64 5) (.int .i64 1) (.int .i64 0)
  refine (ause_any 2 5 1 0 _ (by omega) (by omega)).mono ?_
  rw [show useP 2 5 1 0 = ((2, 5, 0, 0), 0) from by decide]
  rintro e w3 ⟨rfl, hb3⟩
  replace ha := ha.kept hb3
  replace hb := hb.trans (hb3.mono hb.size)
  obtain ⟨c0, c1, c2, c3⟩ := ha.cells
  have f1 := ha.free
  go_wp2_with fail
  clear c0 c1 c2 c3 f1
  replace ha := ha.put 2 5 0 0
  replace hb := below_put hb hB (.int .i64 2) (.int .i64 5) (.int .i64 0) (.int .i64 0)
  refine (atick_any 2 5 0 0 5 _ (by omega) (by omega)).mono ?_
  rw [show tickP 2 5 0 0 5 = ((2, 5, 2, 0), true) from by decide]
  rintro e w4 ⟨rfl, hb4⟩
  replace ha := ha.kept hb4
  replace hb := hb.trans (hb4.mono hb.size)
  have hs := hb.size
  have hlt := ha.lt
  have hbb := AccAt.new w4 2 5 2 0
  replace ha := ha.alloc (.cells #[.int .i64 2, .int .i64 5, .int .i64 2, .int .i64 0] 32)
  replace hb := hb.alloc hs (.cells #[.int .i64 2, .int .i64 5, .int .i64 2, .int .i64 0] 32)
  obtain ⟨c0, c1, c2, c3⟩ := ha.cells
  go_wp2_with fail
  clear c0 c1 c2 c3
  refine (aspent_any 2 5 0 0 _).mono ?_
  rw [show spentB 2 5 0 0 = true from by decide]
  rintro e w5 ⟨rfl, hb5⟩
  replace hbb := hbb.kept hb5
  replace hb := hb.trans (hb5.mono hb.size)
  obtain ⟨d0, d1, d2, d3⟩ := hbb.cells
  go_wp2
  go_ret
  exact ⟨rfl, hb⟩

end Go.Proofs.Ytjnmdkdgkjakoaa
