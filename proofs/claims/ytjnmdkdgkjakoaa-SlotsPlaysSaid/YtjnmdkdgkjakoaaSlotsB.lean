/- Contracts of package slots: New, List, Len; and of the law's own 'ints'. -/
import Derived.Test.YtjnmdkdgkjakoaaSlotsA
import Derived.Deep.QuietTactic
import Derived.BigQuiet
namespace Go.Proofs.Ytjnmdkdgkjakoaa
open Go.RowKit
set_option linter.unusedVariables false
set_option linter.unusedSimpArgs false

/-- So many places, all free, none ever given out. -/
def fresh (m : Nat) : List (Int × Bool) := List.replicate m (0, false)

theorem fresh_length (m : Nat) : (fresh m).length = m := by simp [fresh]
theorem fresh_get (m j : Nat) : (fresh m).getD j default = (0, false) := by
  simp only [fresh, List.getD_eq_getElem?_getD, List.getElem?_replicate]
  split <;> rfl

theorem cellsOf_fresh (m : Nat) : (cellsOf (fresh m)).toArray = madeCells #[.int .i64 0, .bool false] (m * 2) := by
  apply Array.ext_getElem?
  intro j
  have hl := cellsOf_length (fresh m)
  rw [fresh_length] at hl
  by_cases hj : j < m * 2
  · have e : (madeCells #[.int .i64 0, .bool false] (m * 2))[j]? = some (if j % 2 = 0 then .int .i64 0 else .bool false) := by
      rcases Nat.mod_two_eq_zero_or_one j with h | h <;> simp [madeCells, hj, h]
    rw [e, List.getElem?_toArray]
    have hi : j / 2 < (fresh m).length := by rw [fresh_length]; omega
    rcases Nat.mod_two_eq_zero_or_one j with h | h
    · have := cellsOf_turn (fresh m) (j / 2) hi
      rw [show j / 2 * 2 = j from by omega, fresh_get] at this
      rw [this, if_pos h]
    · have := cellsOf_taken (fresh m) (j / 2) hi
      rw [show j / 2 * 2 + 1 = j from by omega, fresh_get] at this
      rw [this, if_neg (by omega)]
  · rw [Array.getElem?_eq_none (by simp [hl]; omega), Array.getElem?_eq_none (by simp [size_madeCells]; omega)]

theorem make66 (c : Int) (h0 : 0 ≤ c) (h1 : c ≤ 64) (W : World) :
    (Instr.makeSlice 66 (.int .i64 c) (.int .i64 c)).run Try.prog W = .ok (.slice (some ⟨W.heap.size, 0, none⟩) c.toNat c.toNat) (W.alloc (.cells (cellsOf (fresh c.toNat)).toArray 71)) := by
  obtain ⟨i, hi, hz, hs, hb⟩ := info_parts info71
  have := run_make (P := Try.prog) W 66 71 i _ Try.underlying66 hi hz .i64 .i64 c c h0 (Int.le_refl _) (by rw [hb]; omega) (by omega)
  rw [hs] at this
  rw [this, cellsOf_fresh]
  rfl

/-- How many places New makes. -/
def room (n : Int) : Nat := if n < 1 then 1 else if 64 < n then 64 else n.toNat

theorem room_le (n : Int) : room n ≤ 64 := by unfold room; split; omega; split <;> omega

theorem slots_at_new (w : World) (m : Nat) :
    SlotsAt ((w.alloc (.cells (cellsOf (fresh m)).toArray 71)).alloc (.cells #[.slice (some ⟨w.heap.size, 0, none⟩) m m] 68)) (w.heap.size + 1) w.heap.size (fresh m) := by
  refine ⟨?_, by omega, 71, ?_⟩
  · have := World.cell?_alloc_new (w.alloc (.cells (cellsOf (fresh m)).toArray 71)) #[.slice (some ⟨w.heap.size, 0, none⟩) m m] 68 0
    rw [World.size_alloc] at this
    rw [this, fresh_length]
    rfl
  · rw [Below.heap_alloc _ _ _ (by simp)]
    exact heap_alloc_new w _

set_option maxHeartbeats 400000 in
theorem new_any (n : Int) (w : World) (h1 : -9223372036854775808 ≤ n) (h2 : n ≤ 9223372036854775807) :
    Calls Try.prog 23 #[.int .i64 n] w fun e w' => e = .returned (.pointer (some ⟨w.heap.size + 1, 0, none⟩)) ∧
      SlotsAt w' (w.heap.size + 1) w.heap.size (fresh (room n)) ∧ w'.heap.size = w.heap.size + 2 ∧ Below w.heap.size w w' := by
  unfold room
  by_cases c1 : n < 1
  · rw [if_pos c1]
    have hm := make66 1 (by omega) (by omega)
    have HF := slots_at_new w 1
    rw [show Int.toNat 1 = 1 from rfl] at hm
    generalize hx : (cellsOf (fresh 1)).toArray = X at hm HF
    clear hx
    go_enter Try.func23, Try.ntmps23
    go_wp2
    go_ret
    exact ⟨rfl, by simpa using HF, by simp, ((Below.refl _ _).alloc (Nat.le_refl _) _).alloc (by simp) _⟩
  · rw [if_neg c1]
    by_cases c2 : 64 < n
    · rw [if_pos c2]
      have hm := make66 64 (by omega) (by omega)
      have HF := slots_at_new w 64
      rw [show Int.toNat 64 = 64 from rfl] at hm
      generalize hx : (cellsOf (fresh 64)).toArray = X at hm HF
      clear hx
      go_enter Try.func23, Try.ntmps23
      go_wp2
      go_ret
      exact ⟨rfl, by simpa using HF, by simp, ((Below.refl _ _).alloc (Nat.le_refl _) _).alloc (by simp) _⟩
    · rw [if_neg c2]
      have hm := make66 n (by omega) (by omega)
      have HF := slots_at_new w n.toNat
      generalize hx : (cellsOf (fresh n.toNat)).toArray = X at hm HF
      clear hx
      go_enter Try.func23, Try.ntmps23
      go_wp2
      go_ret
      exact ⟨rfl, by simpa using HF, by simp, ((Below.refl _ _).alloc (Nat.le_refl _) _).alloc (by simp) _⟩

end Go.Proofs.Ytjnmdkdgkjakoaa
