/- Contracts of package life and of the document's own states, as plain functions. -/
import Derived.Test.YtjnmdkdgkjakoaaRows
import Derived.WalkKit
import Derived.WalkSpells
import Derived.WalkLawsBesides
import Derived.Lib.Hide
namespace Go.Proofs.Ytjnmdkdgkjakoaa
open Go.RowKit
set_option linter.unusedVariables false
set_option linter.unusedSimpArgs false

/-- What a state becomes by an act; the error. -/
def nxt (s a : Int) : Int × Int :=
  if s < 0 ∨ 6 < s ∨ a < 1 ∨ 8 < a then (0, 1)
  else if (a = 1 ∧ s = 1) ∨ (a = 3 ∧ s = 3) ∨ (a = 5 ∧ s = 4) ∨ (a = 7 ∧ s = 5) then (2, 0)
  else if a = 2 ∧ s = 2 then (3, 0)
  else if a = 4 ∧ (s = 2 ∨ s = 3 ∨ s = 5) then (4, 0)
  else if a = 6 ∧ (s = 2 ∨ s = 3) then (5, 0)
  else if a = 8 ∧ 1 ≤ s ∧ s ≤ 5 then (6, 0)
  else (0, 4)

theorem nxt_out (s a : Int) (h : s < 0 ∨ 6 < s ∨ a < 1 ∨ 8 < a) : nxt s a = (0, 1) := by unfold nxt; rw [if_pos h]

/-- A pair of a call that leaves the world alone. -/
def Pair (F : Nat) (s a : Int) (w : World) : Prop :=
  Calls Try.prog F #[.int .i64 s, .int .i64 a] w fun e w' => e = .returned (.tuple #[.int .i64 (nxt s a).1, .int .i64 (nxt s a).2]) ∧ w = w'

set_option maxHeartbeats 4000000 in
theorem next_any (s a : Int) (w : World) : Pair 14 s a w := by
  unfold Pair
  by_cases h : s < 0 ∨ 6 < s ∨ a < 1 ∨ 8 < a
  · rw [nxt_out s a h]
    by_cases c1 : s < 0
    · clear h
      go_enter Try.func14, Try.ntmps14
      go_wp2
      go_ret2
      exact ⟨rfl, rfl⟩
    · by_cases c2 : 6 < s
      · clear h
        go_enter Try.func14, Try.ntmps14
        go_wp2
        go_ret2
        exact ⟨rfl, rfl⟩
      · by_cases c3 : a < 1
        · clear h
          go_enter Try.func14, Try.ntmps14
          go_wp2
          go_ret2
          exact ⟨rfl, rfl⟩
        · have c4 : 8 < a := by omega
          clear h
          go_enter Try.func14, Try.ntmps14
          go_wp2
          go_ret2
          exact ⟨rfl, rfl⟩
  · have hs : s = 0 ∨ s = 1 ∨ s = 2 ∨ s = 3 ∨ s = 4 ∨ s = 5 ∨ s = 6 := by omega
    have ha : a = 1 ∨ a = 2 ∨ a = 3 ∨ a = 4 ∨ a = 5 ∨ a = 6 ∨ a = 7 ∨ a = 8 := by omega
    clear h
    rcases hs with rfl | rfl | rfl | rfl | rfl | rfl | rfl <;>
      rcases ha with rfl | rfl | rfl | rfl | rfl | rfl | rfl | rfl
    all_goals as_aux_lemma =>
      go_enter Try.func14, Try.ntmps14
      go_wp2
      go_ret2
      exact ⟨rfl, rfl⟩

end Go.Proofs.Ytjnmdkdgkjakoaa
