/- Contract of the document's own NextState, as a plain function. -/
import Derived.Test.YtjnmdkdgkjakoaaLifeA
namespace Go.Proofs.Ytjnmdkdgkjakoaa
open Go.RowKit
set_option linter.unusedVariables false
set_option linter.unusedSimpArgs false

set_option maxHeartbeats 4000000 in
theorem state_any (s a : Int) (w : World) : Pair 16 s a w := by
  unfold Pair
  by_cases h : s < 0 ∨ 6 < s ∨ a < 1 ∨ 8 < a
  · rw [nxt_out s a h]
    by_cases c1 : s < 0
    · clear h
      go_enter Try.func16, Try.ntmps16
      go_wp2
      go_ret2
      exact ⟨rfl, rfl⟩
    · by_cases c2 : 6 < s
      · clear h
        go_enter Try.func16, Try.ntmps16
        go_wp2
        go_ret2
        exact ⟨rfl, rfl⟩
      · by_cases c3 : a < 1
        · clear h
          go_enter Try.func16, Try.ntmps16
          go_wp2
          go_ret2
          exact ⟨rfl, rfl⟩
        · have c4 : 8 < a := by omega
          clear h
          go_enter Try.func16, Try.ntmps16
          go_wp2
          go_ret2
          exact ⟨rfl, rfl⟩
  · have hs : s = 0 ∨ s = 1 ∨ s = 2 ∨ s = 3 ∨ s = 4 ∨ s = 5 ∨ s = 6 := by omega
    have ha : a = 1 ∨ a = 2 ∨ a = 3 ∨ a = 4 ∨ a = 5 ∨ a = 6 ∨ a = 7 ∨ a = 8 := by omega
    clear h
    rcases hs with rfl | rfl | rfl | rfl | rfl | rfl | rfl <;>
      rcases ha with rfl | rfl | rfl | rfl | rfl | rfl | rfl | rfl
    all_goals as_aux_lemma =>
      go_enter Try.func16, Try.ntmps16
      go_wp2
      go_ret2
      exact ⟨rfl, rfl⟩

end Go.Proofs.Ytjnmdkdgkjakoaa
