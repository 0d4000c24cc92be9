/- Plain laws of ticks: so many at once are as in two parts. -/
import Derived.Test.YtjnmdkdgkjakoaaAccD
namespace Go.Proofs.Ytjnmdkdgkjakoaa
open Go.RowKit
set_option linter.unusedVariables false
set_option linter.unusedSimpArgs false

theorem tick_full {q p l f : Int} (h : FullA q p l f) (k : Int) (hk : 0 ≤ k) :
    tickP q p l f k = ((q, p, if p - f ≤ k then q else l, (f + k) % p), decide (p - f ≤ k)) := by
  unfold tickP
  by_cases h0 : 0 < k
  · rw [if_pos ⟨h, h0⟩]
    have e : (f + k % p) % p = (f + k) % p := by simp
    by_cases h1 : p - f ≤ k
    · rw [if_pos h1, if_pos h1, e, decide_eq_true h1]
    · rw [if_neg h1, if_neg h1, e, decide_eq_false h1]
  · obtain rfl : k = 0 := by omega
    have hf := h
    unfold FullA at hf
    rw [if_neg (by omega), if_neg (by omega), decide_eq_false (by omega), Int.add_zero, Int.emod_eq_of_lt (by omega) (by omega)]

theorem tick_idle {q p l f : Int} (h : ¬ FullA q p l f) (k : Int) : tickP q p l f k = ((q, p, l, f), false) := by
  unfold tickP
  rw [if_neg (fun g => h g.1)]

theorem tick_keeps {q p l f : Int} (h : FullA q p l f) (k : Int) (hk : 0 ≤ k) : FullA q p (if p - f ≤ k then q else l) ((f + k) % p) := by
  unfold FullA at h ⊢
  have e1 := Int.emod_nonneg (f + k) (show p ≠ 0 by omega)
  have e2 := Int.emod_lt_of_pos (f + k) (show 0 < p by omega)
  split <;> omega

/-- In two parts. -/
theorem tick_two (q p l f m d : Int) (hm : 0 ≤ m) (hd : 0 ≤ d) :
    ∃ c, tickP (tickP q p l f m).1.1 (tickP q p l f m).1.2.1 (tickP q p l f m).1.2.2.1 (tickP q p l f m).1.2.2.2 d = ((tickP q p l f (m + d)).1, c) ∧
      ((tickP q p l f m).2 || c) = (tickP q p l f (m + d)).2 := by
  by_cases h : FullA q p l f
  · rw [tick_full h m hm, tick_full h (m + d) (by omega)]
    simp only
    rw [tick_full (tick_keeps h m hm) d hd]
    have e : ((f + m) % p + d) % p = (f + (m + d)) % p := by simp [Int.add_assoc]
    rw [e]
    unfold FullA at h
    by_cases h1 : p - f ≤ m
    · refine ⟨decide (p - (f + m) % p ≤ d), ?_, ?_⟩
      · rw [if_pos h1, if_pos (show p - f ≤ m + d by omega)]
        simp
      · rw [decide_eq_true h1, decide_eq_true (show p - f ≤ m + d by omega)]
        rfl
    · have e2 : (f + m) % p = f + m := Int.emod_eq_of_lt (by omega) (by omega)
      refine ⟨decide (p - f ≤ m + d), ?_, ?_⟩
      · rw [e2, if_neg h1]
        have e3 : (p - (f + m) ≤ d) ↔ (p - f ≤ m + d) := by omega
        simp only [e3]
      · rw [decide_eq_false h1]
        rfl
  · rw [tick_idle h m, tick_idle h (m + d)]
    simp only
    rw [tick_idle h d]
    exact ⟨_, rfl, rfl⟩

end Go.Proofs.Ytjnmdkdgkjakoaa
