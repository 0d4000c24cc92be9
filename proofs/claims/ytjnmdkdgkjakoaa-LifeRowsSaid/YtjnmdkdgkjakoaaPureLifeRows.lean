/- LifeRows holds for every list of acts: what is gone stays so, what is refused changes nothing, and just what may befall does. -/
import Derived.Test.YtjnmdkdgkjakoaaPLifeRowsx3
namespace Go.Proofs.Ytjnmdkdgkjakoaa.Pure
open Go.RowKit Go.Proofs.Ytjnmdkdgkjakoaa.PLifeRows Go.Proofs.YtjnmdkdgkjakoaaW.PrintWords Go.Proofs.YtjnmdkdgkjakoaaW.PrintLast

def RowOk (s a : Int) (r : Int × Int) : Prop :=
  (r.2 = 0 ∧ 2 ≤ r.1 ∧ r.1 ≤ 6 ∧ s ≠ 6 ∧ (r.1 = 3 → s = 2) ∧ ((a == 8) != (r.1 == 6)) = false) ∨
  (r.2 = 1 ∧ r.1 = 0 ∧ ¬ (1 ≤ a ∧ a ≤ 8)) ∨ (r.2 = 4 ∧ r.1 = 0 ∧ 1 ≤ a ∧ a ≤ 8)

instance (s a : Int) (r : Int × Int) : Decidable (RowOk s a r) := by unfold RowOk; infer_instance

theorem row_in (s a : Int) (h1 : 1 ≤ s) (h2 : s ≤ 6) (h3 : 1 ≤ a) (h4 : a ≤ 8) :
    ∃ r, life_Next.f 10 s a = some r ∧ RowOk s a r := by
  have hs : s = 1 ∨ s = 2 ∨ s = 3 ∨ s = 4 ∨ s = 5 ∨ s = 6 := by omega
  have ha : a = 1 ∨ a = 2 ∨ a = 3 ∨ a = 4 ∨ a = 5 ∨ a = 6 ∨ a = 7 ∨ a = 8 := by omega
  rcases hs with rfl | rfl | rfl | rfl | rfl | rfl <;>
    rcases ha with rfl | rfl | rfl | rfl | rfl | rfl | rfl | rfl <;> exact ⟨_, rfl, by decide⟩

theorem row_any (k : Nat) (hk : 10 ≤ k) (s a : Int) (h1 : 1 ≤ s) (h2 : s ≤ 6) :
    ∃ r, life_Next.f k s a = some r ∧ RowOk s a r := by
  by_cases h : 1 ≤ a ∧ a ≤ 8
  · obtain ⟨r, hr, hp⟩ := row_in s a h1 h2 h.1 h.2
    exact ⟨r, at_rounds (life_Next.mono s a) hk hr, hp⟩
  · refine ⟨(0, 1), at_rounds (life_Next.mono s a) hk ?_, ?_⟩
    · unfold life_Next.f
      rw [if_neg (by omega), if_neg (by omega)]
      by_cases hl : a < 1
      · rw [if_pos hl]; rfl
      · rw [if_neg hl, decide_eq_true (by omega)]; rfl
    · exact .inr (.inl ⟨rfl, rfl, h⟩)

theorem ways_gone (k : Nat) (hk : 40 ≤ k) : life_Ways.f k 6 = some [] :=
  at_rounds (life_Ways.mono 6) hk (by decide +kernel : life_Ways.f 40 6 = some [])

theorem rows_loop (l : List Int) (hl : l.length ≤ 200) (d : Nat) : ∀ (k : Nat) (s i : Int), 0 ≤ i → i ≤ l.length → (l.length : Int) - i = d → 2 * d + 50 < k →
    1 ≤ s → s ≤ 6 → stadholderlaw9_LifeRows.l0 k l s (s == 6) i = some true := by
  induction d with
  | zero =>
    intro k s i h0 h1 hd hk hs1 hs2
    obtain ⟨k, rfl⟩ : ∃ m, k = m + 1 := ⟨k - 1, by omega⟩
    simp only [stadholderlaw9_LifeRows.l0]
    rw [if_neg (by omega)]
    by_cases h6 : s = 6
    · subst h6
      rw [if_pos (by decide), ways_gone k (by omega)]
      rfl
    · rw [if_neg (by simp [h6])]
  | succ d ih =>
    intro k s i h0 h1 hd hk hs1 hs2
    obtain ⟨k, rfl⟩ : ∃ m, k = m + 1 := ⟨k - 1, by omega⟩
    obtain ⟨r, hr, hp⟩ := row_any k (by omega) s (rd l i) hs1 hs2
    have hw : wrap64 (i + 1) = i + 1 := by unfold wrap64; omega
    simp only [stadholderlaw9_LifeRows.l0]
    rw [if_pos (by omega), if_pos h0, hr]
    simp only [Option.bind_some]
    rw [hw]
    rcases hp with h | h | h
    · obtain ⟨g1, g2, g3, g4, g5, g6⟩ := h
      have hstep := ih k r.1 (i + 1) (by omega) (by omega) (by omega) (by omega) (by omega) (by omega)
      rw [if_pos g1, if_neg (by simp [g4]), if_neg (by omega), if_neg (by omega), g6, hstep]
      by_cases h3 : r.1 = 3
      · rw [if_pos h3, if_pos (g5 h3)]; rfl
      · rw [if_neg h3]; rfl
    · obtain ⟨g1, g2, g3⟩ := h
      obtain ⟨k, rfl⟩ : ∃ m, k = m + 1 := ⟨k - 1, by omega⟩
      have hstep := ih k s (i + 1) (by omega) (by omega) (by omega) (by omega) hs1 hs2
      have hj : stadholderlaw9_LifeRows.j1 (k + 1) l s (s == 6) i false = some true := by
        simp only [stadholderlaw9_LifeRows.j1]; rw [hw, hstep]; rfl
      rw [if_neg (by omega), if_pos g1, if_pos g2]
      by_cases hl : rd l i < 1
      · rw [if_pos hl, g1]; exact hj
      · rw [if_neg hl, g1, decide_eq_true (show rd l i > 8 by omega)]; exact hj
    · obtain ⟨g1, g2, g3, g4⟩ := h
      obtain ⟨k, rfl⟩ : ∃ m, k = m + 1 := ⟨k - 1, by omega⟩
      have hstep := ih k s (i + 1) (by omega) (by omega) (by omega) (by omega) hs1 hs2
      have hj : stadholderlaw9_LifeRows.j1 (k + 1) l s (s == 6) i false = some true := by
        simp only [stadholderlaw9_LifeRows.j1]; rw [hw, hstep]; rfl
      rw [if_neg (by omega), if_neg (by omega), if_pos g1, if_pos g2, if_neg (by omega), g1, decide_eq_false (show ¬ rd l i > 8 by omega)]
      exact hj

theorem LifeRows : stadholderlaw9_LifeRows.Pure := by
  intro l _ _ _
  refine ⟨600, ?_⟩
  unfold stadholderlaw9_LifeRows.f
  have ha : stadholderlaw9_awake.f 600 = some true := by decide +kernel
  rw [ha]
  simp only [Option.bind_some, if_true]
  by_cases h : (l.length : Int) > 200
  · rw [if_pos h]
  · rw [if_neg h]
    exact rows_loop l (by omega) l.length 600 1 0 (by omega) (by omega) (by omega) (by omega) (by omega) (by omega)

end Go.Proofs.Ytjnmdkdgkjakoaa.Pure
