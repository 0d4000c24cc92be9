/- Contracts of package account, as plain functions on the four numbers. -/
import Derived.Test.YtjnmdkdgkjakoaaRows
import Derived.WalkKit
import Derived.WalkSpells
import Derived.WalkLawsBesides
import Derived.Lib.Hide
namespace Go.Proofs.Ytjnmdkdgkjakoaa
open Go.RowKit
set_option linter.unusedVariables false
set_option linter.unusedSimpArgs false

/-- An account as a value. -/
abbrev acc (q p l f : Int) : Value := .agg #[.int .i64 q, .int .i64 p, .int .i64 l, .int .i64 f]

def FreeA (q p l f : Int) : Prop := q = 0 ∧ p = 0 ∧ l = 0 ∧ f = 0
def FullA (q p l f : Int) : Prop := 1 ≤ q ∧ q ≤ 1073741824 ∧ 1 ≤ p ∧ p ≤ 1073741824 ∧ 0 ≤ l ∧ l ≤ q ∧ 0 ≤ f ∧ f < p
instance (q p l f : Int) : Decidable (FreeA q p l f) := by unfold FreeA; infer_instance
instance (q p l f : Int) : Decidable (FullA q p l f) := by unfold FullA; infer_instance

def goodB (q p l f : Int) : Bool := decide (FreeA q p l f ∨ FullA q p l f)
def freeB (q p l f : Int) : Bool := decide (FreeA q p l f)
def spentB (q p l f : Int) : Bool := decide (FullA q p l f ∧ l = 0)
def nextI (q p l f : Int) : Int := if FullA q p l f then p - f else 0

theorem ret_bool {a b : Bool} (h : a = b) : Ending.returned (.bool a) = .returned (.bool b) := by rw [h]

theorem yes {P : Prop} [Decidable P] (h : P) : true = decide P := (decide_eq_true h).symm
theorem no {P : Prop} [Decidable P] (h : ¬ P) : false = decide P := (decide_eq_false h).symm

theorem below_one (w : World) (o : Obj) : Below w.heap.size w (w.alloc o) := (Below.refl _ _).alloc (Nat.le_refl _) _

set_option maxHeartbeats 1000000 in
theorem afree_any (q p l f : Int) (w : World) :
    Calls Try.prog 48 #[acc q p l f] w fun e w' => e = .returned (.bool (freeB q p l f)) ∧ Below w.heap.size w w' := by
  go_enter Try.func48, Try.ntmps48
  go_wp2
  all_goals
    go_ret
    exact ⟨ret_bool (by first | exact yes (by unfold FreeA; omega) | exact no (by unfold FreeA; omega)), below_one _ _⟩

set_option maxHeartbeats 4000000 in
theorem agood_any (q p l f : Int) (w : World) :
    Calls Try.prog 40 #[acc q p l f] w fun e w' => e = .returned (.bool (goodB q p l f)) ∧ Below w.heap.size w w' := by
  go_enter Try.func40, Try.ntmps40
  go_wp2
  all_goals
    go_ret
    exact ⟨ret_bool (by first | exact yes (by unfold FreeA FullA; omega) | exact no (by unfold FreeA FullA; omega) | exact decide_eq_decide.2 (by unfold FreeA FullA; omega)), below_one _ _⟩

theorem good_of (q p l f : Int) : goodB q p l f = (freeB q p l f || decide (FullA q p l f)) := by
  unfold goodB freeB
  by_cases h1 : FreeA q p l f <;> by_cases h2 : FullA q p l f <;> simp [h1, h2]

theorem full_not_free {q p l f : Int} (h : FullA q p l f) : freeB q p l f = false := by
  unfold freeB
  exact decide_eq_false (by unfold FullA at h; unfold FreeA; omega)

theorem full_good {q p l f : Int} (h : FullA q p l f) : goodB q p l f = true := decide_eq_true (.inr h)
theorem free_good {q p l f : Int} (h : FreeA q p l f) : goodB q p l f = true := decide_eq_true (.inl h)

/-- Three kinds of accounts: with bounds, without, such as may not be. -/
theorem three (q p l f : Int) : FullA q p l f ∨ FreeA q p l f ∨ goodB q p l f = false := by
  by_cases h1 : FullA q p l f
  · exact .inl h1
  · by_cases h2 : FreeA q p l f
    · exact .inr (.inl h2)
    · exact .inr (.inr (decide_eq_false (by rintro (h | h) <;> contradiction)))

/-- What lay there reads as before, and bears the marks that it bore. -/
theorem bcell {W w1 : World} (hb : Below W.heap.size W w1) : (∀ b o, b < W.heap.size → w1.cell? ⟨b, o, none⟩ = W.cell? ⟨b, o, none⟩) ∧ (∀ b o, b < W.heap.size → w1.frozen? ⟨b, o, none⟩ = W.frozen? ⟨b, o, none⟩) :=
  ⟨fun b o h => hb.cell (p := ⟨b, o, none⟩) h, fun b o h => hb.frozen (p := ⟨b, o, none⟩) h⟩

theorem below_step {w w1 : World} (o : Obj) (h : Below (w.alloc o).heap.size (w.alloc o) w1) : Below w.heap.size w w1 := (below_one w o).trans (h.mono (by simp))

set_option maxHeartbeats 1000000 in
theorem aspent_any (q p l f : Int) (w : World) :
    Calls Try.prog 38 #[acc q p l f] w fun e w' => e = .returned (.bool (spentB q p l f)) ∧ Below w.heap.size w w' := by
  have hg := agood_any q p l f
  have hf := afree_any q p l f
  have HT := three q p l f
  obtain ⟨r, HR⟩ : ∃ r, Hid (spentB q p l f = r) := ⟨_, Lib.hid rfl⟩
  rw [HR.out]
  rcases HT with h | h | h
  · rw [full_good h] at hg
    rw [full_not_free h] at hf
    obtain ⟨d, HD⟩ : ∃ d, Hid ((l == 0) = d) := ⟨_, Lib.hid rfl⟩
    have er : r = d := by rw [← HR.out, ← HD.out]; unfold spentB; rw [decide_eq_decide.2 (show (FullA q p l f ∧ l = 0) ↔ l = 0 from ⟨fun g => g.2, fun g => ⟨h, g⟩⟩)]; rfl
    subst er
    have hd := HD.out
    clear h
    go_enter Try.func38, Try.ntmps38
    go_wp2_with fail
    refine (hg _).mono ?_
    rintro e w1 ⟨rfl, hb1⟩
    obtain ⟨k1, k2⟩ := bcell hb1
    go_wp2_with fail
    refine (hf _).mono ?_
    rintro e w2 ⟨rfl, hb2⟩
    obtain ⟨k3, k4⟩ := bcell hb2
    have hz1 := hb1.size
    rw [World.size_alloc] at hz1
    have hz : w.heap.size < w1.heap.size := by omega
    go_wp2
    go_ret
    exact ⟨rfl, (below_step _ hb1).trans (hb2.mono (by omega))⟩
  · rw [free_good h] at hg
    have e : freeB q p l f = true := decide_eq_true h
    rw [e] at hf
    have er : r = false := by rw [← HR.out]; exact decide_eq_false (by unfold FreeA at h; unfold FullA; omega)
    subst er
    clear e h
    go_enter Try.func38, Try.ntmps38
    go_wp2_with fail
    refine (hg _).mono ?_
    rintro e w1 ⟨rfl, hb1⟩
    obtain ⟨k1, k2⟩ := bcell hb1
    go_wp2_with fail
    refine (hf _).mono ?_
    rintro e w2 ⟨rfl, hb2⟩
    have hz1 := hb1.size
    rw [World.size_alloc] at hz1
    go_wp2
    go_ret
    exact ⟨rfl, (below_step _ hb1).trans (hb2.mono (by omega))⟩
  · rw [h] at hg
    have er : r = false := by
      rw [← HR.out]
      refine decide_eq_false fun g => ?_
      rw [full_good g.1] at h
      cases h
    subst er
    clear h
    go_enter Try.func38, Try.ntmps38
    go_wp2_with fail
    refine (hg _).mono ?_
    rintro e w1 ⟨rfl, hb1⟩
    go_wp2
    go_ret
    exact ⟨rfl, below_step _ hb1⟩

set_option maxHeartbeats 1000000 in
theorem anext_any (q p l f : Int) (w : World) :
    Calls Try.prog 39 #[acc q p l f] w fun e w' => e = .returned (.int .i64 (nextI q p l f)) ∧ Below w.heap.size w w' := by
  have hg := agood_any q p l f
  rcases three q p l f with h | h | h
  · rw [full_good h] at hg
    rw [show nextI q p l f = p - f from if_pos h]
    obtain ⟨_, _, b1, b2, _, _, b3, b4⟩ := h
    go_enter Try.func39, Try.ntmps39
    go_wp2_with fail
    refine (hg _).mono ?_
    rintro e w1 ⟨rfl, hb1⟩
    obtain ⟨k1, k2⟩ := bcell hb1
    go_wp2
    go_ret
    exact ⟨rfl, below_step _ hb1⟩
  · rw [free_good h] at hg
    rw [show nextI q p l f = 0 from if_neg (by unfold FreeA at h; unfold FullA; omega)]
    obtain ⟨rfl, rfl, rfl, rfl⟩ := h
    go_enter Try.func39, Try.ntmps39
    go_wp2_with fail
    refine (hg _).mono ?_
    rintro e w1 ⟨rfl, hb1⟩
    obtain ⟨k1, k2⟩ := bcell hb1
    go_wp2
    go_ret
    exact ⟨rfl, below_step _ hb1⟩
  · rw [h] at hg
    rw [show nextI q p l f = 0 from if_neg (fun g => by rw [full_good g] at h; cases h)]
    clear h
    go_enter Try.func39, Try.ntmps39
    go_wp2_with fail
    refine (hg _).mono ?_
    rintro e w1 ⟨rfl, hb1⟩
    go_wp2
    go_ret
    exact ⟨rfl, below_step _ hb1⟩

end Go.Proofs.Ytjnmdkdgkjakoaa
