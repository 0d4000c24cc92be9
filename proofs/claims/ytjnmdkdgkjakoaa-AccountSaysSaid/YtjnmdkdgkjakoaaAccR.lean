/- Contracts of the document's own accounts, as the same plain functions. -/
import Derived.Test.YtjnmdkdgkjakoaaAccD
namespace Go.Proofs.Ytjnmdkdgkjakoaa
open Go.RowKit
set_option linter.unusedVariables false
set_option linter.unusedSimpArgs false

theorem own_any (q p l f : Int) (w : World) :
    Calls Try.prog 41 #[acc q p l f] w fun e w' => e = .returned (acc q p l f) ∧ Below w.heap.size w w' := by
  go_enter Try.func41, Try.ntmps41
  go_wp2
  refine bodyPost_ret (v := acc q p l f) (by simp [results, Try.results41, go_sem]) rfl ⟨rfl, ?_⟩
  exact ((Below.refl _ _).alloc (Nat.le_refl _) _).alloc (by simp) _

/-- NewAccount's own test. -/
def NewOk (q p : Int) : Prop := (q = 0 ∧ p = 0) ∨ (1 ≤ q ∧ q ≤ 1073741824 ∧ 1 ≤ p ∧ p ≤ 1073741824)

theorem newP_zero : newP 0 0 = ((0, 0, 0, 0), 0) := by decide
theorem newP_yes {q p : Int} (h1 : 1 ≤ q) (h2 : q ≤ 1073741824) (h3 : 1 ≤ p) (h4 : p ≤ 1073741824) : newP q p = ((q, p, q, 0), 0) := by
  unfold newP
  rw [if_pos (full_good (by unfold FullA; omega))]
theorem newP_no {q p : Int} (h : ¬ NewOk q p) : newP q p = ((0, 0, 0, 0), 1) := by
  unfold newP
  rw [if_neg]
  unfold goodB NewOk FreeA FullA at *
  simp only [decide_eq_true_eq]
  omega

set_option maxHeartbeats 2000000 in
theorem rnew_any (q p : Int) (w : World) :
    Calls Try.prog 42 #[.int .i64 q, .int .i64 p] w fun e w' => e = .returned (.tuple #[accT (newP q p).1, .int .i64 (newP q p).2]) ∧ Below w.heap.size w w' := by
  by_cases h : NewOk q p
  · by_cases h0 : q = 0
    · obtain rfl := h0
      have hp : p = 0 := by unfold NewOk at h; omega
      subst hp
      rw [newP_zero]
      go_enter Try.func42, Try.ntmps42
      go_wp2
      refine bodyPost_ret (v := .tuple #[acc 0 0 0 0, .int .i64 0]) (by simp [results, Try.results42, go_sem]) rfl ⟨rfl, below_one _ _⟩
    · obtain ⟨h1, h2, h3, h4⟩ : 1 ≤ q ∧ q ≤ 1073741824 ∧ 1 ≤ p ∧ p ≤ 1073741824 := by unfold NewOk at h; omega
      rw [newP_yes h1 h2 h3 h4]
      have e0 : (q == 0) = false := beq_eq_false_iff_ne.2 h0
      clear h
      go_enter Try.func42, Try.ntmps42
      go_wp2
      refine bodyPost_ret (v := .tuple #[acc q p q 0, .int .i64 0]) (by simp [results, Try.results42, go_sem]) rfl ⟨rfl, below_one _ _⟩
  · rw [newP_no h]
    unfold NewOk at h
    by_cases h0 : q = 0
    · have hp : (p == 0) = false := beq_eq_false_iff_ne.2 (by omega)
      have e0 : (q == 0) = true := beq_iff_eq.2 h0
      have e1 : q < 1 := by omega
      clear h h0
      go_enter Try.func42, Try.ntmps42
      go_wp2
      refine bodyPost_ret (v := .tuple #[acc 0 0 0 0, .int .i64 1]) (by simp [results, Try.results42, go_sem]) rfl ⟨rfl, below_one _ _⟩
    · have e0 : (q == 0) = false := beq_eq_false_iff_ne.2 h0
      by_cases c1 : q < 1
      · clear h
        go_enter Try.func42, Try.ntmps42
        go_wp2
        refine bodyPost_ret (v := .tuple #[acc 0 0 0 0, .int .i64 1]) (by simp [results, Try.results42, go_sem]) rfl ⟨rfl, below_one _ _⟩
      · by_cases c2 : 1073741824 < q
        · clear h
          go_enter Try.func42, Try.ntmps42
          go_wp2
          refine bodyPost_ret (v := .tuple #[acc 0 0 0 0, .int .i64 1]) (by simp [results, Try.results42, go_sem]) rfl ⟨rfl, below_one _ _⟩
        · by_cases c3 : p < 1
          · clear h
            go_enter Try.func42, Try.ntmps42
            go_wp2
            refine bodyPost_ret (v := .tuple #[acc 0 0 0 0, .int .i64 1]) (by simp [results, Try.results42, go_sem]) rfl ⟨rfl, below_one _ _⟩
          · have c4 : 1073741824 < p := by omega
            clear h
            go_enter Try.func42, Try.ntmps42
            go_wp2
            refine bodyPost_ret (v := .tuple #[acc 0 0 0 0, .int .i64 1]) (by simp [results, Try.results42, go_sem]) rfl ⟨rfl, below_one _ _⟩

theorem good_new {q p l f : Int} (h : goodB q p l f = true) : NewOk q p := by
  unfold goodB FreeA FullA at h
  simp only [decide_eq_true_eq] at h
  unfold NewOk
  omega

/-- Behind NewAccount's test: what is still asked. -/
theorem good_rest {q p l f : Int} (h : NewOk q p) (h1 : 0 ≤ l) (h2 : l ≤ q) (h3 : 0 ≤ f) : goodB q p l f = decide (f < p ∨ FreeA q p l f) := by
  unfold goodB
  refine decide_eq_decide.2 ?_
  unfold NewOk at h
  unfold FreeA FullA
  omega

theorem good_low {q p l f : Int} (h : l < 0 ∨ q < l ∨ f < 0) : goodB q p l f = false := by
  unfold goodB
  refine decide_eq_false ?_
  unfold FreeA FullA
  omega

set_option maxHeartbeats 4000000 in
theorem rgood_any (q p l f : Int) (w : World) :
    Calls Try.prog 45 #[acc q p l f] w fun e w' => e = .returned (.bool (goodB q p l f)) ∧ Below w.heap.size w w' := by
  by_cases h : NewOk q p
  · obtain ⟨⟨n1, n2, n3, n4⟩, HN⟩ : ∃ r : Four, Hid (newP q p = (r, 0)) := by
      unfold NewOk at h
      by_cases h0 : q = 0
      · have hp : p = 0 := by omega
        subst h0 hp
        exact ⟨_, Lib.hid newP_zero⟩
      · exact ⟨_, Lib.hid (newP_yes (by omega) (by omega) (by omega) (by omega))⟩
    by_cases c : 0 ≤ l ∧ l ≤ q ∧ 0 ≤ f
    · obtain ⟨c1, c2, c3⟩ := c
      rw [good_rest h c1 c2 c3]
      have HH := Lib.hid h
      clear h
      by_cases d : f < p
      · rw [decide_eq_true (.inl d)]
        go_enter Try.func45, Try.ntmps45
        go_wp2_with fail
        refine (rnew_any q p _).mono ?_
        rw [HN.out]
        rintro e w1 ⟨rfl, hb⟩
        obtain ⟨k0, k1, k2, k3⟩ := cells4 (kept_row hb (heap_alloc_new w _))
        have hz := hb.size
        rw [World.size_alloc] at hz
        have hz' : w.heap.size < w1.heap.size := by omega
        go_wp2
        go_ret
        exact ⟨rfl, (below_step _ hb).alloc (by omega) _⟩
      · by_cases e : FreeA q p l f
        · rw [decide_eq_true (.inr e)]
          obtain ⟨rfl, rfl, rfl, rfl⟩ := e
          go_enter Try.func45, Try.ntmps45
          go_wp2_with fail
          refine (rnew_any 0 0 _).mono ?_
          rw [HN.out]
          rintro e w1 ⟨rfl, hb⟩
          obtain ⟨k0, k1, k2, k3⟩ := cells4 (kept_row hb (heap_alloc_new w _))
          have hz := hb.size
          rw [World.size_alloc] at hz
          have hz' : w.heap.size < w1.heap.size := by omega
          go_wp2
          go_ret
          exact ⟨rfl, (below_step _ hb).alloc (by omega) _⟩
        · rw [decide_eq_false (by rintro (g | g) <;> contradiction)]
          unfold FreeA at e
          go_enter Try.func45, Try.ntmps45
          go_wp2_with fail
          refine (rnew_any q p _).mono ?_
          rw [HN.out]
          rintro e w1 ⟨rfl, hb⟩
          obtain ⟨k0, k1, k2, k3⟩ := cells4 (kept_row hb (heap_alloc_new w _))
          have hz := hb.size
          rw [World.size_alloc] at hz
          have hz' : w.heap.size < w1.heap.size := by omega
          go_wp2
          all_goals first
            | (go_ret; exact ⟨ret_bool (by first | rfl | (rw [beq_eq_false_iff_ne]; omega) | (simp; omega)), (below_step _ hb).alloc (by omega) _⟩)
            | (exfalso; omega)
    · rw [good_low (by omega)]
      clear h
      by_cases c1 : l < 0
      · clear c
        go_enter Try.func45, Try.ntmps45
        go_wp2_with fail
        refine (rnew_any q p _).mono ?_
        rw [HN.out]
        rintro e w1 ⟨rfl, hb⟩
        obtain ⟨k0, k1, k2, k3⟩ := cells4 (kept_row hb (heap_alloc_new w _))
        have hz := hb.size
        rw [World.size_alloc] at hz
        have hz' : w.heap.size < w1.heap.size := by omega
        go_wp2
        go_ret
        exact ⟨rfl, (below_step _ hb).alloc (by omega) _⟩
      · by_cases c2 : q < l
        · clear c
          go_enter Try.func45, Try.ntmps45
          go_wp2_with fail
          refine (rnew_any q p _).mono ?_
          rw [HN.out]
          rintro e w1 ⟨rfl, hb⟩
          obtain ⟨k0, k1, k2, k3⟩ := cells4 (kept_row hb (heap_alloc_new w _))
          have hz := hb.size
          rw [World.size_alloc] at hz
          have hz' : w.heap.size < w1.heap.size := by omega
          go_wp2
          go_ret
          exact ⟨rfl, (below_step _ hb).alloc (by omega) _⟩
        · have c3 : f < 0 := by omega
          clear c
          go_enter Try.func45, Try.ntmps45
          go_wp2_with fail
          refine (rnew_any q p _).mono ?_
          rw [HN.out]
          rintro e w1 ⟨rfl, hb⟩
          obtain ⟨k0, k1, k2, k3⟩ := cells4 (kept_row hb (heap_alloc_new w _))
          have hz := hb.size
          rw [World.size_alloc] at hz
          have hz' : w.heap.size < w1.heap.size := by omega
          go_wp2
          go_ret
          exact ⟨rfl, (below_step _ hb).alloc (by omega) _⟩
  · have hg : goodB q p l f = false := by
      cases hh : goodB q p l f with
      | false => rfl
      | true => exact absurd (good_new hh) h
    rw [hg]
    have HN := Lib.hid (newP_no h)
    clear h hg
    go_enter Try.func45, Try.ntmps45
    go_wp2_with fail
    refine (rnew_any q p _).mono ?_
    rw [HN.out]
    rintro e w1 ⟨rfl, hb⟩
    obtain ⟨k0, k1, k2, k3⟩ := cells4 (kept_row hb (heap_alloc_new w _))
    have hz := hb.size
    rw [World.size_alloc] at hz
    have hz' : w.heap.size < w1.heap.size := by omega
    go_wp2
    go_ret
    exact ⟨rfl, (below_step _ hb).alloc (by omega) _⟩

end Go.Proofs.Ytjnmdkdgkjakoaa
