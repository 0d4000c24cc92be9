/- The law LifeKnown, walked: it returns true. -/
import Derived.Test.YtjnmdkdgkjakoaaLifeD
import Derived.Test.YtjnmdkdgkjakoaaLifeB
import Derived.Deep.QuietTactic
import Derived.BigQuiet
namespace Go.Proofs.Ytjnmdkdgkjakoaa
open Go.RowKit
set_option linter.unusedVariables false
set_option linter.unusedSimpArgs false

/-- A slice that reads as a list: its length, and where it leads. -/
theorem Owns.opens {w : World} {B : Nat} {v : Value} {xs : List Int} (h : Owns w B v xs) :
    ∃ a cap, v = .slice a xs.length cap ∧ (xs.length = 0 ∨ ∃ g, a = some ⟨g, 0, none⟩ ∧ g < w.heap.size ∧ ∀ i, i < xs.length → w.cell? ⟨g, i, none⟩ = some (.int .i64 (xs.getD i 0))) := by
  rcases h.reads with ⟨rfl, rfl⟩ | ⟨g, cap, rfl, hc⟩
  · exact ⟨none, 0, rfl, .inl rfl⟩
  · refine ⟨some ⟨g, 0, none⟩, cap, rfl, .inr ⟨g, rfl, ?_, hc⟩⟩
    rcases h.2 with ⟨e, _⟩ | ⟨g', _, cur, e, _, hg, _⟩
    · cases e
    · cases e
      exact (Array.getElem?_eq_some_iff.1 hg).1

theorem Owns.later {w w' : World} {B : Nat} {v : Value} {xs : List Int} (h : Owns w B v xs) (hb : Below w.heap.size w w') : Owns w' B v xs :=
  World.ownsRow.kept h ⟨hb.os, hb.tape, hb.output, hb.size, fun k hk _ => hb.block k hk⟩ (row := none) (by cases hv : v.ownBlock <;> simp)

set_option maxHeartbeats 4000000 in
set_option maxRecDepth 100000 in
theorem lifeKnown_any (w : World) : Calls Try.prog 4 #[] w fun e w' => e = .returned (.bool true) ∧ Below w.heap.size w w' := by
  obtain ⟨i0, hi, hz0, hz1, hz2⟩ := info_parts info3
  go_enter Try.func4, Try.ntmps4
  go_wp2_with fail
  refine (awake9_any _).mono ?_
  rintro e w0 ⟨rfl, hb0⟩
  go_wp2_with fail
  go_loopw [1, 2, 3, 4, 5, 6, 7, 8, 9] (fun x1 _ _ _ _ _ _ _ _ wr => ∃ s : Int, -1 ≤ s ∧ s ≤ 8 ∧ x1 = .int .i64 s ∧ Below w.heap.size w wr) (fun x1 _ _ _ _ _ _ _ _ _ => (8 - intOf x1).toNat)
  case atStart => exact ⟨-1, by omega, by omega, rfl, hb0⟩
  case round =>
    obtain ⟨s, hs1, hs2, rfl, hbel⟩ := hrel
    obtain ⟨wo, rfl⟩ : ∃ wo : World, wo = wr := ⟨_, rfl⟩
    clear hb0
    by_cases hs : s ≤ 7
    · have hd : decide (s ≤ 7) = true := decide_eq_true hs
      go_wp2_with fail
      go_loopw [2, 3, 4, 5, 6, 7] (fun v x _ _ _ _ wr => ∃ (k : Nat) (c : Int), k ≤ 11 ∧ c = -1 + (k : Int) ∧ x = .int .i64 c ∧ Owns wr w.heap.size v (acts s (-1) k) ∧ Below w.heap.size w wr) (fun _ x _ _ _ _ _ => (10 - intOf x).toNat)
      case atStart => exact ⟨0, -1, by omega, by omega, rfl, World.ownsRow_nil _ _ _ _, hbel⟩
      case round =>
        obtain ⟨k, c, hk, hc, rfl, hown, hbel'⟩ := hrel
        have HC := Lib.hid hc
        have hc1 : -1 ≤ c := by omega
        have hc2 : c ≤ 10 := by omega
        clear hc hbel
        have hlen := acts_length s (-1) k
        have hsz := hbel'.size
        by_cases hk9 : c ≤ 9
        · have hyes := acts_yes s (-1) k
          have hno := acts_no s (-1) k
          rw [← HC.out] at hyes hno
          obtain ⟨⟨r1, r2⟩, HR⟩ : ∃ r, Hid (nxt s c = r) := ⟨_, Lib.hid rfl⟩
          rw [HR.out] at hyes hno
          unfold Owns at hown
          have HOW := Lib.hid hown
          have HYES := Lib.hid hyes
          have HNO := Lib.hid hno
          clear hyes hno hown
          go_wp2_with fail
          refine (next_any s c _).mono ?_
          rw [HR.out]
          rintro e w' ⟨rfl, rfl⟩
          go_wp2_with fail
          refine (state_any s c _).mono ?_
          rw [HR.out]
          rintro e w' ⟨rfl, rfl⟩
          by_cases he : r2 = 0
          · subst he
            have HF := Lib.hid (HYES.out rfl)
            clear HYES HNO
            have hown := HOW.out
            go_wp2_with (at_builtin; refine wpList_append_own _ rfl _ _ 22 rfl w.heap.size 3 i0 (.int .i64 0) 1 8 Try.underlying22 hi hz0 hz1 hz2 rfl (by decide) _ _ _ rfl (hown.alloc _) ⟨wr.heap.size, 0, none⟩ 1 1 [.int .i64 c] rfl rfl ?c1 ?c2 ?c3 ?c4 ?c5 ?_)
            case c1 => exact one_new _ _ _ _ rfl
            case c2 => intro u hu; simp only [List.mem_singleton] at hu; subst hu; rfl
            case c3 => unfold maxLen; omega
            case c4 => omega
            case c5 => simp; omega
            intro v' w1 hown' hgrow _
            have hbel1 : Below w.heap.size w w1 := Below.grown (hbel'.alloc hsz _) hgrow (by simp; omega) (fun g hg => (hown.lt g hg).1)
            have hown2 : Owns w1 w.heap.size v' (acts s (-1) (k + 1)) := by rw [HF.out]; exact Owns.push hown'
            have HO := Lib.hid hown2
            clear hown' hgrow hown2 hown
            go_wp2
            go_roundw
            case rel => exact ⟨k + 1, c + 1, by have := HC.out; omega, by have := HC.out; omega, rfl, HO.out, hbel1⟩
            case measure => simp [intOf]; omega
          · have he' : (r2 == 0) = false := beq_eq_false_iff_ne.2 he
            have HF := Lib.hid (HNO.out he)
            clear HYES HNO
            go_wp2
            go_roundw
            case rel => exact ⟨k + 1, c + 1, by have := HC.out; omega, by have := HC.out; omega, rfl, by rw [HF.out]; exact HOW.out, hbel'⟩
            case measure => simp [intOf]; omega
        · have hc10 : k = 11 := by have := HC.out; omega
          subst hc10
          have hc10 : c = 10 := by omega
          subst hc10
          rw [acts_same s hs1 hs] at hown
          have HOW := Lib.hid hown
          clear hown hlen
          go_wp2_with fail
          refine (ways_any s _).mono ?_
          obtain ⟨xs, HX⟩ : ∃ xs, Hid (acts s 1 8 = xs) := ⟨_, Lib.hid rfl⟩
          have hlen := acts_length s 1 8
          have hown := HOW.out
          rw [HX.out] at hown hlen ⊢
          clear HOW
          rintro e w1 ⟨v, rfl, hv, hb1⟩
          have hown1 := hown.later hb1
          have hbw := hbel'.trans (hb1.mono hbel'.size)
          obtain ⟨a1, c1, e1, h1⟩ := hown1.opens
          obtain ⟨a2, c2, e2, h2⟩ := hv.opens
          subst e1 e2
          obtain ⟨n, HN⟩ : ∃ n, Hid (xs.length = n) := ⟨_, Lib.hid rfl⟩
          rw [HN.out] at h1 h2 hlen ⊢
          have H1 := Lib.hid h1
          have H2 := Lib.hid h2
          clear hown hown1 hv h1 h2 HX hbel' hb1
          go_wp2_with fail
          refine (name_any s _).mono ?_
          rintro e w2 ⟨rfl, hb2⟩
          go_wp2_with fail
          refine (stateName_any s _).mono ?_
          rintro e w3 ⟨rfl, hb3⟩
          have hb13 := hb2.trans (hb3.mono hb2.size)
          clear hb2 hb3
          go_wp2_with fail
          refine (waits_any s _).mono ?_
          rintro e w' ⟨rfl, rfl⟩
          have fin : s = 2 ∨ s = 3 ∨ (s ≠ 2 ∧ s ≠ 3) := by omega
          rcases fin with f2 | f3 | ⟨f2, f3⟩
          · rw [decide_eq_true (.inl f2)]
            have f2' : (s == 2) = true := beq_iff_eq.2 f2
            clear f2
            go_wp2_with fail
            go_loopw [9] (fun x wr => ∃ j : Nat, j ≤ n ∧ x = .int .i64 j ∧ Below w3.heap.size w3 wr) (fun x _ => n - (intOf x).toNat)
            case atStart => exact ⟨0, by omega, rfl, Below.refl _ _⟩
            case round =>
              obtain ⟨j, hj, rfl, hb4⟩ := hrel
              by_cases hjn : j < n
              · obtain ⟨g1, rfl, hg1, hc1⟩ : ∃ g, a1 = some ⟨g, 0, none⟩ ∧ g < w1.heap.size ∧ ∀ i, i < n → w1.cell? ⟨g, i, none⟩ = some (.int .i64 (xs.getD i 0)) := H1.out.resolve_left (by omega)
                obtain ⟨g2, rfl, hg2, hc2⟩ : ∃ g, a2 = some ⟨g, 0, none⟩ ∧ g < w1.heap.size ∧ ∀ i, i < n → w1.cell? ⟨g, i, none⟩ = some (.int .i64 (xs.getD i 0)) := H2.out.resolve_left (by omega)
                have d1 := cell_later hb4 (cell_later hb13 (hc1 j hjn))
                have d2 := cell_later hb4 (cell_later hb13 (hc2 j hjn))
                generalize xs.getD j 0 = t at d1 d2
                have b1 : (j : Int) < (n : Int) := by omega
                have b2 : 0 ≤ (j : Int) := by omega
                clear hc1 hc2 H1 H2
                go_wp2
                go_quiet (fail)
                go_wp2
                go_roundw
                case rel => exact ⟨j + 1, by omega, by go_num, hb4.trans ⟨rfl, rfl, rfl, Nat.le_refl _, fun _ _ => rfl⟩⟩
                case measure => simp [intOf]; omega
              · have hfin := hbw.trans ((hb13.trans (hb4.mono hb13.size)).mono hbw.size)
                go_wp2
                go_roundw
                case rel => exact ⟨s + 1, by omega, by omega, rfl, hfin⟩
                case measure => simp [intOf]; omega
          · rw [decide_eq_true (.inr f3)]
            have f2' : (s == 2) = false := beq_eq_false_iff_ne.2 (by omega)
            have f3' : (s == 3) = true := beq_iff_eq.2 f3
            clear f3
            go_wp2_with fail
            go_loopw [9] (fun x wr => ∃ j : Nat, j ≤ n ∧ x = .int .i64 j ∧ Below w3.heap.size w3 wr) (fun x _ => n - (intOf x).toNat)
            case atStart => exact ⟨0, by omega, rfl, Below.refl _ _⟩
            case round =>
              obtain ⟨j, hj, rfl, hb4⟩ := hrel
              by_cases hjn : j < n
              · obtain ⟨g1, rfl, hg1, hc1⟩ : ∃ g, a1 = some ⟨g, 0, none⟩ ∧ g < w1.heap.size ∧ ∀ i, i < n → w1.cell? ⟨g, i, none⟩ = some (.int .i64 (xs.getD i 0)) := H1.out.resolve_left (by omega)
                obtain ⟨g2, rfl, hg2, hc2⟩ : ∃ g, a2 = some ⟨g, 0, none⟩ ∧ g < w1.heap.size ∧ ∀ i, i < n → w1.cell? ⟨g, i, none⟩ = some (.int .i64 (xs.getD i 0)) := H2.out.resolve_left (by omega)
                have d1 := cell_later hb4 (cell_later hb13 (hc1 j hjn))
                have d2 := cell_later hb4 (cell_later hb13 (hc2 j hjn))
                generalize xs.getD j 0 = t at d1 d2
                have b1 : (j : Int) < (n : Int) := by omega
                have b2 : 0 ≤ (j : Int) := by omega
                clear hc1 hc2 H1 H2
                go_wp2
                go_quiet (fail)
                go_wp2
                go_roundw
                case rel => exact ⟨j + 1, by omega, by go_num, hb4.trans ⟨rfl, rfl, rfl, Nat.le_refl _, fun _ _ => rfl⟩⟩
                case measure => simp [intOf]; omega
              · have hfin := hbw.trans ((hb13.trans (hb4.mono hb13.size)).mono hbw.size)
                go_wp2
                go_roundw
                case rel => exact ⟨s + 1, by omega, by omega, rfl, hfin⟩
                case measure => simp [intOf]; omega
          · rw [decide_eq_false (by omega)]
            have f2' : (s == 2) = false := beq_eq_false_iff_ne.2 f2
            have f3' : (s == 3) = false := beq_eq_false_iff_ne.2 f3
            go_wp2_with fail
            go_loopw [9] (fun x wr => ∃ j : Nat, j ≤ n ∧ x = .int .i64 j ∧ Below w3.heap.size w3 wr) (fun x _ => n - (intOf x).toNat)
            case atStart => exact ⟨0, by omega, rfl, Below.refl _ _⟩
            case round =>
              obtain ⟨j, hj, rfl, hb4⟩ := hrel
              by_cases hjn : j < n
              · obtain ⟨g1, rfl, hg1, hc1⟩ : ∃ g, a1 = some ⟨g, 0, none⟩ ∧ g < w1.heap.size ∧ ∀ i, i < n → w1.cell? ⟨g, i, none⟩ = some (.int .i64 (xs.getD i 0)) := H1.out.resolve_left (by omega)
                obtain ⟨g2, rfl, hg2, hc2⟩ : ∃ g, a2 = some ⟨g, 0, none⟩ ∧ g < w1.heap.size ∧ ∀ i, i < n → w1.cell? ⟨g, i, none⟩ = some (.int .i64 (xs.getD i 0)) := H2.out.resolve_left (by omega)
                have d1 := cell_later hb4 (cell_later hb13 (hc1 j hjn))
                have d2 := cell_later hb4 (cell_later hb13 (hc2 j hjn))
                generalize xs.getD j 0 = t at d1 d2
                have b1 : (j : Int) < (n : Int) := by omega
                have b2 : 0 ≤ (j : Int) := by omega
                clear hc1 hc2 H1 H2
                go_wp2
                go_quiet (fail)
                go_wp2
                go_roundw
                case rel => exact ⟨j + 1, by omega, by go_num, hb4.trans ⟨rfl, rfl, rfl, Nat.le_refl _, fun _ _ => rfl⟩⟩
                case measure => simp [intOf]; omega
              · have hfin := hbw.trans ((hb13.trans (hb4.mono hb13.size)).mono hbw.size)
                go_wp2
                go_roundw
                case rel => exact ⟨s + 1, by omega, by omega, rfl, hfin⟩
                case measure => simp [intOf]; omega
    · obtain rfl : s = 8 := by omega
      go_wp2
      go_ret
      exact ⟨rfl, hbel⟩

end Go.Proofs.Ytjnmdkdgkjakoaa
