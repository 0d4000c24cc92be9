/- Contracts of package life: Waits, Ways. -/
import Derived.Test.YtjnmdkdgkjakoaaLifeC
import Derived.Test.YtjnmdkdgkjakoaaSlotsE
namespace Go.Proofs.Ytjnmdkdgkjakoaa
open Go.RowKit
set_option linter.unusedVariables false
set_option linter.unusedSimpArgs false

/-- The acts that are open in a state, of k acts from lo on. -/
def acts (s lo : Int) (k : Nat) : List Int := ((List.range k).filter fun (j : Nat) => decide ((nxt s (lo + (j : Int))).2 = 0)).map fun (j : Nat) => lo + (j : Int)

theorem acts_yes (s lo : Int) (k : Nat) (h : (nxt s (lo + (k : Int))).2 = 0) : acts s lo (k + 1) = acts s lo k ++ [lo + (k : Int)] := by
  unfold acts
  rw [List.range_succ, List.filter_append, List.map_append]
  simp [List.filter_cons, h]

theorem acts_no (s lo : Int) (k : Nat) (h : (nxt s (lo + (k : Int))).2 ≠ 0) : acts s lo (k + 1) = acts s lo k := by
  unfold acts
  rw [List.range_succ, List.filter_append, List.map_append]
  simp [List.filter_cons, h]

theorem acts_length (s lo : Int) (k : Nat) : (acts s lo k).length ≤ k := by
  unfold acts
  rw [List.length_map]
  exact Nat.le_trans (List.length_filter_le _ _) (by simp)

theorem acts_same (s : Int) (h1 : -1 ≤ s) (h2 : s ≤ 7) : acts s (-1) 11 = acts s 1 8 := by
  have hs : s = -1 ∨ s = 0 ∨ s = 1 ∨ s = 2 ∨ s = 3 ∨ s = 4 ∨ s = 5 ∨ s = 6 ∨ s = 7 := by omega
  rcases hs with rfl | rfl | rfl | rfl | rfl | rfl | rfl | rfl | rfl <;> decide

theorem waits_any (s : Int) (w : World) : Calls Try.prog 19 #[.int .i64 s] w fun e w' => e = .returned (.bool (decide (s = 2 ∨ s = 3))) ∧ w = w' := by
  by_cases h2 : s = 2
  · subst h2
    go_enter Try.func19, Try.ntmps19
    go_wp2
    go_ret
    exact ⟨rfl, rfl⟩
  · by_cases h3 : s = 3
    · subst h3
      go_enter Try.func19, Try.ntmps19
      go_wp2
      go_ret
      exact ⟨rfl, rfl⟩
    · rw [decide_eq_false (by omega)]
      have e2 : (s == 2) = false := beq_eq_false_iff_ne.2 h2
      have e3 : (s == 3) = false := beq_eq_false_iff_ne.2 h3
      go_enter Try.func19, Try.ntmps19
      go_wp2
      go_ret
      exact ⟨rfl, rfl⟩

set_option maxHeartbeats 1000000 in
theorem ways_any (s : Int) (w : World) :
    Calls Try.prog 17 #[.int .i64 s] w fun e w' => ∃ v, e = .returned v ∧ Owns w' w.heap.size v (acts s 1 8) ∧ Below w.heap.size w w' := by
  obtain ⟨i0, hi, hz0, hz1, hz2⟩ := info_parts info3
  go_enter Try.func17, Try.ntmps17
  go_wp2
  go_loopw [3, 4, 5, 6] (fun v x _ _ wr => ∃ c : Nat, 1 ≤ c ∧ c ≤ 9 ∧ x = .int .i64 c ∧ Owns wr w.heap.size v (acts s 1 (c - 1)) ∧ Below w.heap.size w wr) (fun _ x _ _ _ => 9 - (intOf x).toNat)
  case atStart => exact ⟨1, by omega, by omega, rfl, World.ownsRow_nil _ _ _ _, Below.refl _ _⟩
  case round =>
    obtain ⟨c, hc1, hk, rfl, hown, hbel⟩ := hrel
    have hlen := acts_length s 1 (c - 1)
    have hsz := hbel.size
    by_cases hkn : c ≤ 8
    · have hyes := acts_yes s 1 (c - 1)
      have hno := acts_no s 1 (c - 1)
      rw [show (1 : Int) + ((c - 1 : Nat) : Int) = c from by omega, show c - 1 + 1 = c from by omega] at hyes hno
      unfold Owns at hown
      go_wp2_with fail
      refine (next_any s c _).mono ?_
      obtain ⟨⟨r1, r2⟩, HR⟩ : ∃ r, Hid (nxt s c = r) := ⟨_, Lib.hid rfl⟩
      rw [HR.out] at hyes hno ⊢
      rintro e w' ⟨rfl, rfl⟩
      by_cases he : r2 = 0
      · subst he
        have HF := Lib.hid (hyes rfl)
        clear hyes hno
        go_wp2_with (at_builtin; refine wpList_append_own _ rfl _ _ 22 rfl w.heap.size 3 i0 (.int .i64 0) 1 8 Try.underlying22 hi hz0 hz1 hz2 rfl (by decide) _ _ _ rfl (hown.alloc _) ⟨wr.heap.size, 0, none⟩ 1 1 [.int .i64 c] rfl rfl ?c1 ?c2 ?c3 ?c4 ?c5 ?_)
        case c1 => exact one_new _ _ _ _ rfl
        case c2 => intro u hu; simp only [List.mem_singleton] at hu; subst hu; rfl
        case c3 => unfold maxLen; omega
        case c4 => omega
        case c5 => simp; omega
        intro v' w1 hown' hgrow _
        have hbel' : Below w.heap.size w w1 := Below.grown (hbel.alloc hsz _) hgrow (by simp; omega) (fun g hg => (hown.lt g hg).1)
        have hown2 : Owns w1 w.heap.size v' (acts s 1 (c + 1 - 1)) := by rw [Nat.add_sub_cancel, HF.out]; exact Owns.push hown'
        have HO := Lib.hid hown2
        clear hown' hgrow hown2
        go_wp2
        go_roundw
        case rel => exact ⟨c + 1, by omega, by omega, by go_num, HO.out, hbel'⟩
        case measure => simp [intOf]; omega
      · have he' : (r2 == 0) = false := beq_eq_false_iff_ne.2 he
        have HF := Lib.hid (hno he)
        clear hyes hno
        go_wp2
        go_roundw
        case rel => exact ⟨c + 1, by omega, by omega, by go_num, by rw [Nat.add_sub_cancel, HF.out]; exact hown, hbel⟩
        case measure => simp [intOf]; omega
    · obtain rfl : c = 9 := by omega
      have HO := Lib.hid hown
      clear hown
      go_wp2
      go_ret
      exact ⟨_, rfl, HO.out, hbel⟩

end Go.Proofs.Ytjnmdkdgkjakoaa
