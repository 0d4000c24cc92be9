/- The law LifeReach, walked: it returns true for every list. -/
import Derived.Test.YtjnmdkdgkjakoaaLifeC
import Derived.Deep.QuietTactic
import Derived.BigQuiet
namespace Go.Proofs.Ytjnmdkdgkjakoaa
open Go.RowKit
set_option linter.unusedVariables false
set_option linter.unusedSimpArgs false

theorem nxt_keeps (s a : Int) (h1 : 1 ≤ s) (h2 : s ≤ 6) (h : (nxt s a).2 = 0) : 1 ≤ (nxt s a).1 ∧ (nxt s a).1 ≤ 6 := by
  by_cases c : 1 ≤ a ∧ a ≤ 8
  · have hs : s = 1 ∨ s = 2 ∨ s = 3 ∨ s = 4 ∨ s = 5 ∨ s = 6 := by omega
    have ha : a = 1 ∨ a = 2 ∨ a = 3 ∨ a = 4 ∨ a = 5 ∨ a = 6 ∨ a = 7 ∨ a = 8 := by omega
    clear h1 h2 c
    revert h
    rcases hs with rfl | rfl | rfl | rfl | rfl | rfl <;> rcases ha with rfl | rfl | rfl | rfl | rfl | rfl | rfl | rfl <;> decide
  · rw [nxt_out s a (by omega)] at h
    exact absurd h (by decide)

set_option maxHeartbeats 2000000 in
set_option maxRecDepth 100000 in
theorem reach_long (n cap : Nat) (a : Option Addr) (w : World) (h : 100 < n) :
    Calls Try.prog 3 #[.slice a n cap] w fun e w' => e = .returned (.bool true) ∧ Below w.heap.size w w' := by
  have h' : (100 : Int) < n := by omega
  go_enter Try.func3, Try.ntmps3
  go_wp2_with fail
  refine (awake9_any _).mono ?_
  rintro e w0 ⟨rfl, hb0⟩
  go_wp2
  go_ret
  exact ⟨rfl, hb0⟩

/-- Where the list leads: to this row of ints. -/
def RowAt (w : World) (a : Option Addr) (n : Nat) (xs : List Int) : Prop :=
  n = 0 ∨ ∃ b off, a = some ⟨b, off, none⟩ ∧ ∀ j, j < n → w.cell? ⟨b, off + j, none⟩ = some (.int .i64 (xs.getD j 0))

set_option maxHeartbeats 4000000 in
set_option maxRecDepth 100000 in
theorem reach_short (n cap : Nat) (a : Option Addr) (xs : List Int) (w : World) (h : n ≤ 100) (hx : RowAt w a n xs) :
    Calls Try.prog 3 #[.slice a n cap] w fun e w' => e = .returned (.bool true) ∧ Below w.heap.size w w' := by
  have HX := Lib.hid hx
  clear hx
  go_enter Try.func3, Try.ntmps3
  go_wp2_with fail
  refine (awake9_any _).mono ?_
  rintro e w0 ⟨rfl, hb0⟩
  have h' : (n : Int) ≤ 100 := by omega
  go_wp2_with fail
  go_loop [3, 4, 5, 6] (fun x3 x4 _ _ => ∃ (s : Int) (k : Nat), 1 ≤ s ∧ s ≤ 6 ∧ k ≤ n ∧ x3 = .int .i64 s ∧ x4 = .int .i64 k) (fun _ x4 _ _ => n - (intOf x4).toNat)
  case atStart => exact ⟨1, 0, by omega, by omega, by omega, rfl, rfl⟩
  case round =>
    obtain ⟨s, k, hs1, hs2, hk, rfl, rfl⟩ := hrel
    by_cases hkn : k < n
    · rcases HX.out with h0 | ⟨b, off, rfl, hc⟩
      · omega
      · have hcell := cell_later hb0 (hc k hkn)
        have b1 : (k : Int) < (n : Int) := by omega
        have b2 : 0 ≤ (k : Int) := by omega
        clear hc
        generalize xs.getD k 0 = x at hcell
        go_wp2_with fail
        refine (next_any s _ _).mono ?_
        obtain ⟨r, HR⟩ : ∃ r, Hid (nxt s x = r) := ⟨_, Lib.hid rfl⟩
        rw [HR.out]
        rintro e w' ⟨rfl, rfl⟩
        obtain ⟨r1, r2⟩ := r
        by_cases he : r2 = 0
        · subst he
          have hkp := nxt_keeps s _ hs1 hs2 (by rw [HR.out])
          rw [HR.out] at hkp
          obtain ⟨p1, p2⟩ := hkp
          simp only at p1 p2
          go_wp2
          go_round
          case rel => exact ⟨r1, k + 1, p1, p2, by omega, rfl, by go_num⟩
          case measure => simp [intOf]; omega
        · have he' : (r2 == 0) = false := beq_eq_false_iff_ne.2 he
          go_wp2
          go_round
          case rel => exact ⟨s, k + 1, hs1, hs2, by omega, rfl, by go_num⟩
          case measure => simp [intOf]; omega
    · obtain rfl : k = n := by omega
      have hs : s = 1 ∨ s = 2 ∨ s = 3 ∨ s = 4 ∨ s = 5 ∨ s = 6 := by omega
      clear HX hs1 hs2
      rcases hs with rfl | rfl | rfl | rfl | rfl | rfl
      · go_wp2_with fail
        refine (next_any 1 8 _).mono ?_
        rw [show nxt 1 8 = (6, 0) from by decide]
        rintro e w' ⟨rfl, rfl⟩
        go_wp2_with fail
        refine (next_any 1 2 _).mono ?_
        rw [show nxt 1 2 = (0, 4) from by decide]
        rintro e w' ⟨rfl, rfl⟩
        go_wp2_with fail
        refine (name_any 1 _).mono ?_
        rw [show nameOf 1 = ⟨#[110, 101, 119]⟩ from by decide]
        rintro e w2 ⟨rfl, hb2⟩
        go_wp2
        go_ret
        exact ⟨rfl, hb0.trans (hb2.mono hb0.size)⟩
      · go_wp2_with fail
        refine (next_any 2 8 _).mono ?_
        rw [show nxt 2 8 = (6, 0) from by decide]
        rintro e w' ⟨rfl, rfl⟩
        go_wp2_with fail
        refine (next_any 2 2 _).mono ?_
        rw [show nxt 2 2 = (3, 0) from by decide]
        rintro e w' ⟨rfl, rfl⟩
        go_wp2_with fail
        refine (name_any 2 _).mono ?_
        rw [show nameOf 2 = ⟨#[114, 101, 97, 100, 121]⟩ from by decide]
        rintro e w2 ⟨rfl, hb2⟩
        go_wp2
        go_ret
        exact ⟨rfl, hb0.trans (hb2.mono hb0.size)⟩
      · go_wp2_with fail
        refine (next_any 3 8 _).mono ?_
        rw [show nxt 3 8 = (6, 0) from by decide]
        rintro e w' ⟨rfl, rfl⟩
        go_wp2_with fail
        refine (next_any 3 2 _).mono ?_
        rw [show nxt 3 2 = (0, 4) from by decide]
        rintro e w' ⟨rfl, rfl⟩
        go_wp2_with fail
        refine (name_any 3 _).mono ?_
        rw [show nameOf 3 = ⟨#[114, 117, 110, 115]⟩ from by decide]
        rintro e w2 ⟨rfl, hb2⟩
        go_wp2
        go_ret
        exact ⟨rfl, hb0.trans (hb2.mono hb0.size)⟩
      · go_wp2_with fail
        refine (next_any 4 8 _).mono ?_
        rw [show nxt 4 8 = (6, 0) from by decide]
        rintro e w' ⟨rfl, rfl⟩
        go_wp2_with fail
        refine (next_any 4 2 _).mono ?_
        rw [show nxt 4 2 = (0, 4) from by decide]
        rintro e w' ⟨rfl, rfl⟩
        go_wp2_with fail
        refine (name_any 4 _).mono ?_
        rw [show nameOf 4 = ⟨#[115, 108, 101, 101, 112, 115]⟩ from by decide]
        rintro e w2 ⟨rfl, hb2⟩
        go_wp2
        go_ret
        exact ⟨rfl, hb0.trans (hb2.mono hb0.size)⟩
      · go_wp2_with fail
        refine (next_any 5 8 _).mono ?_
        rw [show nxt 5 8 = (6, 0) from by decide]
        rintro e w' ⟨rfl, rfl⟩
        go_wp2_with fail
        refine (next_any 5 2 _).mono ?_
        rw [show nxt 5 2 = (0, 4) from by decide]
        rintro e w' ⟨rfl, rfl⟩
        go_wp2_with fail
        refine (name_any 5 _).mono ?_
        rw [show nameOf 5 = ⟨#[104, 101, 108, 100]⟩ from by decide]
        rintro e w2 ⟨rfl, hb2⟩
        go_wp2
        go_ret
        exact ⟨rfl, hb0.trans (hb2.mono hb0.size)⟩
      · go_wp2_with fail
        refine (next_any 6 8 _).mono ?_
        rw [show nxt 6 8 = (0, 4) from by decide]
        rintro e w' ⟨rfl, rfl⟩
        go_wp2_with fail
        refine (next_any 6 2 _).mono ?_
        rw [show nxt 6 2 = (0, 4) from by decide]
        rintro e w' ⟨rfl, rfl⟩
        go_wp2_with fail
        refine (name_any 6 _).mono ?_
        rw [show nameOf 6 = ⟨#[103, 111, 110, 101]⟩ from by decide]
        rintro e w2 ⟨rfl, hb2⟩
        go_wp2
        go_ret
        exact ⟨rfl, hb0.trans (hb2.mono hb0.size)⟩

theorem reach_any (n cap : Nat) (a : Option Addr) (xs : List Int) (w : World) (hx : RowAt w a n xs) :
    Calls Try.prog 3 #[.slice a n cap] w fun e w' => e = .returned (.bool true) ∧ Below w.heap.size w w' := by
  by_cases h : n ≤ 100
  · exact reach_short n cap a xs w h hx
  · exact reach_long n cap a w (by omega)

end Go.Proofs.Ytjnmdkdgkjakoaa
