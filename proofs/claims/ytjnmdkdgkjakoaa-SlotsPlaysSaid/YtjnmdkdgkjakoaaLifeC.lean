/- Names of states, as a plain function; the law's own start; Ways. -/
import Derived.Test.YtjnmdkdgkjakoaaLifeA
import Derived.Laws.AppendOwn
namespace Go.Proofs.Ytjnmdkdgkjakoaa
open Go.RowKit
set_option linter.unusedVariables false
set_option linter.unusedSimpArgs false

/-- A state's name. -/
def nameOf (s : Int) : ByteArray :=
  if s = 0 then ⟨#[110, 111, 110, 101]⟩ else if s = 1 then ⟨#[110, 101, 119]⟩ else if s = 2 then ⟨#[114, 101, 97, 100, 121]⟩ else if s = 3 then ⟨#[114, 117, 110, 115]⟩ else if s = 4 then ⟨#[115, 108, 101, 101, 112, 115]⟩ else if s = 5 then ⟨#[104, 101, 108, 100]⟩ else if s = 6 then ⟨#[103, 111, 110, 101]⟩ else ⟨#[63]⟩

def Named (F : Nat) (s : Int) (w : World) : Prop :=
  Calls Try.prog F #[.int .i64 s] w fun e w' => e = .returned (.string (nameOf s)) ∧ Below w.heap.size w w'

theorem nameOf_out (s : Int) (h : s < 0 ∨ 6 < s) : nameOf s = ⟨#[63]⟩ := by
  unfold nameOf
  rw [if_neg (by omega), if_neg (by omega), if_neg (by omega), if_neg (by omega), if_neg (by omega), if_neg (by omega), if_neg (by omega)]

set_option maxHeartbeats 1000000 in
theorem name_any (s : Int) (w : World) : Named 15 s w := by
  unfold Named
  by_cases h : s < 0 ∨ 6 < s
  · rw [nameOf_out s h]
    by_cases c1 : s < 0
    · clear h
      go_enter Try.func15, Try.ntmps15
      go_wp2
      go_ret
      exact ⟨rfl, (Below.refl _ _).alloc (Nat.le_refl _) _⟩
    · have c2 : 7 ≤ s := by omega
      clear h
      go_enter Try.func15, Try.ntmps15
      go_wp2
      go_ret
      exact ⟨rfl, (Below.refl _ _).alloc (Nat.le_refl _) _⟩
  · have hs : s = 0 ∨ s = 1 ∨ s = 2 ∨ s = 3 ∨ s = 4 ∨ s = 5 ∨ s = 6 := by omega
    clear h
    rcases hs with rfl | rfl | rfl | rfl | rfl | rfl | rfl
    · rw [show nameOf 0 = ⟨#[110, 111, 110, 101]⟩ from by decide]
      go_enter Try.func15, Try.ntmps15
      go_wp2
      go_ret
      exact ⟨rfl, (Below.refl _ _).alloc (Nat.le_refl _) _⟩
    · rw [show nameOf 1 = ⟨#[110, 101, 119]⟩ from by decide]
      go_enter Try.func15, Try.ntmps15
      go_wp2
      go_ret
      exact ⟨rfl, (Below.refl _ _).alloc (Nat.le_refl _) _⟩
    · rw [show nameOf 2 = ⟨#[114, 101, 97, 100, 121]⟩ from by decide]
      go_enter Try.func15, Try.ntmps15
      go_wp2
      go_ret
      exact ⟨rfl, (Below.refl _ _).alloc (Nat.le_refl _) _⟩
    · rw [show nameOf 3 = ⟨#[114, 117, 110, 115]⟩ from by decide]
      go_enter Try.func15, Try.ntmps15
      go_wp2
      go_ret
      exact ⟨rfl, (Below.refl _ _).alloc (Nat.le_refl _) _⟩
    · rw [show nameOf 4 = ⟨#[115, 108, 101, 101, 112, 115]⟩ from by decide]
      go_enter Try.func15, Try.ntmps15
      go_wp2
      go_ret
      exact ⟨rfl, (Below.refl _ _).alloc (Nat.le_refl _) _⟩
    · rw [show nameOf 5 = ⟨#[104, 101, 108, 100]⟩ from by decide]
      go_enter Try.func15, Try.ntmps15
      go_wp2
      go_ret
      exact ⟨rfl, (Below.refl _ _).alloc (Nat.le_refl _) _⟩
    · rw [show nameOf 6 = ⟨#[103, 111, 110, 101]⟩ from by decide]
      go_enter Try.func15, Try.ntmps15
      go_wp2
      go_ret
      exact ⟨rfl, (Below.refl _ _).alloc (Nat.le_refl _) _⟩

set_option maxHeartbeats 1000000 in
theorem stateName_any (s : Int) (w : World) : Named 18 s w := by
  unfold Named
  by_cases h : s < 0 ∨ 6 < s
  · rw [nameOf_out s h]
    by_cases c1 : s < 0
    · clear h
      go_enter Try.func18, Try.ntmps18
      go_wp2
      go_ret
      exact ⟨rfl, (Below.refl _ _).alloc (Nat.le_refl _) _⟩
    · have c2 : 6 < s := by omega
      clear h
      go_enter Try.func18, Try.ntmps18
      go_wp2
      go_ret
      exact ⟨rfl, (Below.refl _ _).alloc (Nat.le_refl _) _⟩
  · have hs : s = 0 ∨ s = 1 ∨ s = 2 ∨ s = 3 ∨ s = 4 ∨ s = 5 ∨ s = 6 := by omega
    clear h
    rcases hs with rfl | rfl | rfl | rfl | rfl | rfl | rfl
    · rw [show nameOf 0 = ⟨#[110, 111, 110, 101]⟩ from by decide]
      go_enter Try.func18, Try.ntmps18
      go_wp2
      go_ret
      exact ⟨rfl, (Below.refl _ _).alloc (Nat.le_refl _) _⟩
    · rw [show nameOf 1 = ⟨#[110, 101, 119]⟩ from by decide]
      go_enter Try.func18, Try.ntmps18
      go_wp2
      go_ret
      exact ⟨rfl, (Below.refl _ _).alloc (Nat.le_refl _) _⟩
    · rw [show nameOf 2 = ⟨#[114, 101, 97, 100, 121]⟩ from by decide]
      go_enter Try.func18, Try.ntmps18
      go_wp2
      go_ret
      exact ⟨rfl, (Below.refl _ _).alloc (Nat.le_refl _) _⟩
    · rw [show nameOf 3 = ⟨#[114, 117, 110, 115]⟩ from by decide]
      go_enter Try.func18, Try.ntmps18
      go_wp2
      go_ret
      exact ⟨rfl, (Below.refl _ _).alloc (Nat.le_refl _) _⟩
    · rw [show nameOf 4 = ⟨#[115, 108, 101, 101, 112, 115]⟩ from by decide]
      go_enter Try.func18, Try.ntmps18
      go_wp2
      go_ret
      exact ⟨rfl, (Below.refl _ _).alloc (Nat.le_refl _) _⟩
    · rw [show nameOf 5 = ⟨#[104, 101, 108, 100]⟩ from by decide]
      go_enter Try.func18, Try.ntmps18
      go_wp2
      go_ret
      exact ⟨rfl, (Below.refl _ _).alloc (Nat.le_refl _) _⟩
    · rw [show nameOf 6 = ⟨#[103, 111, 110, 101]⟩ from by decide]
      go_enter Try.func18, Try.ntmps18
      go_wp2
      go_ret
      exact ⟨rfl, (Below.refl _ _).alloc (Nat.le_refl _) _⟩

/-- The law's own start: what the document tells of it. -/
theorem awake9_any (w : World) : Calls Try.prog 13 #[] w fun e w' => e = .returned (.bool true) ∧ Below w.heap.size w w' := by
  go_enter Try.func13, Try.ntmps13
  go_wp2_with fail
  refine (next_any 1 1 _).mono ?_
  rw [show nxt 1 1 = (2, 0) from by decide]
  rintro e w' ⟨rfl, rfl⟩
  go_wp2_with fail
  refine (name_any 2 _).mono ?_
  rw [show nameOf 2 = ⟨#[114, 101, 97, 100, 121]⟩ from by decide]
  rintro e w1 ⟨rfl, hb⟩
  go_wp2
  go_ret
  exact ⟨rfl, hb⟩

end Go.Proofs.Ytjnmdkdgkjakoaa
