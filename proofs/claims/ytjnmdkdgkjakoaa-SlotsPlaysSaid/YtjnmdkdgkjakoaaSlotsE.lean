/- The law's own 'ints', of two slices that read alike; and the law SlotsRoom, walked. -/
import Derived.Test.YtjnmdkdgkjakoaaSlotsD
namespace Go.Proofs.Ytjnmdkdgkjakoaa
open Go.RowKit
set_option linter.unusedVariables false
set_option linter.unusedSimpArgs false

/-- A slice of ints that reads as this list. -/
def Reads (w : World) (v : Value) (xs : List Int) : Prop :=
  (v = .slice none 0 0 ∧ xs = []) ∨ ∃ g cap, v = .slice (some ⟨g, 0, none⟩) xs.length cap ∧ ∀ i, i < xs.length → w.cell? ⟨g, i, none⟩ = some (.int .i64 (xs.getD i 0))

theorem Owns.reads {w : World} {B : Nat} {v : Value} {xs : List Int} (h : Owns w B v xs) : Reads w v xs := by
  rcases h.2 with ⟨rfl, h0⟩ | ⟨g, cap, cur, rfl, _, _, _, _, _, _⟩
  · exact .inl ⟨rfl, List.eq_nil_of_length_eq_zero h0⟩
  · refine .inr ⟨g, cap, rfl, fun i hi => ?_⟩
    have := World.ownsRow.cells h (g := g) rfl i (.int .i64 (xs.getD i 0)) (by simp [ic, List.getD_eq_getElem?_getD, hi])
    rwa [show (⟨g, 0, none⟩ : Addr).add i = ⟨g, i, none⟩ from by unfold Addr.add; split <;> simp_all] at this

set_option maxHeartbeats 400000 in
theorem ints_rows (w : World) (xs : List Int) (n g1 c1 g2 c2 : Nat) (hn : Hid (xs.length = n)) (hm : n ≤ 1000)
    (h1 : ∀ i, i < n → w.cell? ⟨g1, i, none⟩ = some (.int .i64 (xs.getD i 0))) (h2 : ∀ i, i < n → w.cell? ⟨g2, i, none⟩ = some (.int .i64 (xs.getD i 0))) :
    Calls Try.prog 28 #[.slice (some ⟨g1, 0, none⟩) n c1, .slice (some ⟨g2, 0, none⟩) n c2] w fun e w' => e = .returned (.bool true) ∧ Below w.heap.size w w' := by
  go_enter Try.func28, Try.ntmps28
  go_wp2
  go_loopw [5] (fun x wr => ∃ k : Nat, k ≤ n ∧ x = .int .i64 k ∧ Below w.heap.size w wr) (fun x _ => n - (intOf x).toNat)
  case atStart => exact ⟨0, by omega, rfl, Below.refl _ _⟩
  case round =>
    obtain ⟨k, hk, rfl, hbel⟩ := hrel
    by_cases hkn : k < n
    · have a1 := cell_later hbel (h1 k hkn)
      have a2 := cell_later hbel (h2 k hkn)
      have b1 : (k : Int) < (n : Int) := by omega
      have b2 : 0 ≤ (k : Int) := by omega
      generalize xs.getD k 0 = t at a1 a2
      clear h1 h2
      go_wp2
      go_quiet (fail)
      go_wp2
      go_roundw
      case rel => exact ⟨k + 1, by omega, by go_num, hbel.trans ⟨rfl, rfl, rfl, Nat.le_refl _, fun _ _ => rfl⟩⟩
      case measure => simp [intOf]; omega
    · clear h1 h2
      go_wp2
      go_ret
      exact ⟨rfl, hbel⟩

theorem ints_same (w : World) (xs : List Int) (v1 v2 : Value) (hm : xs.length ≤ 1000) (h1 : Reads w v1 xs) (h2 : Reads w v2 xs) :
    Calls Try.prog 28 #[v1, v2] w fun e w' => e = .returned (.bool true) ∧ Below w.heap.size w w' := by
  rcases h1 with ⟨rfl, rfl⟩ | ⟨g1, c1, rfl, h1⟩
  · rcases h2 with ⟨rfl, -⟩ | ⟨g2, c2, rfl, h2⟩
    · go_enter Try.func28, Try.ntmps28
      go_wp2
      go_loopw [5] (fun x wr => x = .int .i64 0 ∧ Below w.heap.size w wr) (fun x _ => 0)
      case atStart => exact ⟨rfl, Below.refl _ _⟩
      case round =>
        obtain ⟨rfl, hbel⟩ := hrel
        go_wp2
        go_ret
        exact ⟨rfl, hbel⟩
    · clear h2
      simp only [List.length_nil]
      go_enter Try.func28, Try.ntmps28
      go_wp2
      go_loopw [5] (fun x wr => x = .int .i64 0 ∧ Below w.heap.size w wr) (fun x _ => 0)
      case atStart => exact ⟨rfl, Below.refl _ _⟩
      case round =>
        obtain ⟨rfl, hbel⟩ := hrel
        go_wp2
        go_ret
        exact ⟨rfl, hbel⟩
  · rcases h2 with ⟨rfl, rfl⟩ | ⟨g2, c2, rfl, h2⟩
    · clear h1
      simp only [List.length_nil]
      go_enter Try.func28, Try.ntmps28
      go_wp2
      go_loopw [5] (fun x wr => x = .int .i64 0 ∧ Below w.heap.size w wr) (fun x _ => 0)
      case atStart => exact ⟨rfl, Below.refl _ _⟩
      case round =>
        obtain ⟨rfl, hbel⟩ := hrel
        go_wp2
        go_ret
        exact ⟨rfl, hbel⟩
    · exact ints_rows w xs _ g1 c1 g2 c2 (Lib.hid rfl) hm h1 h2

end Go.Proofs.Ytjnmdkdgkjakoaa
