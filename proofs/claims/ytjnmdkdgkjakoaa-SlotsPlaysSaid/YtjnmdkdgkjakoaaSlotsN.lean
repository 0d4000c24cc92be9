/- Contracts of the document's own names: NewNames, Take, Has, Free, All, as the same plain functions. -/
import Derived.Test.YtjnmdkdgkjakoaaSlotsE
import Derived.RegionTactic
import Derived.ChangeAlike
namespace Go.Proofs.Ytjnmdkdgkjakoaa
open Go.RowKit
set_option linter.unusedVariables false
set_option linter.unusedSimpArgs false

def turnsOf (ps : List (Int × Bool)) : List Value := ps.map fun p => .int .i64 p.1
def outsOf (ps : List (Int × Bool)) : List Value := ps.map fun p => .bool p.2

theorem turnsOf_get (ps : List (Int × Bool)) (i : Nat) (h : i < ps.length) : (turnsOf ps)[i]? = some (.int .i64 (ps.getD i default).1) := by
  simp [turnsOf, List.getD_eq_getElem?_getD, h]
theorem outsOf_get (ps : List (Int × Bool)) (i : Nat) (h : i < ps.length) : (outsOf ps)[i]? = some (.bool (ps.getD i default).2) := by
  simp [outsOf, List.getD_eq_getElem?_getD, h]
theorem turnsOf_set (ps : List (Int × Bool)) (i : Nat) (t : Int) (d : Bool) : turnsOf (ps.set i (t, d)) = (turnsOf ps).set i (.int .i64 t) := by simp [turnsOf, List.map_set]
theorem outsOf_set (ps : List (Int × Bool)) (i : Nat) (t : Int) (d : Bool) : outsOf (ps.set i (t, d)) = (outsOf ps).set i (.bool d) := by simp [outsOf, List.map_set]

/-- Block b begins with two slices, over the blocks a (turns) and c (what is out). -/
structure NamesAt (w : World) (b a c : Nat) (ps : List (Int × Bool)) : Prop where
  head0 : w.cell? ⟨b, 0, none⟩ = some (.slice (some ⟨a, 0, none⟩) ps.length ps.length)
  head1 : w.cell? ⟨b, 1, none⟩ = some (.slice (some ⟨c, 0, none⟩) ps.length ps.length)
  ba : b ≠ a
  bc : b ≠ c
  ac : a ≠ c
  turns : ∃ T, w.heap[a]? = some (.cells (turnsOf ps).toArray T (0, 0))
  outs : ∃ T, w.heap[c]? = some (.cells (outsOf ps).toArray T (0, 0))

section
variable {w : World} {b a c : Nat} {ps : List (Int × Bool)}

theorem NamesAt.turn (h : NamesAt w b a c ps) (i : Nat) (hi : i < ps.length) : w.cell? ⟨a, i, none⟩ = some (.int .i64 (ps.getD i default).1) := by
  obtain ⟨T, hr⟩ := h.turns
  simp only [World.cell?, hr]
  simpa using turnsOf_get ps i hi
theorem NamesAt.out (h : NamesAt w b a c ps) (i : Nat) (hi : i < ps.length) : w.cell? ⟨c, i, none⟩ = some (.bool (ps.getD i default).2) := by
  obtain ⟨T, hr⟩ := h.outs
  simp only [World.cell?, hr]
  simpa using outsOf_get ps i hi
theorem NamesAt.frozenA (h : NamesAt w b a c ps) (i : Nat) : w.frozen? ⟨a, i, none⟩ = false := by
  obtain ⟨T, hr⟩ := h.turns
  simp [World.frozen?, hr]
theorem NamesAt.frozenC (h : NamesAt w b a c ps) (i : Nat) : w.frozen? ⟨c, i, none⟩ = false := by
  obtain ⟨T, hr⟩ := h.outs
  simp [World.frozen?, hr]

theorem ne_addr {b c : Nat} {i j : Nat} (h : b ≠ c) : (⟨c, i, none⟩ : Addr) ≠ ⟨b, j, none⟩ := by intro e; injection e with e1; exact h e1.symm

theorem NamesAt.put (h : NamesAt w b a c ps) (i : Nat) (hi : i < ps.length) (t : Int) (d : Bool) :
    NamesAt ((w.setCell ⟨c, i, none⟩ (.bool d)).setCell ⟨a, i, none⟩ (.int .i64 t)) b a c (ps.set i (t, d)) := by
  obtain ⟨T, hr⟩ := h.turns
  obtain ⟨U, ho⟩ := h.outs
  refine ⟨?_, ?_, h.ba, h.bc, h.ac, ⟨T, ?_⟩, ⟨U, ?_⟩⟩
  · rw [World.cell?_setCell_other _ _ _ _ (ne_addr h.ba), World.cell?_setCell_other _ _ _ _ (ne_addr h.bc)]; simpa using h.head0
  · rw [World.cell?_setCell_other _ _ _ _ (ne_addr h.ba), World.cell?_setCell_other _ _ _ _ (ne_addr h.bc)]; simpa using h.head1
  · rw [turnsOf_set]; exact heap_setCell_row ((Below.heap_setCell _ _ _ _ h.ac).trans hr)
  · rw [outsOf_set, Below.heap_setCell _ _ _ _ (Ne.symm h.ac)]; exact heap_setCell_row ho

theorem NamesAt.free (h : NamesAt w b a c ps) (i : Nat) (hi : i < ps.length) :
    NamesAt (w.setCell ⟨c, i, none⟩ (.bool false)) b a c (ps.set i ((ps.getD i default).1, false)) := by
  obtain ⟨T, hr⟩ := h.turns
  obtain ⟨U, ho⟩ := h.outs
  refine ⟨?_, ?_, h.ba, h.bc, h.ac, ⟨T, ?_⟩, ⟨U, ?_⟩⟩
  · rw [World.cell?_setCell_other _ _ _ _ (ne_addr h.bc)]; simpa using h.head0
  · rw [World.cell?_setCell_other _ _ _ _ (ne_addr h.bc)]; simpa using h.head1
  · rw [turnsOf_set, set_same (turnsOf_get ps i hi)]; exact (Below.heap_setCell _ _ _ _ h.ac).trans hr
  · rw [outsOf_set]; exact heap_setCell_row ho

theorem NamesAt.below {w' : World} (h : NamesAt w b a c ps) {B : Nat} (hb : Below B w w') (h1 : b < B) (h2 : a < B) (h3 : c < B) : NamesAt w' b a c ps := by
  obtain ⟨T, hr⟩ := h.turns
  obtain ⟨U, ho⟩ := h.outs
  exact ⟨(hb.cell (p := ⟨b, 0, none⟩) h1).trans h.head0, (hb.cell (p := ⟨b, 1, none⟩) h1).trans h.head1, h.ba, h.bc, h.ac, ⟨T, (hb.block a h2).trans hr⟩, ⟨U, (hb.block c h3).trans ho⟩⟩

theorem NamesAt.lt (h : NamesAt w b a c ps) : b < w.heap.size ∧ a < w.heap.size ∧ c < w.heap.size := by
  obtain ⟨T, hr⟩ := h.turns
  obtain ⟨U, ho⟩ := h.outs
  exact ⟨World.block_lt_of_cell? w _ h.head0, (Array.getElem?_eq_some_iff.1 hr).1, (Array.getElem?_eq_some_iff.1 ho).1⟩
end

set_option maxHeartbeats 400000 in
theorem rtake_hit (b a c i : Nat) (w : World) (ps : List (Int × Bool)) (hn : ps.length ≤ 64) (hs : NamesAt w b a c ps) (hi : i < ps.length)
    (hfree : (ps.getD i default).2 = false) (hall : ∀ j, j < i → (ps.getD j default).2 = true) (t : Int) (ht0 : 0 ≤ t) (ht1 : t ≤ 1000000) (ht : (ps.getD i default).1 = t) :
    Calls Try.prog 32 #[.pointer (some ⟨b, 0, none⟩)] w fun e w' => e = .returned (.tuple #[.int .i64 (i + 64 * t), .int .i64 0]) ∧
      (w.setCell ⟨c, i, none⟩ (.bool true)).setCell ⟨a, i, none⟩ (.int .i64 (t + 1)) = w' := by
  have hb0 := hs.head0
  have hb1 := hs.head1
  have hba := hs.ba
  have hbc := hs.bc
  have hac := hs.ac
  obtain ⟨n, HN⟩ : ∃ n, Hid (ps.length = n) := ⟨_, Lib.hid rfl⟩
  rw [HN.out] at hb0 hb1 hn hi
  go_enter Try.func32, Try.ntmps32
  go_wp2
  go_loop [4] (fun x4 => ∃ k : Nat, k ≤ i ∧ x4 = .int .i64 k) (fun x4 => n - (intOf x4).toNat)
  case atStart => exact ⟨0, by omega, rfl⟩
  case round =>
    obtain ⟨k, hk, rfl⟩ := hrel
    have hkn : k < n := by omega
    have h1 := hs.turn k (by rw [HN.out]; exact hkn)
    have h2 := hs.out k (by rw [HN.out]; exact hkn)
    have h3 := hs.frozenA k
    have h4 := hs.frozenC k
    by_cases hlt : k < i
    · rw [hall k hlt] at h2
      clear hall ht hfree
      go_wp2
      go_round
      case rel => exact ⟨k + 1, by omega, by go_num⟩
      case measure => simp [intOf]; omega
    · obtain rfl : k = i := by omega
      rw [hfree] at h2
      rw [ht] at h1
      clear hall hfree
      have HT := Lib.hid ht
      clear ht
      have h5 : (w.setCell ⟨c, k, none⟩ (.bool true)).cell? ⟨a, k, none⟩ = some (.int .i64 t) := by
        rw [World.cell?_setCell_other _ _ _ _ (ne_addr hac)]; exact h1
      have h6 : ((w.setCell ⟨c, k, none⟩ (.bool true)).setCell ⟨a, k, none⟩ (.int .i64 (t + 1))).cell? ⟨a, k, none⟩ = some (.int .i64 (t + 1)) :=
        World.cell?_setCell_same _ _ _ h5
      have h7 : (w.setCell ⟨c, k, none⟩ (.bool true)).cell? ⟨b, 0, none⟩ = some (.slice (some ⟨a, 0, none⟩) n n) := by
        rw [World.cell?_setCell_other _ _ _ _ (ne_addr hbc)]; exact hb0
      have h8 : ((w.setCell ⟨c, k, none⟩ (.bool true)).setCell ⟨a, k, none⟩ (.int .i64 (t + 1))).cell? ⟨b, 0, none⟩ = some (.slice (some ⟨a, 0, none⟩) n n) := by
        rw [World.cell?_setCell_other _ _ _ _ (ne_addr hba)]; exact h7
      go_wp2
      go_ret2
      exact ⟨by simp [Int.add_sub_cancel], rfl⟩

set_option maxHeartbeats 400000 in
theorem rtake_miss (b a c : Nat) (w : World) (ps : List (Int × Bool)) (hn : ps.length ≤ 64) (hs : NamesAt w b a c ps)
    (hall : ∀ j, j < ps.length → (ps.getD j default).2 = true) :
    Calls Try.prog 32 #[.pointer (some ⟨b, 0, none⟩)] w fun e w' => e = .returned (.tuple #[.int .i64 0, .int .i64 3]) ∧ w = w' := by
  have hb1 := hs.head1
  obtain ⟨n, HN⟩ : ∃ n, Hid (ps.length = n) := ⟨_, Lib.hid rfl⟩
  rw [HN.out] at hb1 hn hall
  go_enter Try.func32, Try.ntmps32
  go_wp2
  go_loop [4] (fun x4 => ∃ k : Nat, k ≤ n ∧ x4 = .int .i64 k) (fun x4 => n - (intOf x4).toNat)
  case atStart => exact ⟨0, by omega, rfl⟩
  case round =>
    obtain ⟨k, hk, rfl⟩ := hrel
    by_cases hlt : k < n
    · have h2 := hs.out k (by rw [HN.out]; exact hlt)
      rw [hall k hlt] at h2
      clear hall
      go_wp2
      go_round
      case rel => exact ⟨k + 1, by omega, by go_num⟩
      case measure => simp [intOf]; omega
    · clear hall
      go_wp2
      go_ret2
      exact ⟨rfl, rfl⟩

end Go.Proofs.Ytjnmdkdgkjakoaa
