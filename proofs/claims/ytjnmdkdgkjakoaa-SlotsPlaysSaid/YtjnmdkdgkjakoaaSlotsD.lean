/- Package slots, each call as a plain function on the row of places; and the law's own 'awake'. -/
import Derived.Test.YtjnmdkdgkjakoaaSlotsC
namespace Go.Proofs.Ytjnmdkdgkjakoaa
open Go.RowKit
set_option linter.unusedVariables false
set_option linter.unusedSimpArgs false

/-- All turns are of a size. -/
def Sized (ps : List (Int × Bool)) : Prop := ps.length ≤ 64 ∧ ∀ j, j < ps.length → 0 ≤ (ps.getD j default).1 ∧ (ps.getD j default).1 ≤ 1000000

/-- Take, as a plain function: the name, the error, the places behind it. -/
def takeP (ps : List (Int × Bool)) : Int × Int × List (Int × Bool) :=
  match ps.findIdx? (fun p => !p.2) with
  | some i => ((i : Int) + 64 * (ps.getD i default).1, 0, ps.set i ((ps.getD i default).1 + 1, true))
  | none => (0, 3, ps)

/-- Free, as a plain function. -/
def freeP (ps : List (Int × Bool)) (id : Int) : Int × List (Int × Bool) :=
  if hasB ps id = true then (0, ps.set (id % 64).toNat ((ps.getD (id % 64).toNat default).1, false)) else (2, ps)

theorem getD_of {ps : List (Int × Bool)} {i : Nat} (h : i < ps.length) : ps.getD i default = ps[i] := by
  simp [List.getD_eq_getElem?_getD, h]

theorem take_w (b a : Nat) (w : World) (ps : List (Int × Bool)) (hs : SlotsAt w b a ps) (hz : Sized ps) (B : Nat) (hB : B ≤ a) :
    Calls Try.prog 24 #[.pointer (some ⟨b, 0, none⟩)] w fun e w' => e = .returned (.tuple #[.int .i64 (takeP ps).1, .int .i64 (takeP ps).2.1]) ∧
      SlotsAt w' b a (takeP ps).2.2 ∧ w'.heap.size = w.heap.size ∧ Below B w w' := by
  cases hf : ps.findIdx? (fun p => !p.2) with
  | none =>
    have e : takeP ps = (0, 3, ps) := by unfold takeP; rw [hf]
    rw [e]
    refine (take_miss b a w ps hz.1 hs ?_).mono ?_
    · intro j hj
      have := List.findIdx?_eq_none_iff.1 hf (ps[j]) (List.getElem_mem hj)
      rw [getD_of hj]
      simpa using this
    · rintro e w' ⟨rfl, rfl⟩
      exact ⟨rfl, hs, rfl, Below.refl _ _⟩
  | some i =>
    have e : takeP ps = ((i : Int) + 64 * (ps.getD i default).1, 0, ps.set i ((ps.getD i default).1 + 1, true)) := by unfold takeP; rw [hf]
    obtain ⟨hi, h1, h2⟩ := List.findIdx?_eq_some_iff_getElem.1 hf
    have ht := hz.2 i hi
    rw [e]
    refine (take_hit b a i w ps hz.1 hs hi ?_ ?_ _ ht.1 ht.2 rfl).mono ?_
    · rw [getD_of hi]; simpa using h1
    · intro j hj
      have := h2 j hj
      rw [getD_of (by omega)]
      simpa using this
    · rintro e w' ⟨rfl, rfl⟩
      exact ⟨rfl, hs.set i hi _ _, by simp, ((Below.refl _ _).setCell hB _).setCell hB _⟩

theorem free_w (b a : Nat) (id : Int) (w : World) (ps : List (Int × Bool)) (hs : SlotsAt w b a ps) (hz : Sized ps) (B : Nat) (hB : B ≤ a) (h2 : id ≤ 9223372036854775807) :
    Calls Try.prog 25 #[.pointer (some ⟨b, 0, none⟩), .int .i64 id] w fun e w' => e = .returned (.int .i64 (freeP ps id).1) ∧
      SlotsAt w' b a (freeP ps id).2 ∧ w'.heap.size = w.heap.size ∧ Below B w w' := by
  refine (free_any b a id w ps hz.1 hs h2 hz.2).mono ?_
  rintro e w' ⟨rfl, rfl⟩
  unfold freeP
  by_cases h : hasB ps id = true
  · simp only [if_pos h]
    have g := h
    unfold hasB at g
    simp only [Bool.and_eq_true, decide_eq_true_eq] at g
    refine ⟨trivial, hs.free _ g.2.1, by simp, (Below.refl _ _).setCell hB _⟩
  · simp only [if_neg h]
    exact ⟨trivial, hs, trivial, Below.refl _ _⟩

theorem len_w (b a : Nat) (w : World) (ps : List (Int × Bool)) (hs : SlotsAt w b a ps) (hz : Sized ps) (B : Nat) (hB : B ≤ w.heap.size) :
    Calls Try.prog 30 #[.pointer (some ⟨b, 0, none⟩)] w fun e w' => e = .returned (.int .i64 (nm ps ps.length).length) ∧ SlotsAt w' b a ps ∧ Below B w w' := by
  refine (len_any b a w ps hz.1 hs hz.2).mono ?_
  rintro e w' ⟨rfl, hb⟩
  exact ⟨rfl, hs.below hb hs.lt.1 hs.lt.2, hb.mono hB⟩

theorem has_w (b a : Nat) (id : Int) (w : World) (ps : List (Int × Bool)) (hs : SlotsAt w b a ps) (hz : Sized ps) (h2 : id ≤ 9223372036854775807) :
    Calls Try.prog 27 #[.pointer (some ⟨b, 0, none⟩), .int .i64 id] w fun e w' => e = .returned (.bool (hasB ps id)) ∧ w = w' :=
  has_any b a id w ps hz.1 hs h2 hz.2

theorem sized_of (ps : List (Int × Bool)) (h : (decide (ps.length ≤ 64) && ps.all fun p => decide (0 ≤ p.1) && decide (p.1 ≤ 1000000)) = true) : Sized ps := by
  simp only [Bool.and_eq_true, decide_eq_true_eq, List.all_eq_true] at h
  refine ⟨h.1, fun j hj => ?_⟩
  rw [getD_of hj]
  exact h.2 _ (List.getElem_mem hj)

set_option maxHeartbeats 400000 in
theorem awake_any (w : World) : Calls Try.prog 22 #[] w fun e w' => e = .returned (.bool true) ∧ Below w.heap.size w w' := by
  go_enter Try.func22, Try.ntmps22
  go_wp2_with fail
  refine (new_any 4 w (by omega) (by omega)).mono ?_
  rintro e w1 ⟨rfl, hs, hz, hb⟩
  replace hs : SlotsAt w1 (w.heap.size + 1) w.heap.size [(0, false), (0, false), (0, false), (0, false)] := hs
  go_wp2_with fail
  refine (take_w _ _ w1 _ hs (sized_of _ (by decide)) w.heap.size (Nat.le_refl _)).mono ?_
  rintro e w2 ⟨rfl, hs2, hz2, hb2⟩
  replace hs2 : SlotsAt w2 (w.heap.size + 1) w.heap.size [(1, true), (0, false), (0, false), (0, false)] := hs2
  rw [show takeP [(0, false), (0, false), (0, false), (0, false)] = (0, 0, [(1, true), (0, false), (0, false), (0, false)]) from rfl]
  clear hs
  go_wp2_with fail
  refine (take_w _ _ w2 _ hs2 (sized_of _ (by decide)) w.heap.size (Nat.le_refl _)).mono ?_
  rintro e w3 ⟨rfl, hs3, hz3, hb3⟩
  replace hs3 : SlotsAt w3 (w.heap.size + 1) w.heap.size [(1, true), (1, true), (0, false), (0, false)] := hs3
  rw [show takeP [(1, true), (0, false), (0, false), (0, false)] = (1, 0, [(1, true), (1, true), (0, false), (0, false)]) from rfl]
  clear hs2
  go_wp2_with fail
  refine (free_w _ _ 0 w3 _ hs3 (sized_of _ (by decide)) w.heap.size (Nat.le_refl _) (by omega)).mono ?_
  rintro e w4 ⟨rfl, hs4, hz4, hb4⟩
  replace hs4 : SlotsAt w4 (w.heap.size + 1) w.heap.size [(1, false), (1, true), (0, false), (0, false)] := hs4
  rw [show freeP [(1, true), (1, true), (0, false), (0, false)] 0 = (0, [(1, false), (1, true), (0, false), (0, false)]) from rfl]
  clear hs3
  go_wp2_with fail
  refine (take_w _ _ w4 _ hs4 (sized_of _ (by decide)) w.heap.size (Nat.le_refl _)).mono ?_
  rintro e w5 ⟨rfl, hs5, hz5, hb5⟩
  rw [show takeP [(1, false), (1, true), (0, false), (0, false)] = (64, 0, [(2, true), (1, true), (0, false), (0, false)]) from rfl]
  clear hs4 hs5
  go_wp2
  go_ret
  exact ⟨rfl, (((hb.trans hb2).trans hb3).trans hb4).trans hb5⟩

end Go.Proofs.Ytjnmdkdgkjakoaa
