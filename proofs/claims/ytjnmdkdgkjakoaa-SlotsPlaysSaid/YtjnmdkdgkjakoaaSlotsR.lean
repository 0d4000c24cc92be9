/- What the map of given names holds: no name that is still to come. -/
import Derived.Test.YtjnmdkdgkjakoaaSlotsQ
import Derived.Maps.Views
import Derived.Maps.OwnSet
namespace Go.Proofs.Ytjnmdkdgkjakoaa
open Go.RowKit
set_option linter.unusedVariables false
set_option linter.unusedSimpArgs false

theorem zero4 (w : World) : (zeroValue 4).run Try.prog w = .ok (.bool false) w := by kernel_rfl

/-- A name that is still to come is not in the map. -/
def Untold (ps : List (Int × Bool)) (D : DataW Unit) : Prop :=
  ∀ x : Int, 0 ≤ x → (x % 64).toNat < ps.length → (ps.getD (x % 64).toNat default).1 ≤ x / 64 → D.atKey (.int .i64 x) (.lit (.bool false)) = .lit (.bool false)

/-- The places, k steps on. -/
def Upto (ps : List (Int × Bool)) (k : Nat) : Prop := ps.length ≤ 64 ∧ ∀ j, j < ps.length → 0 ≤ (ps.getD j default).1 ∧ (ps.getD j default).1 ≤ k

theorem Upto.sized {ps : List (Int × Bool)} {k : Nat} (h : Upto ps k) (hk : k ≤ 1000000) : Sized ps := ⟨h.1, fun j hj => ⟨(h.2 j hj).1, by have := (h.2 j hj).2; omega⟩⟩

theorem Upto.more {ps : List (Int × Bool)} {k : Nat} (h : Upto ps k) : Upto ps (k + 1) := ⟨h.1, fun j hj => ⟨(h.2 j hj).1, by have := (h.2 j hj).2; omega⟩⟩

theorem getD_set {ps : List (Int × Bool)} {i j : Nat} (hi : i < ps.length) (v : Int × Bool) : (ps.set i v).getD j default = if i = j then v else ps.getD j default := by
  simp only [List.getD_eq_getElem?_getD, List.getElem?_set]
  split
  · rename_i h
    subst h
    simp [hi]
  · rfl

/-- What Take answers: a place that was free, its old turn in the name, its turn one on; or nothing. -/
theorem takeP_cases (ps : List (Int × Bool)) :
    takeP ps = (0, 3, ps) ∨ ∃ i, i < ps.length ∧ takeP ps = ((i : Int) + 64 * (ps.getD i default).1, 0, ps.set i ((ps.getD i default).1 + 1, true)) := by
  cases hf : ps.findIdx? (fun p => !p.2) with
  | none => exact .inl (by unfold takeP; rw [hf])
  | some i =>
    obtain ⟨hi, h1, h2⟩ := List.findIdx?_eq_some_iff_getElem.1 hf
    exact .inr ⟨i, hi, by unfold takeP; rw [hf]⟩

theorem Upto.set {ps : List (Int × Bool)} {k i : Nat} (h : Upto ps k) (hi : i < ps.length) : Upto (ps.set i ((ps.getD i default).1 + 1, true)) (k + 1) := by
  refine ⟨by simpa using h.1, fun j hj => ?_⟩
  rw [getD_set hi]
  split
  · have h2 := h.2 i hi
    show 0 ≤ (ps.getD i default).1 + 1 ∧ (ps.getD i default).1 + 1 ≤ ((k + 1 : Nat) : Int)
    omega
  · have h2 := h.2 j (by simpa using hj)
    omega

theorem untold_name {ps : List (Int × Bool)} {D : DataW Unit} {k i : Nat} (hu : Upto ps k) (h : Untold ps D) (hi : i < ps.length) :
    D.atKey (.int .i64 ((i : Int) + 64 * (ps.getD i default).1)) (.lit (.bool false)) = .lit (.bool false) := by
  have h1 := hu.1
  have h2 := hu.2 i hi
  have e1 : (((i : Int) + 64 * (ps.getD i default).1) % 64).toNat = i := by omega
  refine h _ (by omega) (by rw [e1]; exact hi) ?_
  rw [e1]
  omega

theorem untold_put {ps : List (Int × Bool)} {D : DataW Unit} {k i : Nat} (hu : Upto ps k) (h : Untold ps D) (hi : i < ps.length) (d : DataW Unit) :
    Untold (ps.set i ((ps.getD i default).1 + 1, true)) (D.put (.int .i64 ((i : Int) + 64 * (ps.getD i default).1)) d) := by
  have h1 := hu.1
  have h2 := hu.2 i hi
  intro x hx hl ht
  rw [getD_set hi] at ht
  rw [List.length_set] at hl
  by_cases e : i = (x % 64).toNat
  · rw [if_pos e] at ht
    simp only at ht
    rw [Maps.atKey_put_other (by intro c; simp only [Lit.int.injEq, true_and] at c; omega)]
    refine h x hx hl ?_
    rw [← e]
    omega
  · rw [if_neg e] at ht
    rw [Maps.atKey_put_other (by intro c; simp only [Lit.int.injEq, true_and] at c; omega)]
    exact h x hx hl ht

theorem freeP_turns (ps : List (Int × Bool)) (id : Int) : (freeP ps id).2.length = ps.length ∧ ∀ j, ((freeP ps id).2.getD j default).1 = (ps.getD j default).1 := by
  unfold freeP
  split
  · rename_i h
    refine ⟨by simp, fun j => ?_⟩
    unfold hasB at h
    simp only [Bool.and_eq_true, decide_eq_true_eq] at h
    rw [getD_set h.2.1]
    split
    · rename_i e
      rw [e]
    · rfl
  · exact ⟨rfl, fun _ => rfl⟩

theorem Upto.free {ps : List (Int × Bool)} {k : Nat} (h : Upto ps k) (id : Int) : Upto (freeP ps id).2 k := by
  obtain ⟨h1, h2⟩ := freeP_turns ps id
  exact ⟨by rw [h1]; exact h.1, fun j hj => by rw [h2]; exact h.2 j (by rw [← h1]; exact hj)⟩

theorem Untold.free {ps : List (Int × Bool)} {D : DataW Unit} (h : Untold ps D) (id : Int) : Untold (freeP ps id).2 D := by
  obtain ⟨h1, h2⟩ := freeP_turns ps id
  intro x hx hl ht
  exact h x hx (by rw [← h1]; exact hl) (by rw [← h2]; exact ht)

theorem keyed3 : Maps.Keyed Try.prog 3 := Maps.int_keyed Try.underlying3

theorem key3 {x : Int} (h0 : 0 ≤ x) (h1 : x ≤ 9223372036854775807) : keyOf Try.prog 3 (.int .i64 x) = some (.int .i64 x) := by
  have hw : (Lit.int .i64 x).wf = true := by simp [Lit.wf, IntKind.min, IntKind.max, IntKind.signed, IntKind.bits]; omega
  unfold keyOf
  rw [Try.underlying3]
  simp [mapKey, Try.underlying3, hw]

theorem bool_inv {v : Value} {ps : List MemPlace} {c : Bool} (h : plainElem (H := Unit) Try.prog 4 v = some (.lit (.bool c), ps)) : v = .bool c := by
  unfold plainElem at h
  rw [Try.underlying4] at h
  cases v <;> simp at h
  rw [h.1]

section
variable {w0 W : World} {b a b' a' c' g n N M : Nat} {ps qs : List (Int × Bool)} {D : DataW Unit}

theorem pl_look (h : Play w0 b a b' a' c' g n ps qs D W) {x : Int} (h0 : 0 ≤ x) (h1 : x ≤ 9223372036854775807) (hD : D.atKey (.int .i64 x) (.lit (.bool false)) = .lit (.bool false)) :
    (Instr.lookup 47 (.map (some g)) (.int .i64 x) false).run Try.prog W = .ok (.bool false) W := by
  obtain ⟨v, ps, hrun, hv⟩ := h.hm.lookup (t := 47) (e := 4) keyed3 Try.underlying47 (zero4 W) (plainElem_bool Try.underlying4 false) (key3 h0 h1)
  rw [hD] at hv
  rw [bool_inv hv] at hrun
  exact hrun

theorem pl_store (L : Lies w0.heap.size b a b' a' c' g N M) (h : Play w0 b a b' a' c' g n ps qs D W) (hn : n < 1000) {x : Int} (h0 : 0 ≤ x) (h1 : x ≤ 9223372036854775807) :
    ∃ w', (Instr.mapUpdate 47 (.map (some g)) (.int .i64 x) (.bool true)).run Try.prog W = .ok () w' ∧ Play w0 b a b' a' c' g (n + 1) ps qs (D.put (.int .i64 x) (.lit (.bool true))) w' := by
  have f1 := L.h1; have f2 := L.h2; have f3 := L.h3; have f4 := L.h4; have f5 := L.h5; have f6 := L.h6; have f7 := L.h7; have f8 := L.h8; have f9 := L.h9; have fx := L.hx; have fy := L.hy
  obtain ⟨w', hrun, k1, k2⟩ := h.hm.update (t := 47) (e := 4) keyed3 Try.underlying47 (by unfold maxLen; omega) (key3 h0 h1) (plainElem_bool Try.underlying4 true)
  have kk : ∀ k, k < W.heap.size → k ≠ g → w'.heap[k]? = W.heap[k]? := fun k hk hg => k2.block k hk (by simp; exact hg)
  have l1 := h.hs.lt
  have l2 := h.hn.lt
  refine ⟨w', hrun, h.hs.same (kk _ l1.1 (by omega)) (kk _ l1.2 (by omega)), h.hn.same (kk _ l2.1 (by omega)) (kk _ l2.2.1 (by omega)) (kk _ l2.2.2 (by omega)), k1, ?_⟩
  refine h.hb.trans ⟨k2.os, k2.tape, k2.output, k2.size, fun k hk => kk k (by have := h.hb.size; omega) (by omega)⟩

end
end Go.Proofs.Ytjnmdkdgkjakoaa
