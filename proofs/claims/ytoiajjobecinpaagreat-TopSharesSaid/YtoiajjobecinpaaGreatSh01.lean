/- A region that draws its order: its first operations only read, in a class of worlds; then a tail that makes memory; one that is apart from all was taken ahead. What a call leaves as it was: all blocks but those of a set, and new ones. Points in memory: a line's row. Weights: which may be, how far a tick takes one. Lines as plain lists of points: what the walks of package owed compute. A line in memory; where a task is in it. The task that is least far: contracts of Least and of slices.MinFunc at points; grow. slices.MinFunc at points. Least, grow. grow. -/
import Derived.BigQuiet
import Derived.Test.YtoiajjobecinpaaGreatRows
import Derived.WalkKit
import Derived.ProofKit
import Derived.Below
import Derived.Lib.Hide
import Derived.StillTail
import Derived.Laws.AppendOwn
import Derived.Lib.SlBy
import Derived.Shelf.SlicesQ.IndexFunc
import Derived.Ground.SlgfProg
import Derived.Deep.QuietTactic
import Derived.Deep.DeepCutAuto
import Derived.Deep.RegionHeld3

namespace Go.Proofs.YtoiajjobecinpaaGreat
open Go.RowKit
set_option linter.unusedVariables false
set_option linter.unusedSimpArgs false

section
variable {P : Program} {ops : Array Oper} {md : Region.Mode} {C : World → Prop}

/-- The operations below n are the head, those from n on up to m the tail; those from m on are done. -/
structure QInv (md : Region.Mode) (ops : Array Oper) (n m : Nat) (listed : Array Bool) : Prop where
  size : listed.size = ops.size
  closed : ∀ j oj, ops[j]? = some oj → listed.getD j false = true → ∀ e ∈ oj.after, Region.binds md e = true → listed.getD e.on false = true
  tail : ∀ t, n ≤ t → t < m → listed.getD t true = false
  done : ∀ t, m ≤ t → listed.getD t true = true

theorem QInv.set {n m i : Nat} {listed : Array Bool} (inv : QInv md ops n m listed) (hi : i ∈ Region.ready md ops listed) (hin : i < n) : QInv md ops n m (listed.setIfInBounds i true) := by
  obtain ⟨_, oi, hoi, hall⟩ := mem_ready.1 hi
  refine ⟨by simp [inv.size], fun j oj hj hl e he hb => ?_, fun t ht ht' => by rw [getD_set_ne true (by omega)]; exact inv.tail t ht ht', fun t ht => ?_⟩
  · by_cases hij : i = j
    · subst hij
      have : oj = oi := Option.some.inj (hj.symm.trans hoi)
      subst this
      exact getD_set_true (hall e he hb)
    · rw [getD_set_ne false hij] at hl
      exact getD_set_true (inv.closed j oj hj hl e he hb)
  · by_cases hit : i = t
    · subst hit
      by_cases h : i < listed.size
      · simp [h]
      · simp [h]
    · rw [getD_set_ne true hit]
      exact inv.done t ht

/-- Each head operation is waited for, at last, by the first of the tail. -/
def tailB (md : Region.Mode) (ops : Array Oper) (n m : Nat) : Bool := (List.range m).all fun t => decide (t ≤ n) || Region.waitsFor md ops t (t - 1)

theorem no_tail {n m : Nat} {listed : Array Bool} (hs : Region.sinkB md ops n = true) (hc : tailB md ops n m = true) (hn : n < ops.size) (inv : QInv md ops n m listed) (hnm : n < m) :
    ∀ (d i : Nat), n - i = d → i < n → listed.getD i true = false → ∀ t, n ≤ t → t ∉ Region.ready md ops listed := by
  intro d
  induction d using Nat.strongRecOn with
  | _ d ih =>
    intro i hd hi hun t ht hr
    obtain ⟨htun, ot, hot, hall⟩ := mem_ready.1 hr
    rcases Nat.lt_or_ge t m with htm | htm
    · by_cases htn : t = n
      · subst htn
        obtain ⟨j, hj, hj2⟩ := List.any_eq_true.1 (List.all_eq_true.1 hs i (List.mem_range.2 hi))
        simp only [Bool.and_eq_true, decide_eq_true_eq] at hj2
        obtain ⟨oj, hoj, e, he, hb, hon⟩ := Region.waitsFor_spec hj2.2
        have hjle : j ≤ t := by have := List.mem_range.1 hj; omega
        by_cases hjt : j = t
        · subst hjt
          have : oj = ot := Option.some.inj (hoj.symm.trans hot)
          subst this
          have h2 := hall e he hb
          rw [hon, getD_both hun] at h2
          cases h2
        · cases hl : listed.getD j false with
          | true =>
            have h2 := inv.closed j oj hoj hl e he hb
            rw [hon, getD_both hun] at h2
            cases h2
          | false =>
            have hjs : j < listed.size := by rw [inv.size]; omega
            exact ih (t - j) (by omega) j rfl (by omega) (getD_in hjs hl) t (Nat.le_refl _) hr
      · have h1 := List.all_eq_true.1 hc t (List.mem_range.2 htm)
        simp only [Bool.or_eq_true, decide_eq_true_eq] at h1
        rcases h1 with h1 | h1
        · omega
        · obtain ⟨o', ho', e, he, hb, hon⟩ := Region.waitsFor_spec h1
          have : o' = ot := Option.some.inj (ho'.symm.trans hot)
          subst this
          have h2 := hall e he hb
          rw [hon, getD_both (inv.tail (t - 1) (by omega) (by omega))] at h2
          cases h2
    · have := inv.done t htm
      rw [htun] at this
      cases this

def wpAnyQL (P : Program) (md : Region.Mode) (ops : Array Oper) (C : World → Prop) (n : Nat) (L : Array Bool → Act → Prop) : Nat → Array Bool → Act → Prop
  | 0, listed, a => L listed a
  | f + 1, listed, a => Region.ready md ops listed ≠ [] ∧ ∀ i ∈ Region.ready md ops listed, i < n ∧ qOp P ops C i (wpAnyQL P md ops C n L f (listed.setIfInBounds i true)) a

theorem wpAny_of_QL {n g : Nat} {L : Array Bool → Act → Prop} {Q' : Exit → Act → World → Prop} (hL : ∀ listed a w, C w → L listed a → wpAny P md ops Q' g listed a w) :
    ∀ (f : Nat) (listed : Array Bool) (a : Act) (w : World), C w → wpAnyQL P md ops C n L f listed a → wpAny P md ops Q' (f + g) listed a w
  | 0, listed, a, w, hw, h => by rw [Nat.zero_add]; exact hL _ _ _ hw h
  | f + 1, listed, a, w, hw, h => by
    rw [show f + 1 + g = (f + g) + 1 by omega]
    exact ⟨fun h0 => absurd h0 h.1, fun i hi => wpOp_of_qOp hw (fun a' w' hw' h' => wpAny_of_QL hL f _ a' w' hw' h') (h.2 i hi).2⟩

theorem wpAnyQL_first {n m i : Nat} {oi : Oper} {v : Value} {L : Array Bool → Act → Prop} (hi : ops[i]? = some oi) (hsel : ∀ (j : Nat) (o : Oper) cs b, ops[j]? = some o → o.op ≠ .select cs b)
    (hs : Region.sinkB md ops n = true) (hc : tailB md ops n m = true) (hn : n < ops.size) (hnm : n < m) (hin : i < n)
    (hdone : ∀ listed a, L listed a → ∀ j ∈ Region.ready md ops listed, n ≤ j) :
    ∀ (f : Nat) (listed : Array Bool) (a : Act), QInv md ops n m listed →
      (∀ j oj, ops[j]? = some oj → j ≠ i → listed.getD j true = false → (∀ e ∈ oj.after, Region.binds md e = true → e.on ≠ i) → oi.apart ops oj = true) →
      i ∈ Region.ready md ops listed → YieldsIn P ops C oi v a →
      wpAnyQL P md ops C n L f (listed.setIfInBounds i true) (a.put oi.dst v) → wpAnyQL P md ops C n L (f + 1) listed a := by
  intro f
  induction f with
  | zero =>
    intro listed a inv _ hr hy H
    have hun := (mem_ready.1 hr).1
    refine ⟨fun h => (by rw [h] at hr; cases hr), fun j hj => ?_⟩
    have hjn : j < n := by
      rcases Nat.lt_or_ge j n with h | h
      · exact h
      · exact absurd hj (no_tail hs hc hn inv hnm _ i rfl hin hun j h)
    refine ⟨hjn, ?_⟩
    by_cases hji : j = i
    · subst hji; exact hy.qOp hi H
    · have := hdone _ _ H j (ready_mono hj hji)
      omega
  | succ f ih =>
    intro listed a inv hfree hr hy H
    have hun := (mem_ready.1 hr).1
    refine ⟨fun h => (by rw [h] at hr; cases hr), fun j hj => ?_⟩
    have hjn : j < n := by
      rcases Nat.lt_or_ge j n with h | h
      · exact h
      · exact absurd hj (no_tail hs hc hn inv hnm _ i rfl hin hun j h)
    refine ⟨hjn, ?_⟩
    by_cases hji : j = i
    · subst hji; exact hy.qOp hi H
    · have h1 := (H.2 j (ready_mono hj hji)).2
      obtain ⟨hjun, oj, hoj, hall⟩ := mem_ready.1 hj
      have hnot : ∀ e ∈ oj.after, Region.binds md e = true → e.on ≠ i := fun e he hb heq => by
        have h1 := hall e he hb
        rw [heq, getD_both hun] at h1
        cases h1
      have h2 := qOp_put hoj (hfree j oj hoj hji hjun hnot) (fun cs b => hsel i oi cs b hi) (fun cs b => hsel j oj cs b hoj) hy h1
      have hfree' : ∀ k ok, ops[k]? = some ok → k ≠ i → (listed.setIfInBounds j true).getD k true = false →
          (∀ e ∈ ok.after, Region.binds md e = true → e.on ≠ i) → oi.apart ops ok = true := fun k ok hk hki hun hno => by
        refine hfree k ok hk hki ?_ hno
        by_cases hjk : j = k
        · subst hjk; exact hjun
        · rw [getD_set_ne true hjk] at hun; exact hun
      refine qOp_mono (fun a' h3 => ih (listed.setIfInBounds j true) a' (inv.set hj hjn) hfree' (ready_mono hr (Ne.symm hji)) h3.1 ?_) h2
      rw [Array.setIfInBounds_comm _ _ hji]
      exact h3.2

/-- What is listed behind the head. -/
def headSet : Nat → Nat → Array Bool → Array Bool
  | 0, _, listed => listed
  | f + 1, k, listed => headSet f (k + 1) (listed.setIfInBounds k true)

def headB (md : Region.Mode) (ops : Array Oper) (n : Nat) : Nat → Nat → Array Bool → Bool
  | 0, _, listed => (Region.ready md ops listed).all fun j => decide (n ≤ j)
  | f + 1, k, listed => decide (k < n) && (Region.ready md ops listed).contains k && Region.free md ops listed k && headB md ops n f (k + 1) (listed.setIfInBounds k true)

theorem wpAnyQL_lex {n m : Nat} {R : Act → Prop} (hsel : Region.noSelect ops = true) (hs : Region.sinkB md ops n = true) (hc : tailB md ops n m = true) (hn : n < ops.size) (hnm : n < m) (LF : Array Bool)
    (hLF : ∀ j ∈ Region.ready md ops LF, n ≤ j) :
    ∀ (l : List Oper) (k : Nat) (listed : Array Bool) (a : Act), (∀ j, j < l.length → l[j]? = ops[k + j]?) → QInv md ops n m listed → headB md ops n l.length k listed = true → headSet l.length k listed = LF →
      wpQuiet P ops C R l a → wpAnyQL P md ops C n (fun listed a => listed = LF ∧ R a) l.length listed a
  | [], _, listed, _, _, _, _, hf, h => ⟨hf, h⟩
  | o :: l, k, listed, a, hl, inv, hB, hf, h => by
    have h0 : ops[k]? = some o := by simpa using (hl 0 (by simp)).symm
    simp only [List.length_cons, headB, Bool.and_eq_true, decide_eq_true_eq] at hB
    obtain ⟨⟨⟨hkn, hr⟩, hfr⟩, hB'⟩ := hB
    have hr' : k ∈ Region.ready md ops listed := by simpa using hr
    have hst : qOp P ops C k (wpQuiet P ops C R l) a := by unfold qOp; simp only [h0]; exact h
    obtain ⟨v, hy, hK⟩ := yieldsIn_of_qOp h0 hst
    refine wpAnyQL_first h0 (Region.noSelect_spec hsel) hs hc hn hnm hkn (fun listed a hL j hj => hLF j (by rw [← hL.1]; exact hj)) l.length listed a inv (Region.free_spec h0 hfr) hr' hy ?_
    exact wpAnyQL_lex hsel hs hc hn hnm LF hLF l (k + 1) _ _ (fun j hj => by have := hl (j + 1) (by simp; omega); simpa [Nat.add_assoc, Nat.add_comm 1 j] using this) (inv.set hr' hkn) hB' hf hK

theorem qinv_start (ops : Array Oper) (md : Region.Mode) (n m : Nat) (listed : Array Bool) (hm : m ≤ ops.size) (h : (decide (listed.size = ops.size) && (List.range ops.size).all fun t => (if t < m then listed.getD t true == false else listed.getD t true == true && ((ops[t]?).map fun o => o.after.isEmpty).getD false)) = true) : QInv md ops n m listed := by
  simp only [Bool.and_eq_true, decide_eq_true_eq, List.all_eq_true, List.mem_range] at h
  obtain ⟨hz, hall⟩ := h
  refine ⟨hz, fun j oj hj hl e he hb => ?_, fun t ht ht' => ?_, fun t ht => ?_⟩
  · have hlt : j < ops.size := (Array.getElem?_eq_some_iff.1 hj).1
    have := hall j hlt
    split at this
    · have h1 : listed.getD j true = false := by simpa using this
      rw [getD_both h1] at hl
      cases hl
    · simp only [hj, Option.map_some, Option.getD_some, Bool.and_eq_true, Array.isEmpty_iff] at this
      rw [this.2] at he
      simp at he
  · by_cases hlt : t < ops.size
    · have := hall t hlt
      rw [if_pos ht'] at this
      simpa using this
    · omega
  · by_cases hlt : t < ops.size
    · have := hall t hlt
      rw [if_neg (by omega)] at this
      simp only [Bool.and_eq_true] at this
      simpa using this.1
    · simp [hz, hlt]

theorem wpAny_seqT {Q' : Exit → Act → World → Prop} : ∀ (l : List Oper) (k : Nat) (listed : Array Bool) (a : Act) (w : World), (∀ j, j < l.length → l[j]? = ops[k + j]?) →
    Region.seqB md ops l.length k listed = true → wpList P ops Q' l a w → wpAny P md ops Q' l.length listed a w
  | [], _, _, _, _, _, hB, h => ⟨by simpa [Region.seqB] using hB, h⟩
  | o :: l, k, listed, a, w, hl, hB, h => by
    have h0 : ops[k]? = some o := by simpa using (hl 0 (by simp)).symm
    simp only [List.length_cons, Region.seqB, Bool.and_eq_true, decide_eq_true_eq] at hB
    refine ⟨fun h1 => (by rw [hB.1] at h1; cases h1), fun i hi => ?_⟩
    rw [hB.1] at hi
    have hik : i = k := by simpa using hi
    subst hik
    have hw : wpOp P ops Q' i (wpList P ops Q' l) a w := by unfold wpOp; simp only [h0]; exact h
    exact wpOp_mono (fun a' w' h' => wpAny_seqT l (i + 1) _ a' w' (fun j hj => by have := hl (j + 1) (by simp; omega); simpa [Nat.add_assoc, Nat.add_comm 1 j] using this) hB.2 h') hw

/-- The checks: all of them by reckoning. -/
def regionHeadB (md : Region.Mode) (ops : Array Oper) (n : Nat) : Bool :=
  let m := ops.size - 1
  let L0 := (Array.replicate ops.size false).setIfInBounds m true
  Region.noSelect ops && decide (n < m) && Region.sinkB md ops n && tailB md ops n m && Region.free md ops (Array.replicate ops.size false) m && (Region.ready md ops (Array.replicate ops.size false)).contains m &&
    (decide (L0.size = ops.size) && (List.range ops.size).all fun t => (if t < m then L0.getD t true == false else L0.getD t true == true && ((ops[t]?).map fun o => o.after.isEmpty).getD false)) &&
    headB md ops n n 0 L0 && (Region.ready md ops (headSet n 0 L0)).all (fun j => decide (n ≤ j)) && Region.seqB md ops (m - n) n (headSet n 0 L0)

/-- A region whose last operation is apart from all others, whose first n only read, and whose others go one behind the other. -/
theorem wp_region_head {id : Nat} {Q : Exit → Act → World → Prop} {a : Act} {w : World} {l : List Oper} (n : Nat) {ox : Oper} {vx : Value} (hm : P.follows .mixedOrders = true) (hx : l[l.length - 1]? = some ox) (hB : regionHeadB .any l.toArray n = true) (hC : C w.drew)
    (hQ : ∀ c a w, Q (.panic c) (a.put ox.dst vx) w → Q (.panic c) a w) (hy : Yields P l.toArray ox vx a)
    (h : wpQuiet P l.toArray C (fun a' => ∀ w', C w' → wpList P l.toArray Q ((l.drop n).take (l.length - 1 - n)) a' w') (l.take n) (a.put ox.dst vx)) : (Code.region id l.toArray true).wp P Q a w := by
  unfold regionHeadB at hB
  simp only [Bool.and_eq_true, decide_eq_true_eq] at hB
  obtain ⟨⟨⟨⟨⟨⟨⟨⟨⟨hsel, hn⟩, hs⟩, hc⟩, hfr⟩, hrd⟩, hq⟩, hh⟩, hLF⟩, hseq⟩ := hB
  have hsz : l.toArray.size = l.length := by simp
  have hpos : l.length - 1 + 1 = l.length := by rw [hsz] at hn; omega
  have hn' : n < l.length - 1 := by rw [hsz] at hn; exact hn
  have htl : (l.take n).length = n := by simp; omega
  have hdl : ((l.drop n).take (l.length - 1 - n)).length = l.length - 1 - n := by simp; omega
  refine wp_region_any hm ?_
  rw [show l.toArray.size = (l.length - 1) + 1 from by rw [hsz]; omega]
  refine wpAny_take (i := l.length - 1) (oi := ox) (v := vx) (by simpa using hx) hsel (by simpa [hpos] using hfr) (by simpa [hpos] using hrd) hQ hy ?_
  have inv := qinv_start l.toArray .any n (l.toArray.size - 1) _ (by omega) (by simp only [Bool.and_eq_true, decide_eq_true_eq]; exact hq)
  have H := wpAnyQL_lex (P := P) (C := C) (md := .any) (R := fun a' => ∀ w', C w' → wpList P l.toArray Q ((l.drop n).take (l.length - 1 - n)) a' w') hsel hs hc (by omega) hn (headSet n 0 ((Array.replicate l.toArray.size false).setIfInBounds (l.toArray.size - 1) true)) (by simpa using hLF)
    (l.take n) 0 _ (a.put ox.dst vx) (fun j hj => by rw [htl] at hj; simp [hj]) inv (by rw [htl]; exact hh) (by rw [htl]) h
  have := wpAny_of_QL (P := P) (C := C) (Q' := Q) (g := l.length - 1 - n) (fun listed a' w' hw' hL => by
    have := wpAny_seqT (P := P) (md := .any) (Q' := Q) (ops := l.toArray) ((l.drop n).take (l.length - 1 - n)) n listed a' w' (fun j hj => by rw [hdl] at hj; simp [List.getElem?_take, List.getElem?_drop, hj]) (by rw [hdl, hL.1]; simpa using hseq) (hL.2 w' hw')
    rwa [hdl] at this) _ _ _ _ hC H
  rw [htl, show n + (l.length - 1 - n) = l.length - 1 by omega] at this
  simpa [hpos] using this

end
end Go.Proofs.YtoiajjobecinpaaGreat

namespace Go.Proofs.YtoiajjobecinpaaGreat
set_option linter.unusedVariables false
set_option linter.unusedSimpArgs false
open Go.RowKit

/-- All old blocks but those of F are as they were. -/
structure Touch (F : Nat → Prop) (W W' : World) : Prop where
  os : W'.os = W.os
  tape : W'.tape = W.tape
  output : W'.output = W.output
  size : W.heap.size ≤ W'.heap.size
  block : ∀ k, k < W.heap.size → ¬ F k → W'.heap[k]? = W.heap[k]?

theorem Touch.refl (F : Nat → Prop) (W : World) : Touch F W W := ⟨rfl, rfl, rfl, Nat.le_refl _, fun _ _ _ => rfl⟩

/-- A set of blocks that may only have grown by new ones. -/
def Grows (B : Nat) (F G : Nat → Prop) : Prop := ∀ k, G k → F k ∨ B ≤ k

theorem Grows.refl (B : Nat) (F : Nat → Prop) : Grows B F F := fun _ h => .inl h

theorem Touch.trans {F G : Nat → Prop} {a b c : World} (h : Touch F a b) (hg : Grows a.heap.size F G) (k : Touch G b c) : Touch F a c :=
  ⟨k.os.trans h.os, k.tape.trans h.tape, k.output.trans h.output, Nat.le_trans h.size k.size, fun i hi hf =>
    (k.block i (Nat.lt_of_lt_of_le hi h.size) (fun g => (hg i g).elim hf (fun e => by omega))).trans (h.block i hi hf)⟩

theorem Grows.trans {B C : Nat} {F G H : Nat → Prop} (h : Grows B F G) (hBC : B ≤ C) (k : Grows C G H) : Grows B F H := fun i hi =>
  (k i hi).elim (fun g => h i g) (fun e => .inr (by omega))

theorem Touch.wider {F G : Nat → Prop} {a b : World} (h : Touch F a b) (hs : ∀ k, F k → G k) : Touch G a b :=
  ⟨h.os, h.tape, h.output, h.size, fun k hk hg => h.block k hk (fun f => hg (hs k f))⟩

theorem Touch.of_below {F : Nat → Prop} {a b : World} (h : Below a.heap.size a b) : Touch F a b :=
  ⟨h.os, h.tape, h.output, h.size, fun k hk _ => h.block k hk⟩

theorem Touch.below {B : Nat} {F : Nat → Prop} {a b : World} (h : Touch F a b) (hB : B ≤ a.heap.size) (hF : ∀ k, F k → B ≤ k) : Below B a b :=
  ⟨h.os, h.tape, h.output, h.size, fun k hk => h.block k (by omega) (fun f => by have := hF k f; omega)⟩

theorem Touch.alloc {F : Nat → Prop} {a b : World} (h : Touch F a b) (o : Obj) : Touch F a (b.alloc o) :=
  ⟨h.os, h.tape, h.output, by simp; exact Nat.le_succ_of_le h.size, fun k hk hf => (Below.heap_alloc _ _ _ (Nat.lt_of_lt_of_le hk h.size)).trans (h.block k hk hf)⟩

theorem Touch.drew {F : Nat → Prop} {a b : World} (h : Touch F a b) : Touch F a b.drew := ⟨h.os, h.tape, h.output, h.size, h.block⟩

theorem Touch.setCell {F : Nat → Prop} {a b : World} (h : Touch F a b) {c i : Nat} {t : Option Nat} (hc : F c ∨ a.heap.size ≤ c) (v : Value) : Touch F a (b.setCell ⟨c, i, none⟩ v) := by
  refine ⟨h.os, h.tape, h.output, by simpa using h.size, fun k hk hf => ?_⟩
  have hne : k ≠ c := by
    rintro rfl
    rcases hc with hc | hc
    · exact hf hc
    · omega
  rw [Below.heap_setCell _ _ _ _ hne]
  exact h.block k hk hf

end Go.Proofs.YtoiajjobecinpaaGreat

namespace Go.Proofs.YtoiajjobecinpaaGreat
set_option linter.unusedVariables false
set_option linter.unusedSimpArgs false
open Go.RowKit

/-- A point: a task in a line. -/
structure Pt where
  id : Int
  w : Int
  v : Int
  day : Int
deriving DecidableEq, Inhabited

def Pt.cells (p : Pt) : List Value := [.int .i64 p.id, .int .i64 p.w, .int .i64 p.v, .int .i64 p.day]
def Pt.val (p : Pt) : Value := .agg p.cells.toArray

def flatP : List Pt → List Value
  | [] => []
  | p :: l => p.cells ++ flatP l

theorem flatP_length (l : List Pt) : (flatP l).length = l.length * 4 := by
  induction l with
  | nil => rfl
  | cons p l ih => simp [flatP, Pt.cells, ih]; omega

theorem flatP_append (a b : List Pt) : flatP (a ++ b) = flatP a ++ flatP b := by
  induction a with
  | nil => rfl
  | cons p l ih => simp [flatP, ih]

end Go.Proofs.YtoiajjobecinpaaGreat

namespace Go.Proofs.YtoiajjobecinpaaGreat
open Go.RowKit
set_option linter.unusedVariables false
set_option linter.unusedSimpArgs false

def goodW (w : Int) : Bool := decide (1 ≤ w) && decide (w ≤ 20)

theorem wgood_any (x : Int) (w : World) :
    Calls Tryz.prog 94 #[.int .i64 x] w fun e w' => e = .returned (.bool (goodW x)) ∧ w = w' := by
  unfold goodW
  by_cases h1 : 1 ≤ x
  · by_cases h2 : x ≤ 20
    · rw [decide_eq_true h1, decide_eq_true h2]
      go_enter Tryz.func94, Tryz.ntmps94
      go_wp2
      go_ret
      exact ⟨rfl, rfl⟩
    · rw [decide_eq_true h1, decide_eq_false h2]
      go_enter Tryz.func94, Tryz.ntmps94
      go_wp2
      go_ret
      exact ⟨rfl, rfl⟩
  · rw [decide_eq_false h1]
    go_enter Tryz.func94, Tryz.ntmps94
    go_wp2
    go_ret
    exact ⟨rfl, rfl⟩

def stepI (x : Int) : Int := if goodW x = true then Int.tdiv 232792560 x else 0

end Go.Proofs.YtoiajjobecinpaaGreat

namespace Go.Proofs.YtoiajjobecinpaaGreat
set_option linter.unusedSimpArgs false
open Go.RowKit
set_option linter.unusedVariables false

structure Ln where
  base : Int
  cur : Int
  ps : List Pt
deriving Inhabited

def dayP (p : Pt) : Pt := ⟨p.id, p.w, p.v, p.v + 4 * stepI p.w⟩
def posP (ps : List Pt) (id : Int) : Int := Lib.idxBy (fun _ y => decide (y.id = id)) ps default
def lowP (m q : Pt) : Pt := if q.v < m.v then q else m
def minP : List Pt → Pt
  | [] => default
  | p :: l => l.foldl lowP p
def growB (base : Int) : List Pt → Int
  | [] => base
  | p :: l => if base < (minP (p :: l)).v then (minP (p :: l)).v else base
def insP (p : Pt) : List Pt → List Pt
  | [] => [p]
  | q :: l => if p.id < q.id then p :: q :: l else q :: insP p l
def mayI (id w lag : Int) : Bool := decide (0 ≤ id) && (decide (id ≤ 1073741824) && (goodW w && (decide (-1125899906842624 ≤ lag) && decide (lag ≤ 1125899906842624))))
def mayE (l : Ln) (id w lag : Int) : Int := if mayI id w lag = true then (if 0 ≤ posP l.ps id then 4 else if l.ps.length = 64 then 3 else 0) else 1
def putL (l : Ln) (id w lag : Int) : Ln :=
  let ps := insP (dayP ⟨id, w, l.base - lag, 0⟩) l.ps
  ⟨growB l.base ps, l.cur, ps⟩

/-- What holds of a line so that nothing wraps. -/
structure Ln.ok (l : Ln) : Prop where
  base : -2305843009213693952 ≤ l.base ∧ l.base ≤ 2305843009213693952
  cur : -1 ≤ l.cur ∧ l.cur ≤ 1073741824
  len : l.ps.length ≤ 64
  pt : ∀ p ∈ l.ps, (0 ≤ p.id ∧ p.id ≤ 1073741824) ∧ (1 ≤ p.w ∧ p.w ≤ 20) ∧ (-2305843009213693952 ≤ p.v ∧ p.v ≤ 2305843009213693952) ∧ (-4611686018427387904 ≤ p.day ∧ p.day ≤ 4611686018427387904)

theorem stepI_le (x : Int) : 0 ≤ stepI x ∧ stepI x ≤ 232792560 := by
  unfold stepI goodW
  split
  · rename_i h
    simp only [Bool.and_eq_true, decide_eq_true_eq] at h
    obtain ⟨h1, h2⟩ := h
    constructor
    · exact Int.tdiv_nonneg (by omega) (by omega)
    · rw [Int.tdiv_eq_ediv_of_nonneg (by omega)]
      exact Int.ediv_le_self _ (by omega)
  · omega

theorem posP_cases (ps : List Pt) (id : Int) :
    (posP ps id = -1 ∧ ∀ p ∈ ps, p.id ≠ id) ∨ ∃ k, ∃ h : k < ps.length, posP ps id = (k : Int) ∧ ps[k].id = id ∧ ∀ j (hj : j < k), ps[j].id ≠ id := by
  unfold posP Lib.idxBy
  have gen : ∀ (ps : List Pt) (i : Nat), (Lib.idxByFrom (fun _ y => decide (y.id = id)) default ps i = -1 ∧ ∀ p ∈ ps, p.id ≠ id) ∨
      ∃ k, ∃ h : k < ps.length, Lib.idxByFrom (fun _ y => decide (y.id = id)) default ps i = ((i + k : Nat) : Int) ∧ ps[k].id = id ∧ ∀ j (hj : j < k), ps[j].id ≠ id := by
    intro ps
    induction ps with
    | nil => intro i; exact .inl ⟨rfl, by simp⟩
    | cons p l ih =>
      intro i
      by_cases e : p.id = id
      · exact .inr ⟨0, by simp, by simp [Lib.idxByFrom, e], e, fun j hj => absurd hj (Nat.not_lt_zero _)⟩
      · have hstep : Lib.idxByFrom (fun _ (y : Pt) => decide (y.id = id)) default (p :: l) i = Lib.idxByFrom (fun _ y => decide (y.id = id)) default l (i + 1) := by simp [Lib.idxByFrom, e]
        rcases ih (i + 1) with ⟨h1, h2⟩ | ⟨k, hk, h1, h2, h3⟩
        · refine .inl ⟨hstep.trans h1, ?_⟩
          intro q hq
          rcases List.mem_cons.1 hq with rfl | hq
          · exact e
          · exact h2 q hq
        · refine .inr ⟨k + 1, by simpa using hk, hstep.trans (h1.trans (by congr 1; omega)), by simpa using h2, ?_⟩
          intro j hj
          cases j with
          | zero => simpa using e
          | succ j => simpa using h3 j (by omega)
  rcases gen ps 0 with h | ⟨k, hk, h1, h2⟩
  · exact .inl h
  · exact .inr ⟨k, hk, h1.trans (by congr 1; omega), h2⟩

end Go.Proofs.YtoiajjobecinpaaGreat

namespace Go.Proofs.YtoiajjobecinpaaGreat
open Go.RowKit Go.Shelf Go.Lib Go.Proofs
set_option linter.unusedVariables false
set_option linter.unusedSimpArgs false

/-- A line: block b holds its base, who has the core, and its slice v, which is a row of its points. -/
structure LineAt (W : World) (b : Nat) (v : Value) (l : Ln) : Prop where
  base : W.cell? ⟨b, 0, none⟩ = some (.int .i64 l.base)
  cur : W.cell? ⟨b, 1, none⟩ = some (.int .i64 l.cur)
  sl : W.cell? ⟨b, 2, none⟩ = some v
  live : ∀ i, W.frozen? ⟨b, i, none⟩ = false
  row : W.ownsRow 0 338 4 v l.ps.length (flatP l.ps)
  ne : v.ownBlock ≠ some b

/-- The blocks of a line. -/
def lfp (b : Nat) (v : Value) (k : Nat) : Prop := k = b ∨ v.ownBlock = some k

theorem LineAt.lt {W : World} {b : Nat} {v : Value} {l : Ln} (h : LineAt W b v l) : ∀ k, lfp b v k → k < W.heap.size := by
  intro k hk
  rcases hk with rfl | hk
  · exact World.block_lt_of_cell? W _ h.base
  · exact (h.row.lt k hk).2

theorem ownsRow_same {W W' : World} {base : Nat} {e : TypeId} {size : Nat} {v : Value} {n : Nat} {xs : List Value} (h : W.ownsRow base e size v n xs)
    (hb : ∀ k, v.ownBlock = some k → W'.heap[k]? = W.heap[k]?) : W'.ownsRow base e size v n xs := by
  refine ⟨h.1, ?_⟩
  rcases h.2 with hn | ⟨g, cap, cur, rfl, hb', hgg, rest⟩
  · exact .inl hn
  · exact .inr ⟨g, cap, cur, rfl, hb', (hb g rfl).trans hgg, rest⟩

theorem LineAt.same {W W' : World} {b : Nat} {v : Value} {l : Ln} (h : LineAt W b v l) (hb : ∀ k, lfp b v k → W'.heap[k]? = W.heap[k]?) : LineAt W' b v l := by
  have h0 : ∀ i, W'.cell? ⟨b, i, none⟩ = W.cell? ⟨b, i, none⟩ := fun i => World.cell?_of_block (hb b (.inl rfl))
  have h1 : ∀ i, W'.frozen? ⟨b, i, none⟩ = W.frozen? ⟨b, i, none⟩ := fun i => World.frozen?_of_block (hb b (.inl rfl))
  exact ⟨(h0 0).trans h.base, (h0 1).trans h.cur, (h0 2).trans h.sl, fun i => (h1 i).trans (h.live i), ownsRow_same h.row (fun k hk => hb k (.inr hk)), h.ne⟩

theorem LineAt.touch {W W' : World} {b : Nat} {v : Value} {l : Ln} {F : Nat → Prop} (h : LineAt W b v l) (ht : Touch F W W') (hF : ∀ k, lfp b v k → ¬ F k) : LineAt W' b v l :=
  h.same (fun k hk => ht.block k (h.lt k hk) (hF k hk))

theorem LineAt.below {W W' : World} {b : Nat} {v : Value} {l : Ln} (h : LineAt W b v l) (hb : Below W.heap.size W W') : LineAt W' b v l :=
  h.same (fun k hk => hb.block k (h.lt k hk))

theorem flatP_get (ps : List Pt) : ∀ k i v, k < ps.length → (ps[k]!).cells[i]? = some v → (flatP ps)[k * 4 + i]? = some v := by
  induction ps with
  | nil => intro k i v h; simp at h
  | cons p l ih =>
    intro k i v h hv
    cases k with
    | zero =>
      have hi : i < p.cells.length := (List.getElem?_eq_some_iff.1 hv).1
      rw [show 0 * 4 + i = i from by omega]
      rw [flatP, List.getElem?_append_left hi]
      simpa using hv
    | succ k =>
      rw [flatP, List.getElem?_append_right (by simp [Pt.cells]; omega)]
      have := ih k i v (by simpa using h) (by simpa using hv)
      rw [show (k + 1) * 4 + i - p.cells.length = k * 4 + i from by simp [Pt.cells]; omega]
      exact this

/-- The cells of a line's row. -/
theorem ownsRow_cell {W : World} {g n c : Nat} {ps : List Pt} (h : W.ownsRow 0 338 4 (.slice (some ⟨g, 0, none⟩) n c) ps.length (flatP ps)) :
    ∀ j, j < ps.length → ∀ i v, (ps[j]!).cells[i]? = some v → W.cell? ⟨g, 0 + j * 4 + i, none⟩ = some v := by
  intro j hj i v hv
  have := h.cells (g := g) rfl _ _ (flatP_get ps j i v hj hv)
  rw [Nat.zero_add]
  simpa [Addr.add_lit] using this

set_option maxHeartbeats 1000000 in
theorem indexfunc_nil (g : Nat) (lb : Array Value) (W : World) :
    Calls Tryz.prog 284 #[.slice none 0 0, .func (.func g) #[] lb] W fun e w' => e = .returned (.int .i64 (-1)) ∧ W = w' := by
  go_enter Tryz.func284, Tryz.ntmps284
  go_wp2
  go_loop [5, 8] (fun _ i => i = .int .i64 0) (fun _ i => 0)
  case atStart => rfl
  case round =>
    subst hrel
    go_wp2
    go_ret
    exact ⟨rfl, rfl⟩

end Go.Proofs.YtoiajjobecinpaaGreat

namespace Go.Proofs.YtoiajjobecinpaaGreat
open Go.RowKit Go.Shelf Go.Lib Go.Proofs
set_option linter.unusedVariables false
set_option linter.unusedSimpArgs false

def cmpI (x y : Int) : Int := if x < y then -1 else if y < x then 1 else 0

theorem cmp283 (x y : Int) (W : World) : Calls Tryz.prog 283 #[.int .i64 x, .int .i64 y] W fun e w' => e = .returned (.int .i64 (cmpI x y)) ∧ W = w' := by
  unfold cmpI
  go_enter Tryz.func283, Tryz.ntmps283
  go_wp2
  all_goals (go_ret; exact ⟨by simp_all, rfl⟩)

theorem cmp282 (p q : Pt) (W : World) : Calls Tryz.prog 282 #[.agg p.cells.toArray, .agg q.cells.toArray] W fun e w' => e = .returned (.int .i64 (cmpI p.v q.v)) ∧ Below W.heap.size W w' := by
  have hcon := fun W' => cmp283 p.v q.v W'
  generalize cmpI p.v q.v = r at hcon ⊢
  obtain ⟨i, ww, v, day⟩ := p
  obtain ⟨i2, ww2, v2, day2⟩ := q
  show Calls Tryz.prog 282 #[.agg #[.int .i64 i, .int .i64 ww, .int .i64 v, .int .i64 day], .agg #[.int .i64 i2, .int .i64 ww2, .int .i64 v2, .int .i64 day2]] W _
  go_enter Tryz.func282, Tryz.ntmps282
  go_wp2_with fail
  refine (hcon _).mono ?_
  rintro e w' ⟨rfl, rfl⟩
  go_wp2
  go_ret
  exact ⟨rfl, ((Below.refl _ _).alloc (Nat.le_refl _) _).alloc (by simp) _⟩

end Go.Proofs.YtoiajjobecinpaaGreat

namespace Go.Proofs.YtoiajjobecinpaaGreat
open Go.RowKit Go.Shelf Go.Lib Go.Proofs
set_option linter.unusedVariables false
set_option linter.unusedSimpArgs false

theorem row_cells {W : World} {g n c : Nat} {ps : List Pt} (h : W.ownsRow 0 338 4 (.slice (some ⟨g, 0, none⟩) n c) ps.length (flatP ps)) (j : Nat) (hj : j < ps.length) (p : Pt) (hp : ps[j]! = p) :
    W.cell? ⟨g, j * 4, none⟩ = some (.int .i64 p.id) ∧ W.cell? ⟨g, j * 4 + 1, none⟩ = some (.int .i64 p.w) ∧ W.cell? ⟨g, j * 4 + 2, none⟩ = some (.int .i64 p.v) ∧ W.cell? ⟨g, j * 4 + 3, none⟩ = some (.int .i64 p.day) := by
  subst hp
  have key : ∀ i v, (ps[j]!).cells[i]? = some v → W.cell? ⟨g, j * 4 + i, none⟩ = some v := fun i v hi => by
    have := h.cells (g := g) rfl _ _ (flatP_get ps j i v hj hi)
    simpa [Addr.add_lit] using this
  exact ⟨key 0 _ rfl, key 1 _ rfl, key 2 _ rfl, key 3 _ rfl⟩

theorem row_cells0 {W : World} {g n c : Nat} {ps : List Pt} (h : W.ownsRow 0 338 4 (.slice (some ⟨g, 0, none⟩) n c) ps.length (flatP ps)) (hj : 0 < ps.length) (p : Pt) (hp : ps[0]! = p) :
    W.cell? ⟨g, 0, none⟩ = some (.int .i64 p.id) ∧ W.cell? ⟨g, 1, none⟩ = some (.int .i64 p.w) ∧ W.cell? ⟨g, 2, none⟩ = some (.int .i64 p.v) ∧ W.cell? ⟨g, 3, none⟩ = some (.int .i64 p.day) := by
  have := row_cells h 0 hj p hp
  simpa using this

/-- A block that holds a point. -/
def BoxAt (W : World) (B : Nat) (p : Pt) : Prop := W.heap[B]? = some (.cells p.cells.toArray 338 (0, 0))

theorem BoxAt.cells {W : World} {B : Nat} {p : Pt} (h : BoxAt W B p) :
    W.cell? ⟨B, 0, none⟩ = some (.int .i64 p.id) ∧ W.cell? ⟨B, 1, none⟩ = some (.int .i64 p.w) ∧ W.cell? ⟨B, 2, none⟩ = some (.int .i64 p.v) ∧ W.cell? ⟨B, 3, none⟩ = some (.int .i64 p.day) := by
  unfold BoxAt at h
  refine ⟨?_, ?_, ?_, ?_⟩ <;> simp [World.cell?, h, Pt.cells]

theorem BoxAt.frozen {W : World} {B : Nat} {p : Pt} (h : BoxAt W B p) (i : Nat) : W.frozen? ⟨B, i, none⟩ = false := by
  unfold BoxAt at h
  simp [World.frozen?, h]

theorem BoxAt.lt {W : World} {B : Nat} {p : Pt} (h : BoxAt W B p) : B < W.heap.size := (Array.getElem?_eq_some_iff.1 h).1

theorem BoxAt.below {W W' : World} {B C : Nat} {p : Pt} (h : BoxAt W B p) (hb : Below C W W') (hc : B < C) : BoxAt W' B p := (hb.block B hc).trans h

theorem BoxAt.store4 {W : World} {B : Nat} {p : Pt} (h : BoxAt W B p) (q : Pt) :
    BoxAt ((((W.setCell ⟨B, 0, none⟩ (.int .i64 q.id)).setCell ⟨B, 1, none⟩ (.int .i64 q.w)).setCell ⟨B, 2, none⟩ (.int .i64 q.v)).setCell ⟨B, 3, none⟩ (.int .i64 q.day)) B q := by
  unfold BoxAt at h ⊢
  simp [World.setCell, Array.getElem?_modify, h, Pt.cells]

theorem BoxAt.other4 {W : World} {B C : Nat} {p : Pt} (h : BoxAt W B p) (hne : B ≠ C) (q : Pt) :
    BoxAt ((((W.setCell ⟨C, 0, none⟩ (.int .i64 q.id)).setCell ⟨C, 1, none⟩ (.int .i64 q.w)).setCell ⟨C, 2, none⟩ (.int .i64 q.v)).setCell ⟨C, 3, none⟩ (.int .i64 q.day)) B p := by
  unfold BoxAt at h ⊢
  rw [Below.heap_setCell _ _ _ _ hne, Below.heap_setCell _ _ _ _ hne, Below.heap_setCell _ _ _ _ hne, Below.heap_setCell _ _ _ _ hne]
  exact h

theorem min_first {ps : List Pt} {n : Nat} {p : Pt} (h : ps.length = n) (hn : 0 < n) (hp : ps[0]! = p) : minP (ps.take 1) = p := by
  cases ps with
  | nil => simp at h; omega
  | cons q l => simpa [minP] using hp

theorem min_next {ps : List Pt} {k : Nat} {p m : Pt} (h1 : 1 ≤ k) (hk : k < ps.length) (hp : ps[k]! = p) (hm : minP (ps.take k) = m) : minP (ps.take (k + 1)) = lowP m p := by
  cases ps with
  | nil => simp at hk
  | cons q l =>
    cases k with
    | zero => omega
    | succ k =>
      have hk' : k < l.length := by simpa using hk
      have hp' : l[k] = p := by rw [List.getElem!_cons_succ] at hp; rwa [getElem!_pos l k hk'] at hp
      simp only [List.take_succ_cons, minP] at hm ⊢
      rw [List.take_succ_eq_append_getElem hk', List.foldl_append, hm, hp']
      rfl

/-- The cells of a place of a row of points. -/
def RowAt (W : World) (g k : Nat) (p : Pt) : Prop :=
  W.cell? ⟨g, k * 4, none⟩ = some (.int .i64 p.id) ∧ W.cell? ⟨g, k * 4 + 1, none⟩ = some (.int .i64 p.w) ∧ W.cell? ⟨g, k * 4 + 2, none⟩ = some (.int .i64 p.v) ∧ W.cell? ⟨g, k * 4 + 3, none⟩ = some (.int .i64 p.day)

abbrev MinC (W W0 : World) (g k : Nat) (p m : Pt) : Prop :=
  (W.cell? ⟨g, k * 4, none⟩ = some (.int .i64 p.id) ∧ W.cell? ⟨g, k * 4 + 1, none⟩ = some (.int .i64 p.w) ∧ W.cell? ⟨g, k * 4 + 2, none⟩ = some (.int .i64 p.v) ∧ W.cell? ⟨g, k * 4 + 3, none⟩ = some (.int .i64 p.day)) ∧
  W.cell? ⟨W0.heap.size + 1, 0, none⟩ = some (.int .i64 m.id) ∧ W.cell? ⟨W0.heap.size + 1, 1, none⟩ = some (.int .i64 m.w) ∧ W.cell? ⟨W0.heap.size + 1, 2, none⟩ = some (.int .i64 m.v) ∧ W.cell? ⟨W0.heap.size + 1, 3, none⟩ = some (.int .i64 m.day)

def MinS (W0 W : World) (g k : Nat) (p m : Pt) : Prop :=
  RowAt W g k p ∧ Below W0.heap.size W0 W ∧ BoxAt W W0.heap.size ⟨0, 0, 0, 0⟩ ∧ BoxAt W (W0.heap.size + 1) m

theorem MinS.cells {W0 W : World} {g k : Nat} {p m : Pt} (h : MinS W0 W g k p m) : MinC W W0 g k p m := ⟨h.1, h.2.2.2.cells⟩

theorem MinS.below {W0 W W' : World} {g k : Nat} {p m : Pt} (h : MinS W0 W g k p m) (hb : Below W.heap.size W W') (hg : g < W0.heap.size) : MinS W0 W' g k p m := by
  obtain ⟨⟨c0, c1, c2, c3⟩, h1, h2, h3⟩ := h
  have hs := h1.size
  have hc : ∀ i, W'.cell? ⟨g, i, none⟩ = W.cell? ⟨g, i, none⟩ := fun i => hb.cell (p := ⟨g, i, none⟩) (by show g < W.heap.size; omega)
  exact ⟨⟨(hc _).trans c0, (hc _).trans c1, (hc _).trans c2, (hc _).trans c3⟩, h1.trans (hb.mono hs), h2.below hb h2.lt, h3.below hb h3.lt⟩

set_option maxHeartbeats 1000000 in
theorem minfunc_any (g cap : Nat) (ps : List Pt) (W : World) (h : W.ownsRow 0 338 4 (.slice (some ⟨g, 0, none⟩) ps.length cap) ps.length (flatP ps)) (hn : 0 < ps.length) (hm : ps.length ≤ 64) :
    Calls Tryz.prog 281 #[.slice (some ⟨g, 0, none⟩) ps.length cap, .func (.func 282) #[] #[]] W fun e w' => e = .returned (.agg (minP ps).cells.toArray) ∧ Below W.heap.size W w' := by
  obtain ⟨p0, hp0⟩ : ∃ p0, ps[0]! = p0 := ⟨_, rfl⟩
  obtain ⟨c0, c1, c2, c3⟩ := row_cells0 h hn p0 hp0
  have hg := (h.lt g rfl).2
  have hn1 : ¬ (ps.length : Int) < 1 := by omega
  obtain ⟨n, HN⟩ : ∃ n, Hid (ps.length = n) := ⟨_, Lib.hid rfl⟩
  have HW := Lib.hid h
  have HP := Lib.hid hp0
  clear h hp0
  rw [HN.out] at hn hm hn1 ⊢
  obtain ⟨i, ww, v, day⟩ := p0
  simp only at c0 c1 c2 c3
  go_enter Tryz.func281, Tryz.ntmps281
  go_wp2
  go_loopw [6] (fun x wr => ∃ k : Nat, 1 ≤ k ∧ k ≤ n ∧ x = .int .i64 k ∧ Hid (Below W.heap.size W wr ∧ BoxAt wr W.heap.size ⟨0, 0, 0, 0⟩ ∧ BoxAt wr (W.heap.size + 1) (minP (ps.take k)))) (fun x _ => n - (intOf x).toNat)
  case atStart =>
    refine ⟨1, Nat.le_refl _, hn, rfl, Lib.hid ⟨((Below.refl _ _).alloc (Nat.le_refl _) _).alloc (by simp) _, ?_, ?_⟩⟩
    · unfold BoxAt
      rw [Below.heap_alloc _ _ _ (by simp)]
      exact heap_alloc_new W _
    · rw [min_first HN.out hn HP.out]
      unfold BoxAt
      have := heap_alloc_new (W.alloc (Obj.cells #[Value.int IntKind.i64 0, Value.int IntKind.i64 0, Value.int IntKind.i64 0, Value.int IntKind.i64 0] 338)) (Obj.cells #[Value.int IntKind.i64 i, Value.int IntKind.i64 ww, Value.int IntKind.i64 v, Value.int IntKind.i64 day] 338)
      simpa [Pt.cells] using this
  case round =>
    obtain ⟨k, hk1, hk2, rfl, HR⟩ := hrel
    clear c0 c1 c2 c3 hn1
    obtain ⟨R1, R2, R3⟩ := HR.out
    have hs := R3.lt
    obtain ⟨m, hmm⟩ : ∃ m, minP (ps.take k) = m := ⟨_, rfl⟩
    rw [hmm] at R3
    have HM := Lib.hid hmm
    clear hmm
    by_cases hkn : k < n
    · obtain ⟨p, hp⟩ : ∃ p, ps[k]! = p := ⟨_, rfl⟩
      have hrow' : wr.ownsRow 0 338 4 (.slice (some ⟨g, 0, none⟩) ps.length cap) ps.length (flatP ps) := ownsRow_same HW.out (fun j hj => by simp [Value.ownBlock] at hj; subst hj; exact R1.block g hg)
      obtain ⟨c0, c1, c2, c3⟩ := row_cells hrow' k (by rw [HN.out]; exact hkn) p hp
      have HP := Lib.hid hp
      clear hp hrow'
      obtain ⟨d0, d1, d2, d3⟩ := R3.cells
      have hcon := fun W' => cmp282 p m W'
      obtain ⟨r, hr⟩ : ∃ r, cmpI p.v m.v = r := ⟨_, rfl⟩
      rw [hr] at hcon
      have HC := Lib.hid hr
      clear hr
      obtain ⟨i1, ww1, v1, day1⟩ := p
      obtain ⟨i2, ww2, v2, day2⟩ := m
      simp only [Pt.cells] at c0 c1 c2 c3 d0 d1 d2 d3 hcon
      have hgb : g ≠ W.heap.size + 1 := by omega
      have hq : Below W.heap.size W wr ∧ BoxAt wr W.heap.size ⟨0, 0, 0, 0⟩ ∧ BoxAt wr (W.heap.size + 1) ⟨i2, ww2, v2, day2⟩ := ⟨R1, R2, R3⟩
      have HW' := Lib.hid (⟨c0, c1, c2, c3⟩ : RowAt wr g k ⟨i1, ww1, v1, day1⟩)
      clear R1 R2 R3 c0 c1 c2 c3 d0 d1 d2 d3
      have hlt : (k : Int) < (n : Int) := by omega
      have hk0 : 0 ≤ (k : Int) := by omega
      go_upto_region 7 with fail
      go_cut [27] (fun c W2 => c = .bool (decide (r < 0)) ∧ MinS W W2 g k ⟨i1, ww1, v1, day1⟩ ⟨i2, ww2, v2, day2⟩)
      case first =>
        have hS : MinS W wr.drew g k ⟨i1, ww1, v1, day1⟩ ⟨i2, ww2, v2, day2⟩ := ⟨HW'.out, hq.1.drew, hq.2⟩
        go_wp2_with fail
        obtain ⟨⟨c0, c1, c2, c3⟩, d0, d1, d2, d3⟩ := hS.cells
        simp only at c0 c1 c2 c3 d0 d1 d2 d3
        go_region_held3 (fun W2 => MinC W2 W g k ⟨i1, ww1, v1, day1⟩ ⟨i2, ww2, v2, day2⟩) (first | (with_reducible exact hS.cells) | fail) (first | (go_at_call 282; with_reducible refine (hcon _).mono ?_; rintro e w9 ⟨rfl, hb⟩; have hS := hS.below hb hg; obtain ⟨⟨c0, c1, c2, c3⟩, d0, d1, d2, d3⟩ := hS.cells; simp only at c0 c1 c2 c3 d0 d1 d2 d3) | fail)
        all_goals (go_wp2_with fail; go_meet; exact ⟨rfl, hS⟩)
      case rest =>
        obtain ⟨rfl, hS⟩ := hcut
        have HS := Lib.hid hS
        obtain ⟨⟨c0, c1, c2, c3⟩, d0, d1, d2, d3⟩ := hS.cells
        simp only at c0 c1 c2 c3 d0 d1 d2 d3
        have f := fun i => hS.2.2.2.frozen i
        have f0 := f 0
        have f1 := f 1
        have f2 := f 2
        have f3 := f 3
        clear f hS
        by_cases hr : r < 0
        · have hd : decide (r < 0) = true := decide_eq_true hr
          rw [hd]
          go_wp2
          go_roundw
          case rel =>
            have hS := HS.out
            refine ⟨k + 1, by omega, hkn, by go_num, Lib.hid ⟨?_, hS.2.2.1.other4 (by omega) ⟨i1, ww1, v1, day1⟩, ?_⟩⟩
            · exact (((hS.2.1.setCell (by simp) _).setCell (by simp) _).setCell (by simp) _).setCell (by simp) _
            · rw [min_next hk1 (by rw [HN.out]; exact hkn) HP.out HM.out]
              have e : lowP ⟨i2, ww2, v2, day2⟩ ⟨i1, ww1, v1, day1⟩ = ⟨i1, ww1, v1, day1⟩ := by
                have h1 := HC.out
                unfold cmpI at h1
                unfold lowP
                simp only at h1 ⊢
                split
                · rfl
                · rename_i h2
                  rw [if_neg h2] at h1
                  split at h1 <;> omega
              rw [e]
              exact hS.2.2.2.store4 ⟨i1, ww1, v1, day1⟩
          case measure => simp [intOf]; omega
        · have hd : decide (r < 0) = false := decide_eq_false hr
          rw [hd]
          go_wp2
          go_roundw
          case rel =>
            have hS := HS.out
            refine ⟨k + 1, by omega, hkn, by go_num, Lib.hid ⟨hS.2.1, hS.2.2.1, ?_⟩⟩
            rw [min_next hk1 (by rw [HN.out]; exact hkn) HP.out HM.out]
            have e : lowP ⟨i2, ww2, v2, day2⟩ ⟨i1, ww1, v1, day1⟩ = ⟨i2, ww2, v2, day2⟩ := by
              have h1 := HC.out
              unfold cmpI at h1
              unfold lowP
              simp only at h1 ⊢
              split
              · rename_i h2
                rw [if_pos h2] at h1
                omega
              · rfl
            rw [e]
            exact hS.2.2.2
          case measure => simp [intOf]; omega
    · obtain rfl : k = n := by omega
      obtain ⟨d0, d1, d2, d3⟩ := R3.cells
      obtain ⟨e0, e1, e2, e3⟩ := R2.cells
      have f := fun i => R2.frozen i
      have f0 := f 0
      have f1 := f 1
      have f2 := f 2
      have f3 := f 3
      clear f
      have HB := Lib.hid R1
      have g := (R2.store4 m).cells
      obtain ⟨g0, g1, g2, g3⟩ := g
      have HG0 := Lib.hid g0
      have HG1 := Lib.hid g1
      have HG2 := Lib.hid g2
      have HG3 := Lib.hid g3
      clear R1 R2 R3 g0 g1 g2 g3
      go_wp2
      have hmin : minP ps = m := by rw [← HM.out, List.take_of_length_le (by rw [HN.out]; exact Nat.le_refl _)]
      exact bodyPost_ret (v := .agg m.cells.toArray) (by simp [results, Tryz.results281, go_sem, HG0.out, HG1.out, HG2.out, HG3.out, Pt.cells]) rfl ⟨by rw [hmin], (((HB.out.setCell (by simp) _).setCell (by simp) _).setCell (by simp) _).setCell (by simp) _⟩
end Go.Proofs.YtoiajjobecinpaaGreat

namespace Go.Proofs.YtoiajjobecinpaaGreat
open Go.RowKit Go.Shelf Go.Lib Go.Proofs
set_option linter.unusedVariables false
set_option linter.unusedSimpArgs false

theorem boxZero {W w' : World} (hb : Below (W.alloc (.cells #[.int .i64 0, .int .i64 0, .int .i64 0, .int .i64 0] 338)).heap.size (W.alloc (.cells #[.int .i64 0, .int .i64 0, .int .i64 0, .int .i64 0] 338)) w') :
    w'.cell? ⟨W.heap.size, 0, none⟩ = some (.int .i64 0) ∧ w'.cell? ⟨W.heap.size, 1, none⟩ = some (.int .i64 0) ∧ w'.cell? ⟨W.heap.size, 2, none⟩ = some (.int .i64 0) ∧ w'.cell? ⟨W.heap.size, 3, none⟩ = some (.int .i64 0) := by
  have hbox : BoxAt w' W.heap.size ⟨0, 0, 0, 0⟩ := (hb.block W.heap.size (by simp)).trans (heap_alloc_new W _)
  exact hbox.cells

theorem boxZeroF {W w' : World} (hb : Below (W.alloc (.cells #[.int .i64 0, .int .i64 0, .int .i64 0, .int .i64 0] 338)).heap.size (W.alloc (.cells #[.int .i64 0, .int .i64 0, .int .i64 0, .int .i64 0] 338)) w') :
    w'.frozen? ⟨W.heap.size, 0, none⟩ = false ∧ w'.frozen? ⟨W.heap.size, 1, none⟩ = false ∧ w'.frozen? ⟨W.heap.size, 2, none⟩ = false ∧ w'.frozen? ⟨W.heap.size, 3, none⟩ = false := by
  have hbox : BoxAt w' W.heap.size ⟨0, 0, 0, 0⟩ := (hb.block W.heap.size (by simp)).trans (heap_alloc_new W _)
  exact ⟨hbox.frozen _, hbox.frozen _, hbox.frozen _, hbox.frozen _⟩

set_option maxHeartbeats 1000000 in
theorem least_any (b : Nat) (v : Value) (l : Ln) (W : World) (h : LineAt W b v l) (hlen : l.ps.length ≤ 64) :
    Calls Tryz.prog 274 #[.pointer (some ⟨b, 0, none⟩)] W fun e w' => e = .returned (.tuple #[.agg (minP l.ps).cells.toArray, .bool (!l.ps.isEmpty)]) ∧ Below W.heap.size W w' := by
  have hsl := h.sl
  have hb := h.lt b (.inl rfl)
  have hrow := h.row
  obtain ⟨ps, HP⟩ : ∃ ps, Hid (l.ps = ps) := ⟨_, Lib.hid rfl⟩
  rw [HP.out] at hrow hlen ⊢
  rcases hrow.2 with ⟨rfl, h0⟩ | ⟨g, cap, cur, rfl, hb', hgg, hn, hm, hsz, ht⟩
  · have : ps = [] := List.length_eq_zero_iff.1 h0
    have HR := Lib.hid this
    clear this h0 hrow hlen
    rw [HR.out]
    go_enter Tryz.func274, Tryz.ntmps274
    go_wp2
    exact bodyPost_ret (v := .tuple #[.agg #[.int .i64 0, .int .i64 0, .int .i64 0, .int .i64 0], .bool false]) (by simp [results, Tryz.results274, go_sem]) rfl ⟨rfl, (Below.refl _ _).alloc (Nat.le_refl _) _⟩
  · clear hgg hsz ht hn
    cases hps : ps with
    | nil =>
      have HR := Lib.hid hps
      clear hps
      rw [HR.out] at hsl
      simp only [List.length_nil] at hsl
      go_enter Tryz.func274, Tryz.ntmps274
      go_wp2
      exact bodyPost_ret (v := .tuple #[.agg #[.int .i64 0, .int .i64 0, .int .i64 0, .int .i64 0], .bool false]) (by simp [results, Tryz.results274, go_sem]) rfl ⟨rfl, (Below.refl _ _).alloc (Nat.le_refl _) _⟩
    | cons p0 l0 =>
      rw [← hps]
      have hpos : 0 < ps.length := by rw [hps]; simp
      have he : (!ps.isEmpty) = true := by rw [hps]; rfl
      rw [he]
      have hcon := fun W' (hk : W'.ownsRow 0 338 4 (.slice (some ⟨g, 0, none⟩) ps.length cap) ps.length (flatP ps)) => minfunc_any g cap ps W' hk hpos hlen
      have hcon1 := hcon _ (hrow.alloc (.cells #[.int .i64 0, .int .i64 0, .int .i64 0, .int .i64 0] 338))
      obtain ⟨m, hm'⟩ : ∃ m, minP ps = m := ⟨_, rfl⟩
      rw [hm'] at hcon1 ⊢
      obtain ⟨n, HN⟩ : ∃ n, Hid (ps.length = n) := ⟨_, Lib.hid rfl⟩
      rw [HN.out] at hcon1 hsl hpos hlen
      have hn0 : ¬ (n : Int) = 0 := by omega
      have HR := Lib.hid hps
      clear hps hcon hrow he hm'
      go_enter Tryz.func274, Tryz.ntmps274
      go_wp2_with fail
      refine hcon1.mono ?_
      rintro e w' ⟨rfl, hbl⟩
      obtain ⟨d0, d1, d2, d3⟩ := boxZero (W := W) hbl
      obtain ⟨f0, f1, f2, f3⟩ := boxZeroF (W := W) hbl
      have HB := Lib.hid hbl
      have hbox : BoxAt w' W.heap.size ⟨0, 0, 0, 0⟩ := (hbl.block W.heap.size (by simp)).trans (heap_alloc_new W _)
      obtain ⟨g0, g1, g2, g3⟩ := (hbox.store4 m).cells
      have HG0 := Lib.hid g0
      have HG1 := Lib.hid g1
      have HG2 := Lib.hid g2
      have HG3 := Lib.hid g3
      clear hbl hbox g0 g1 g2 g3
      obtain ⟨i, ww, v, day⟩ := m
      simp only [Pt.cells]
      go_wp2
      exact bodyPost_ret (v := .tuple #[.agg #[.int .i64 i, .int .i64 ww, .int .i64 v, .int .i64 day], .bool true]) (by simp [results, Tryz.results274, go_sem, HG0.out, HG1.out, HG2.out, HG3.out]) rfl ⟨rfl, ((((((Below.refl _ _).alloc (Nat.le_refl _) _).trans (HB.out.mono (by simp))).setCell (by simp) _).setCell (by simp) _).setCell (by simp) _).setCell (by simp) _⟩

end Go.Proofs.YtoiajjobecinpaaGreat

namespace Go.Proofs.YtoiajjobecinpaaGreat
open Go.RowKit Go.Shelf Go.Lib Go.Proofs
set_option linter.unusedVariables false
set_option linter.unusedSimpArgs false

theorem cell_setCell_ne {W : World} {p q : Addr} (x : Value) (h : q ≠ p) : (W.setCell p x).cell? q = W.cell? q := World.cell?_setCell_other _ _ _ _ (fun e => h e.symm)

theorem LineAt.setBase {W : World} {b : Nat} {v : Value} {l : Ln} (h : LineAt W b v l) (x : Int) : LineAt (W.setCell ⟨b, 0, none⟩ (.int .i64 x)) b v ⟨x, l.cur, l.ps⟩ := by
  refine ⟨World.cell?_setCell_same _ _ _ h.base, ?_, ?_, fun i => ?_, ?_, h.ne⟩
  · rw [cell_setCell_ne _ (by simp)]; exact h.cur
  · rw [cell_setCell_ne _ (by simp)]; exact h.sl
  · rw [World.frozen?_setCell]; exact h.live i
  · exact ownsRow_same h.row (fun k hk => Below.heap_setCell _ _ _ _ (by rintro rfl; exact h.ne hk))

theorem LineAt.setCur {W : World} {b : Nat} {v : Value} {l : Ln} (h : LineAt W b v l) (x : Int) : LineAt (W.setCell ⟨b, 1, none⟩ (.int .i64 x)) b v ⟨l.base, x, l.ps⟩ := by
  refine ⟨?_, World.cell?_setCell_same _ _ _ h.cur, ?_, fun i => ?_, ?_, h.ne⟩
  · rw [cell_setCell_ne _ (by simp)]; exact h.base
  · rw [cell_setCell_ne _ (by simp)]; exact h.sl
  · rw [World.frozen?_setCell]; exact h.live i
  · exact ownsRow_same h.row (fun k hk => Below.heap_setCell _ _ _ _ (by rintro rfl; exact h.ne hk))

theorem LineAt.alloc {W : World} {b : Nat} {v : Value} {l : Ln} (h : LineAt W b v l) (o : Obj) : LineAt (W.alloc o) b v l := h.below ((Below.refl _ _).alloc (Nat.le_refl _) _)

theorem LineAt.drew {W : World} {b : Nat} {v : Value} {l : Ln} (h : LineAt W b v l) : LineAt W.drew b v l := h.below ((Below.refl _ _).drew)

theorem touch1 (W : World) (b i : Nat) (x : Value) : Touch (fun k => k = b) W (W.setCell ⟨b, i, none⟩ x) := (Touch.refl (fun k => k = b) W).setCell (t := none) (c := b) (.inl rfl) x

theorem Touch.self {F : Nat → Prop} {a b c : World} (h : Touch F a b) (k : Touch F b c) : Touch F a c := h.trans (Grows.refl _ _) k

theorem bcell {W w1 : World} (hb : Below W.heap.size W w1) : (∀ b o, b < W.heap.size → w1.cell? ⟨b, o, none⟩ = W.cell? ⟨b, o, none⟩) ∧ (∀ b o, b < W.heap.size → w1.frozen? ⟨b, o, none⟩ = W.frozen? ⟨b, o, none⟩) :=
  ⟨fun b o h => hb.cell (p := ⟨b, o, none⟩) h, fun b o h => hb.frozen (p := ⟨b, o, none⟩) h⟩

set_option maxHeartbeats 1000000 in
theorem grow_any (b : Nat) (v : Value) (l : Ln) (W : World) (h : LineAt W b v l) (hlen : l.ps.length ≤ 64) :
    Calls Tryz.prog 277 #[.pointer (some ⟨b, 0, none⟩)] W fun e w' => e = .returned (.tuple #[]) ∧ LineAt w' b v ⟨growB l.base l.ps, l.cur, l.ps⟩ ∧ Touch (fun k => k = b) W w' := by
  have hcon := least_any b v l W h hlen
  cases hps : l.ps with
  | nil =>
    rw [hps] at hcon
    rw [show minP [] = ⟨0, 0, 0, 0⟩ from rfl, show (!([] : List Pt).isEmpty) = false from rfl] at hcon
    simp only [Pt.cells] at hcon
    have HP := Lib.hid hps
    clear hps
    go_enter Tryz.func277, Tryz.ntmps277
    go_wp2_with fail
    refine hcon.mono ?_
    rintro e w' ⟨rfl, hbl⟩
    have HB := Lib.hid hbl
    clear hbl
    go_wp2
    go_end0
    refine ⟨rfl, ?_, (Touch.of_below HB.out).alloc _⟩
    have h2 := (h.below HB.out).alloc (.cells #[.int .i64 0, .int .i64 0, .int .i64 0, .int .i64 0] 338)
    obtain ⟨B0, C0, ps⟩ := l
    have hp := HP.out
    simp only at hp
    subst hp
    exact h2
  | cons p0 l0 =>
    rw [← hps]
    obtain ⟨m, hm⟩ : ∃ m, minP l.ps = m := ⟨_, rfl⟩
    have he : (!l.ps.isEmpty) = true := by rw [hps]; rfl
    have hg : growB l.base l.ps = if l.base < m.v then m.v else l.base := by rw [← hm, hps]; rfl
    rw [he, hm] at hcon
    have HP := Lib.hid hps
    have HG := Lib.hid hg
    clear hps he hm hg
    obtain ⟨i, ww, mv, day⟩ := m
    simp only [Pt.cells] at hcon
    go_enter Tryz.func277, Tryz.ntmps277
    go_wp2_with fail
    refine hcon.mono ?_
    rintro e w' ⟨rfl, hbl⟩
    have hL := h.below hbl
    have hb0 := hL.base
    have hf0 := hL.live 0
    have hlt := hL.lt b (.inl rfl)
    have HB := Lib.hid hbl
    have HL := Lib.hid hL
    clear hbl hL
    go_wp2
    go_region
    go_wp2_with fail
    go_end0
    have h1 := HG.out
    have e : max l.base mv = growB l.base l.ps := by
      rw [h1]
      split <;> omega
    refine ⟨rfl, ?_, ?_⟩
    · rw [← e]
      exact ((HL.out.setBase _).alloc _).drew
    · exact ((((Touch.of_below (F := fun k => k = b) HB.out).setCell (t := none) (.inl rfl) _).alloc _)).drew

end Go.Proofs.YtoiajjobecinpaaGreat
