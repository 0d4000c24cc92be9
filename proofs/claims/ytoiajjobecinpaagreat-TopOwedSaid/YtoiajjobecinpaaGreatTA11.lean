/- A region that draws its order: its first operations only read, in a class of worlds; then a tail that makes memory; one  -/
import Derived.WalkMore
import Derived.Test.YtoiajjobecinpaaGreatTA08
import Derived.Test.YtoiajjobecinpaaGreatTA09
set_option maxHeartbeats 4000000
namespace Go.Proofs.YtoiajjobecinpaaGreat
open Go.RowKit
set_option linter.unusedVariables false
set_option linter.unusedSimpArgs false
section
variable {P : Program} {ops : Array Oper} {md : Region.Mode} {C : World → Prop}
structure QInv (md : Region.Mode) (ops : Array Oper) (n m : Nat) (listed : Array Bool) : Prop where
 size : listed.size = ops.size
 closed : ∀ j oj, ops[j]? = some oj → listed.getD j false = true → ∀ e ∈ oj.after, Region.binds md e = true → listed.getD e.on false = true
 tail : ∀ t, n ≤ t → t < m → listed.getD t true = false
 done : ∀ t, m ≤ t → listed.getD t true = true
theorem QInv.set {n m i : Nat} {listed : Array Bool} (inv : QInv md ops n m listed) (hi : i ∈ Region.ready md ops listed) (hin : i < n) : QInv md ops n m (listed.setIfInBounds i true) := by
 obtain ⟨_, oi, hoi, hall⟩ := mem_ready.1 hi; refine ⟨by simp [inv.size], fun j oj hj hl e he hb => ?_, fun t ht ht' => by rw [getD_set_ne true (by omega)]; exact inv.tail t ht ht', fun t ht => ?_⟩
 · by_cases hij : i = j
   · subst hij; have : oj = oi := Option.some.inj (hj.symm.trans hoi); subst this; exact getD_set_true (hall e he hb)
   · rw [getD_set_ne false hij] at hl; exact getD_set_true (inv.closed j oj hj hl e he hb)
 · by_cases hit : i = t
   · subst hit; by_cases h : i < listed.size
     · simp [h]
     · simp [h]
   · rw [getD_set_ne true hit]; exact inv.done t ht
def tailB (md : Region.Mode) (ops : Array Oper) (n m : Nat) : Bool := (List.range m).all fun t => decide (t ≤ n) || Region.waitsFor md ops t (t - 1)
theorem no_tail {n m : Nat} {listed : Array Bool} (hs : Region.sinkB md ops n = true) (hc : tailB md ops n m = true) (hn : n < ops.size) (inv : QInv md ops n m listed) (hnm : n < m) :
 ∀ (d i : Nat), n - i = d → i < n → listed.getD i true = false → ∀ t, n ≤ t → t ∉ Region.ready md ops listed := by
 intro d; induction d using Nat.strongRecOn with
 | _ d ih =>
  intro i hd hi hun t ht hr; obtain ⟨htun, ot, hot, hall⟩ := mem_ready.1 hr; rcases Nat.lt_or_ge t m with htm | htm
  · by_cases htn : t = n
    · subst htn; obtain ⟨j, hj, hj2⟩ := List.any_eq_true.1 (List.all_eq_true.1 hs i (List.mem_range.2 hi)); simp only [Bool.and_eq_true, decide_eq_true_eq] at hj2; obtain ⟨oj, hoj, e, he, hb, hon⟩ := Region.waitsFor_spec hj2.2; have hjle : j ≤ t := by have := List.mem_range.1 hj; omega
      by_cases hjt : j = t
      · subst hjt; have : oj = ot := Option.some.inj (hoj.symm.trans hot); subst this; have h2 := hall e he hb; rw [hon, getD_both hun] at h2; cases h2
      · cases hl : listed.getD j false with
        | true =>
         have h2 := inv.closed j oj hoj hl e he hb; rw [hon, getD_both hun] at h2; cases h2
        | false =>
         have hjs : j < listed.size := by rw [inv.size]; omega
         exact ih (t - j) (by omega) j rfl (by omega) (getD_in hjs hl) t (Nat.le_refl _) hr
    · have h1 := List.all_eq_true.1 hc t (List.mem_range.2 htm); simp only [Bool.or_eq_true, decide_eq_true_eq] at h1; rcases h1 with h1 | h1
      · omega
      · obtain ⟨o', ho', e, he, hb, hon⟩ := Region.waitsFor_spec h1; have : o' = ot := Option.some.inj (ho'.symm.trans hot); subst this; have h2 := hall e he hb; rw [hon, getD_both (inv.tail (t - 1) (by omega) (by omega))] at h2; cases h2
  · have := inv.done t htm; rw [htun] at this; cases this
def wpAnyQL (P : Program) (md : Region.Mode) (ops : Array Oper) (C : World → Prop) (n : Nat) (L : Array Bool → Act → Prop) : Nat → Array Bool → Act → Prop
 | 0, listed, a => L listed a
 | f + 1, listed, a => Region.ready md ops listed ≠ [] ∧ ∀ i ∈ Region.ready md ops listed, i < n ∧ qOp P ops C i (wpAnyQL P md ops C n L f (listed.setIfInBounds i true)) a
theorem wpAny_of_QL {n g : Nat} {L : Array Bool → Act → Prop} {Q' : Exit → Act → World → Prop} (hL : ∀ listed a w, C w → L listed a → wpAny P md ops Q' g listed a w) :
 ∀ (f : Nat) (listed : Array Bool) (a : Act) (w : World), C w → wpAnyQL P md ops C n L f listed a → wpAny P md ops Q' (f + g) listed a w
 | 0, listed, a, w, hw, h => by rw [Nat.zero_add]; exact hL _ _ _ hw h
 | f + 1, listed, a, w, hw, h => by
  rw [show f + 1 + g = (f + g) + 1 by omega]; exact ⟨fun h0 => absurd h0 h.1, fun i hi => wpOp_of_qOp hw (fun a' w' hw' h' => wpAny_of_QL hL f _ a' w' hw' h') (h.2 i hi).2⟩
theorem wpAnyQL_first {n m i : Nat} {oi : Oper} {v : Value} {L : Array Bool → Act → Prop} (hi : ops[i]? = some oi) (hsel : ∀ (j : Nat) (o : Oper) cs b, ops[j]? = some o → o.op ≠ .select cs b)
 (hs : Region.sinkB md ops n = true) (hc : tailB md ops n m = true) (hn : n < ops.size) (hnm : n < m) (hin : i < n)
 (hdone : ∀ listed a, L listed a → ∀ j ∈ Region.ready md ops listed, n ≤ j) :
 ∀ (f : Nat) (listed : Array Bool) (a : Act), QInv md ops n m listed →
  (∀ j oj, ops[j]? = some oj → j ≠ i → listed.getD j true = false → (∀ e ∈ oj.after, Region.binds md e = true → e.on ≠ i) → oi.apart ops oj = true) →
  i ∈ Region.ready md ops listed → YieldsIn P ops C oi v a →
  wpAnyQL P md ops C n L f (listed.setIfInBounds i true) (a.put oi.dst v) → wpAnyQL P md ops C n L (f + 1) listed a := by
 intro f; induction f with
 | zero =>
  intro listed a inv _ hr hy H; have hun := (mem_ready.1 hr).1; refine ⟨fun h => (by rw [h] at hr; cases hr), fun j hj => ?_⟩; have hjn : j < n := by
   rcases Nat.lt_or_ge j n with h | h
   · exact h
   · exact absurd hj (no_tail hs hc hn inv hnm _ i rfl hin hun j h)
  refine ⟨hjn, ?_⟩; by_cases hji : j = i
  · subst hji; exact hy.qOp hi H
  · have := hdone _ _ H j (ready_mono hj hji); omega
 | succ f ih =>
  intro listed a inv hfree hr hy H; have hun := (mem_ready.1 hr).1; refine ⟨fun h => (by rw [h] at hr; cases hr), fun j hj => ?_⟩; have hjn : j < n := by
   rcases Nat.lt_or_ge j n with h | h
   · exact h
   · exact absurd hj (no_tail hs hc hn inv hnm _ i rfl hin hun j h)
  refine ⟨hjn, ?_⟩; by_cases hji : j = i
  · subst hji; exact hy.qOp hi H
  · have h1 := (H.2 j (ready_mono hj hji)).2; obtain ⟨hjun, oj, hoj, hall⟩ := mem_ready.1 hj; have hnot : ∀ e ∈ oj.after, Region.binds md e = true → e.on ≠ i := fun e he hb heq => by
     have h1 := hall e he hb; rw [heq, getD_both hun] at h1; cases h1
    have h2 := qOp_put hoj (hfree j oj hoj hji hjun hnot) (fun cs b => hsel i oi cs b hi) (fun cs b => hsel j oj cs b hoj) hy h1; have hfree' : ∀ k ok, ops[k]? = some ok → k ≠ i → (listed.setIfInBounds j true).getD k true = false →
     (∀ e ∈ ok.after, Region.binds md e = true → e.on ≠ i) → oi.apart ops ok = true := fun k ok hk hki hun hno => by
     refine hfree k ok hk hki ?_ hno; by_cases hjk : j = k
     · subst hjk; exact hjun
     · rw [getD_set_ne true hjk] at hun; exact hun
    refine qOp_mono (fun a' h3 => ih (listed.setIfInBounds j true) a' (inv.set hj hjn) hfree' (ready_mono hr (Ne.symm hji)) h3.1 ?_) h2; rw [Array.setIfInBounds_comm _ _ hji]; exact h3.2
def headSet : Nat → Nat → Array Bool → Array Bool
 | 0, _, listed => listed
 | f + 1, k, listed => headSet f (k + 1) (listed.setIfInBounds k true)
def headB (md : Region.Mode) (ops : Array Oper) (n : Nat) : Nat → Nat → Array Bool → Bool
 | 0, _, listed => (Region.ready md ops listed).all fun j => decide (n ≤ j)
 | f + 1, k, listed => decide (k < n) && (Region.ready md ops listed).contains k && Region.free md ops listed k && headB md ops n f (k + 1) (listed.setIfInBounds k true)
theorem wpAnyQL_lex {n m : Nat} {R : Act → Prop} (hsel : Region.noSelect ops = true) (hs : Region.sinkB md ops n = true) (hc : tailB md ops n m = true) (hn : n < ops.size) (hnm : n < m) (LF : Array Bool)
 (hLF : ∀ j ∈ Region.ready md ops LF, n ≤ j) :
 ∀ (l : List Oper) (k : Nat) (listed : Array Bool) (a : Act), (∀ j, j < l.length → l[j]? = ops[k + j]?) → QInv md ops n m listed → headB md ops n l.length k listed = true → headSet l.length k listed = LF →
  wpQuiet P ops C R l a → wpAnyQL P md ops C n (fun listed a => listed = LF ∧ R a) l.length listed a
 | [], _, listed, _, _, _, _, hf, h => ⟨hf, h⟩
 | o :: l, k, listed, a, hl, inv, hB, hf, h => by
  have h0 : ops[k]? = some o := by simpa using (hl 0 (by simp)).symm
  simp only [List.length_cons, headB, Bool.and_eq_true, decide_eq_true_eq] at hB; obtain ⟨⟨⟨hkn, hr⟩, hfr⟩, hB'⟩ := hB; have hr' : k ∈ Region.ready md ops listed := by simpa using hr
  have hst : qOp P ops C k (wpQuiet P ops C R l) a := by unfold qOp; simp only [h0]; exact h
  obtain ⟨v, hy, hK⟩ := yieldsIn_of_qOp h0 hst; refine wpAnyQL_first h0 (Region.noSelect_spec hsel) hs hc hn hnm hkn (fun listed a hL j hj => hLF j (by rw [← hL.1]; exact hj)) l.length listed a inv (Region.free_spec h0 hfr) hr' hy ?_; exact wpAnyQL_lex hsel hs hc hn hnm LF hLF l (k + 1) _ _ (fun j hj => by have := hl (j + 1) (by simp; omega); simpa [Nat.add_assoc, Nat.add_comm 1 j] using this) (inv.set hr' hkn) hB' hf hK
theorem qinv_start (ops : Array Oper) (md : Region.Mode) (n m : Nat) (listed : Array Bool) (hm : m ≤ ops.size) (h : (decide (listed.size = ops.size) && (List.range ops.size).all fun t => (if t < m then listed.getD t true == false else listed.getD t true == true && ((ops[t]?).map fun o => o.after.isEmpty).getD false)) = true) : QInv md ops n m listed := by
 simp only [Bool.and_eq_true, decide_eq_true_eq, List.all_eq_true, List.mem_range] at h; obtain ⟨hz, hall⟩ := h; refine ⟨hz, fun j oj hj hl e he hb => ?_, fun t ht ht' => ?_, fun t ht => ?_⟩
 · have hlt : j < ops.size := (Array.getElem?_eq_some_iff.1 hj).1; have := hall j hlt; split at this
   · have h1 : listed.getD j true = false := by simpa using this
     rw [getD_both h1] at hl; cases hl
   · simp only [hj, Option.map_some, Option.getD_some, Bool.and_eq_true, Array.isEmpty_iff] at this; rw [this.2] at he; simp at he
 · by_cases hlt : t < ops.size
   · have := hall t hlt; rw [if_pos ht'] at this; simpa using this
   · omega
 · by_cases hlt : t < ops.size
   · have := hall t hlt; rw [if_neg (by omega)] at this; simp only [Bool.and_eq_true] at this; simpa using this.1
   · simp [hz, hlt]
theorem wpAny_seqT {Q' : Exit → Act → World → Prop} : ∀ (l : List Oper) (k : Nat) (listed : Array Bool) (a : Act) (w : World), (∀ j, j < l.length → l[j]? = ops[k + j]?) →
 Region.seqB md ops l.length k listed = true → wpList P ops Q' l a w → wpAny P md ops Q' l.length listed a w
 | [], _, _, _, _, _, hB, h => ⟨by simpa [Region.seqB] using hB, h⟩
 | o :: l, k, listed, a, w, hl, hB, h => by
  have h0 : ops[k]? = some o := by simpa using (hl 0 (by simp)).symm
  simp only [List.length_cons, Region.seqB, Bool.and_eq_true, decide_eq_true_eq] at hB; refine ⟨fun h1 => (by rw [hB.1] at h1; cases h1), fun i hi => ?_⟩; rw [hB.1] at hi; have hik : i = k := by simpa using hi
  subst hik; have hw : wpOp P ops Q' i (wpList P ops Q' l) a w := by unfold wpOp; simp only [h0]; exact h
  exact wpOp_mono (fun a' w' h' => wpAny_seqT l (i + 1) _ a' w' (fun j hj => by have := hl (j + 1) (by simp; omega); simpa [Nat.add_assoc, Nat.add_comm 1 j] using this) hB.2 h') hw
def regionHeadB (md : Region.Mode) (ops : Array Oper) (n : Nat) : Bool :=
 let m := ops.size - 1
 let L0 := (Array.replicate ops.size false).setIfInBounds m true
 Region.noSelect ops && decide (n < m) && Region.sinkB md ops n && tailB md ops n m && Region.free md ops (Array.replicate ops.size false) m && (Region.ready md ops (Array.replicate ops.size false)).contains m &&
  (decide (L0.size = ops.size) && (List.range ops.size).all fun t => (if t < m then L0.getD t true == false else L0.getD t true == true && ((ops[t]?).map fun o => o.after.isEmpty).getD false)) &&
  headB md ops n n 0 L0 && (Region.ready md ops (headSet n 0 L0)).all (fun j => decide (n ≤ j)) && Region.seqB md ops (m - n) n (headSet n 0 L0)
theorem wp_region_head {id : Nat} {Q : Exit → Act → World → Prop} {a : Act} {w : World} {l : List Oper} (n : Nat) {ox : Oper} {vx : Value} (hm : P.follows .mixedOrders = true) (hx : l[l.length - 1]? = some ox) (hB : regionHeadB .any l.toArray n = true) (hC : C w.drew)
 (hQ : ∀ c a w, Q (.panic c) (a.put ox.dst vx) w → Q (.panic c) a w) (hy : Yields P l.toArray ox vx a)
 (h : wpQuiet P l.toArray C (fun a' => ∀ w', C w' → wpList P l.toArray Q ((l.drop n).take (l.length - 1 - n)) a' w') (l.take n) (a.put ox.dst vx)) : (Code.region id l.toArray true).wp P Q a w := by
 unfold regionHeadB at hB; simp only [Bool.and_eq_true, decide_eq_true_eq] at hB; obtain ⟨⟨⟨⟨⟨⟨⟨⟨⟨hsel, hn⟩, hs⟩, hc⟩, hfr⟩, hrd⟩, hq⟩, hh⟩, hLF⟩, hseq⟩ := hB; have hsz : l.toArray.size = l.length := by simp
 have hpos : l.length - 1 + 1 = l.length := by rw [hsz] at hn; omega
 have hn' : n < l.length - 1 := by rw [hsz] at hn; exact hn
 have htl : (l.take n).length = n := by simp; omega
 have hdl : ((l.drop n).take (l.length - 1 - n)).length = l.length - 1 - n := by simp; omega
 refine wp_region_any hm ?_; rw [show l.toArray.size = (l.length - 1) + 1 from by rw [hsz]; omega]; refine wpAny_take (i := l.length - 1) (oi := ox) (v := vx) (by simpa using hx) hsel (by simpa [hpos] using hfr) (by simpa [hpos] using hrd) hQ hy ?_; have inv := qinv_start l.toArray .any n (l.toArray.size - 1) _ (by omega) (by simp only [Bool.and_eq_true, decide_eq_true_eq]; exact hq); have H := wpAnyQL_lex (P := P) (C := C) (md := .any) (R := fun a' => ∀ w', C w' → wpList P l.toArray Q ((l.drop n).take (l.length - 1 - n)) a' w') hsel hs hc (by omega) hn (headSet n 0 ((Array.replicate l.toArray.size false).setIfInBounds (l.toArray.size - 1) true)) (by simpa using hLF)
  (l.take n) 0 _ (a.put ox.dst vx) (fun j hj => by rw [htl] at hj; simp [hj]) inv (by rw [htl]; exact hh) (by rw [htl]) h
 have := wpAny_of_QL (P := P) (C := C) (Q' := Q) (g := l.length - 1 - n) (fun listed a' w' hw' hL => by
  have := wpAny_seqT (P := P) (md := .any) (Q' := Q) (ops := l.toArray) ((l.drop n).take (l.length - 1 - n)) n listed a' w' (fun j hj => by rw [hdl] at hj; simp [List.getElem?_take, List.getElem?_drop, hj]) (by rw [hdl, hL.1]; simpa using hseq) (hL.2 w' hw'); rwa [hdl] at this) _ _ _ _ hC H
 rw [htl, show n + (l.length - 1 - n) = l.length - 1 by omega] at this; simpa [hpos] using this
end
end Go.Proofs.YtoiajjobecinpaaGreat
namespace Go.Proofs.YtoiajjobecinpaaGreat
open Go.RowKit Go.Shelf Go.Lib Go.Proofs
set_option linter.unusedVariables false
set_option linter.unusedSimpArgs false
section
attribute [local go_sem] Oper.semAt_some
end
section
attribute [local go_sem] Oper.semAt_some
def MarksOk (n₀ : Nat) : List Deferred → World → Prop
 | [], _ => True
 | d :: ds, W => (∃ r, d.target = .collected r ∧ n₀ ≤ r ∧ W.heap[r]? = some (.deferred (some [])) ∧ ∀ d' ∈ ds, d'.target ≠ .collected r) ∧ MarksOk n₀ ds W
theorem MarksOk.kept {n₀ : Nat} {W W' : World} : ∀ {ds : List Deferred}, MarksOk n₀ ds W → (∀ r, n₀ ≤ r → W.heap[r]? = some (.deferred (some [])) → (∃ d ∈ ds, d.target = .collected r) → W'.heap[r]? = some (.deferred (some []))) → MarksOk n₀ ds W'
 | [], _, _ => trivial
 | d :: ds, ⟨⟨r, h1, h2, h3, h4⟩, h5⟩, hk => ⟨⟨r, h1, h2, hk r h2 h3 ⟨d, by simp, h1⟩, h4⟩, h5.kept (fun r' a b ⟨d', c, e⟩ => hk r' a b ⟨d', List.mem_cons_of_mem _ c, e⟩)⟩
theorem MarksOk.below {n₀ : Nat} {W W' : World} {ds : List Deferred} (h : MarksOk n₀ ds W) (hb : Below W.heap.size W W') : MarksOk n₀ ds W' :=
 h.kept (fun r _ hr _ => (hb.block r (lt_of_some hr)).trans hr)
theorem MarksOk.lt {n₀ : Nat} {W : World} : ∀ {ds : List Deferred}, MarksOk n₀ ds W → ∀ d ∈ ds, ∃ r, d.target = .collected r ∧ r < W.heap.size
 | [], _, _, h => by cases h
 | d :: ds, ⟨⟨r, h1, h2, h3, h4⟩, h5⟩, d', h => by
  rcases List.mem_cons.1 h with e | e
  · exact ⟨r, by rw [e]; exact h1, lt_of_some h3⟩
  · exact h5.lt d' e
theorem MarksOk.cons {n₀ D : Nat} {W W' : World} {ds : List Deferred} {args : Array Value} (h : MarksOk n₀ ds W) (hb : Below W.heap.size W W') (hn : n₀ ≤ W.heap.size) (hD : W.heap.size ≤ D) (hK : W'.heap[D]? = some (.deferred (some []))) : MarksOk n₀ ({ target := .collected D, args := args } :: ds) W' :=
 ⟨⟨D, rfl, by omega, hK, fun d' hd e => by obtain ⟨r, h1, h2⟩ := h.lt d' hd; rw [h1] at e; cases e; omega⟩, h.below hb⟩
theorem leaves_marks {F : Fence} {n : Nat} {P : Program} {fn : Func} {tmps : Array Value} {R : Ending → World → Prop} {n₀ : Nat} : ∀ (ds : List Deferred) (W : World), MarksOk n₀ ds W → n₀ ≤ W.heap.size → (∀ W', Below n₀ W W' → LeavesInM F n P fn tmps R [] .returning W') → LeavesInM F n P fn tmps R ds .returning W
 | [], W, _, _, hf => hf W (Below.refl _ _)
 | d :: ds, W, ⟨⟨r, h1, h2, h3, h4⟩, h5⟩, hn, hf => by
  refine ⟨by simp, .inl ⟨r, _, h1, run_takeDeferred h3, ?_⟩⟩; have hb : Below n₀ W (W.putObj r (.deferred none)) := belowK_b (w := ⟨W.heap.extract 0 n₀, W.tape, W.drawn, W.os, W.output⟩) (by simp; omega) W r _ _ (by simp; omega) h3 rfl rfl; refine leaves_marks ds _ (h5.kept (fun r' a b ⟨d', c, e⟩ => ?_)) (Nat.le_trans hn hb.size) (fun W' hW' => hf W' (hb.trans hW')); rw [World.putObj_heap_other (fun e2 => h4 d' c (by rw [e, e2]))]; exact b
end
section
attribute [local go_sem] Oper.semAt_some
abbrev Acc4 := Int × Int × Int × Int
def AccOk (acc : List Acc4) : Prop := acc.length = 16 ∧ ∀ i, i < 16 → FreeA (acc.getD i default).1 (acc.getD i default).2.1 (acc.getD i default).2.2.1 (acc.getD i default).2.2.2 ∨ FullA (acc.getD i default).1 (acc.getD i default).2.1 (acc.getD i default).2.2.1 (acc.getD i default).2.2.2
def useA (acc : List Acc4) (x : G16) : List Acc4 :=
 if (useP (acc.getD x.1.toNat default).1 (acc.getD x.1.toNat default).2.1 (acc.getD x.1.toNat default).2.2.1 (acc.getD x.1.toNat default).2.2.2).2 = 0
 then acc.set x.1.toNat (useP (acc.getD x.1.toNat default).1 (acc.getD x.1.toNat default).2.1 (acc.getD x.1.toNat default).2.2.1 (acc.getD x.1.toNat default).2.2.2).1 else acc
theorem useP_ok {q p l f : Int} (h : FreeA q p l f ∨ FullA q p l f) (h0 : (useP q p l f).2 = 0) : FreeA (useP q p l f).1.1 (useP q p l f).1.2.1 (useP q p l f).1.2.2.1 (useP q p l f).1.2.2.2 ∨ FullA (useP q p l f).1.1 (useP q p l f).1.2.1 (useP q p l f).1.2.2.1 (useP q p l f).1.2.2.2 := by
 unfold useP at h0 ⊢; split at h0
 · rename_i hf; rw [if_pos hf]; split at h0
   · cases h0
   · rename_i hl; rw [if_neg hl]; exact .inr (by unfold FullA at hf ⊢; simp only; omega)
 · rename_i hf; rw [if_neg hf]; split at h0
   · rename_i hfr; rw [if_pos hfr]; exact .inl hfr
   · cases h0
theorem getD_set_acc (l : List Acc4) (k j : Nat) (v : Acc4) (hk : k < l.length) : (l.set k v).getD j default = if k = j then v else l.getD j default := by
 rw [List.getD_eq_getElem?_getD, List.getElem?_set, List.getD_eq_getElem?_getD]; by_cases e : k = j
 · subst e; simp [hk]
 · simp [e]
theorem AccOk.use {acc : List Acc4} (h : AccOk acc) (x : G16) : AccOk (useA acc x) := by
 unfold useA; have hx := x.2; split
 · rename_i h0; refine ⟨by rw [List.length_set]; exact h.1, fun i hi => ?_⟩; rw [getD_set_acc _ _ _ _ (by rw [h.1]; omega)]; split
   · exact useP_ok (h.2 _ (by omega)) h0
   · exact h.2 i hi
 · exact h
def setAcc (s : Sy) (acc : List Acc4) : Sy := ⟨s.cores, s.gs, acc, s.ps, s.tasks, s.cnt⟩
theorem SysAt.own_steps {sb gb nb pb mb n : Nat} {cv : Value} {D : DataW Unit} {cbs : List Nat} {tb : Int → Nat} {own : Nat → Option Own} {s : Sy} {W W' : World} {row : Option Nat} {B : Nat} (h : SysAt W sb gb nb pb mb n cv D cbs tb own s) (hB : ∀ k, own k ≠ none → k < B)
 (hg : W.grownBy W' row) (hr : ∀ r, row = some r → B ≤ r) : SysAt W' sb gb nb pb mb n cv D cbs tb own s :=
 h.same hg.size (fun k hk => hg.block k (h.lt k hk) (fun e => by have := hr k e.symm; have := hB k hk; omega))
theorem SysAt.setA {W : World} {sb gb nb pb mb n : Nat} {cv : Value} {D : DataW Unit} {cbs : List Nat} {tb : Int → Nat} {own : Nat → Option Own} {s : Sy} (h : SysAt W sb gb nb pb mb n cv D cbs tb own s) (k : Nat) (hk : k < 16) (hl : s.acc.length = 16) (u0 u1 u2 u3 : Int) :
 SysAt ((((W.setCell ⟨sb, 2 + k * 4, none⟩ (.int .i64 u0)).setCell ⟨sb, 2 + k * 4 + 1, none⟩ (.int .i64 u1)).setCell ⟨sb, 2 + k * 4 + 2, none⟩ (.int .i64 u2)).setCell ⟨sb, 2 + k * 4 + 3, none⟩ (.int .i64 u3)) sb gb nb pb mb n cv D cbs tb own (setAcc s (s.acc.set k (u0, u1, u2, u3))) := by
 have hb : ∀ j, j ≠ sb → ((((W.setCell ⟨sb, 2 + k * 4, none⟩ (.int .i64 u0)).setCell ⟨sb, 2 + k * 4 + 1, none⟩ (.int .i64 u1)).setCell ⟨sb, 2 + k * 4 + 2, none⟩ (.int .i64 u2)).setCell ⟨sb, 2 + k * 4 + 3, none⟩ (.int .i64 u3)).heap[j]? = W.heap[j]? := fun j hj => by
  rw [Below.heap_setCell _ _ _ _ (by simpa using hj), Below.heap_setCell _ _ _ _ (by simpa using hj), Below.heap_setCell _ _ _ _ (by simpa using hj), Below.heap_setCell _ _ _ _ (by simpa using hj)]
 have hsz : ((((W.setCell ⟨sb, 2 + k * 4, none⟩ (.int .i64 u0)).setCell ⟨sb, 2 + k * 4 + 1, none⟩ (.int .i64 u1)).setCell ⟨sb, 2 + k * 4 + 2, none⟩ (.int .i64 u2)).setCell ⟨sb, 2 + k * 4 + 3, none⟩ (.int .i64 u3)).heap.size = W.heap.size := by simp
 have hne : ∀ x o, own x = some o → o ≠ .sys → x ≠ sb := fun x o hx ho e => by subst e; rw [h.osb] at hx; exact ho (by simpa using hx.symm)
 have hcell : ∀ j, (j < 2 + k * 4 ∨ 2 + k * 4 + 3 < j) → ((((W.setCell ⟨sb, 2 + k * 4, none⟩ (.int .i64 u0)).setCell ⟨sb, 2 + k * 4 + 1, none⟩ (.int .i64 u1)).setCell ⟨sb, 2 + k * 4 + 2, none⟩ (.int .i64 u2)).setCell ⟨sb, 2 + k * 4 + 3, none⟩ (.int .i64 u3)).cell? ⟨sb, j, none⟩ = W.cell? ⟨sb, j, none⟩ := fun j hj => by
  rw [cell_setCell_ne _ (by first | (simp; done) | (simp; omega)), cell_setCell_ne _ (by first | (simp; done) | (simp; omega)), cell_setCell_ne _ (by first | (simp; done) | (simp; omega)), cell_setCell_ne _ (by first | (simp; done) | (simp; omega))]
 refine ⟨(hcell 0 (by omega)).trans h.head, (hcell 1 (by omega)).trans h.c1, fun i hi => ?_, (hcell 66 (by omega)).trans h.c66, (hcell 67 (by omega)).trans h.c67, fun i => by rw [World.frozen?_setCell, World.frozen?_setCell, World.frozen?_setCell, World.frozen?_setCell]; exact h.live i,
  h.groups.same (hb gb (hne gb _ h.ogb (by simp))), h.slots.same (hb nb (hne nb _ h.onb (by simp))) (hb pb (hne pb _ h.opb (by simp))), ownsMap_same h.map (hb mb (hne mb _ h.omb (by simp))), h.cnt, h.reads, fun id t ht => ?_, ownsRow_same h.row (fun j hj => hb j (hne j _ (h.rown j hj) (by simp))), h.rown, h.num,
  fun i hi => (h.core i hi).same (by rw [hsz]; exact Nat.le_refl _) (fun j hj => hb j (hne j _ hj (by simp))), h.osb, h.ogb, h.onb, h.opb, h.omb, fun j hj => by rw [hsz]; exact h.lt j hj⟩
 · show _ ∧ _; simp only [setAcc]; rw [getD_set_acc _ _ _ _ (by omega)]; obtain ⟨a0, a1, a2, a3⟩ := h.acc i hi; by_cases e : k = i
   · subst e; rw [if_pos rfl]; refine ⟨?_, ?_, ?_, ?_⟩
     · rw [cell_setCell_ne _ (by first | (simp; done) | (simp; omega)), cell_setCell_ne _ (by first | (simp; done) | (simp; omega)), cell_setCell_ne _ (by first | (simp; done) | (simp; omega))]; exact World.cell?_setCell_same _ _ _ a0
     · rw [cell_setCell_ne _ (by simp), cell_setCell_ne _ (by simp)]; exact World.cell?_setCell_same _ _ _ (by rw [cell_setCell_ne _ (by simp)]; exact a1)
     · rw [cell_setCell_ne _ (by simp)]; exact World.cell?_setCell_same _ _ _ (by rw [cell_setCell_ne _ (by simp), cell_setCell_ne _ (by simp)]; exact a2)
     · exact World.cell?_setCell_same _ _ _ (by rw [cell_setCell_ne _ (by simp), cell_setCell_ne _ (by simp), cell_setCell_ne _ (by simp)]; exact a3)
   · rw [if_neg e]; exact ⟨(hcell _ (by omega)).trans a0, (hcell _ (by omega)).trans a1, (hcell _ (by omega)).trans a2, (hcell _ (by omega)).trans a3⟩
 · obtain ⟨t1, t2⟩ := h.task id t ht; exact ⟨t1.same (hb _ (hne _ _ t2 (by simp))), t2⟩
end
theorem meth_Enter_stride (p : Value) (W : World) : Sem.run Tryz.prog (method 484 235 p "Enter") W = Result.ok (261, p) W := by kernel_rfl
theorem meth_Enter_fair (p : Value) (W : World) : Sem.run Tryz.prog (method 484 239 p "Enter") W = Result.ok (302, p) W := by kernel_rfl
theorem meth_Enter_due (p : Value) (W : World) : Sem.run Tryz.prog (method 484 242 p "Enter") W = Result.ok (312, p) W := by kernel_rfl
theorem meth_Put_stride (p : Value) (W : World) : Sem.run Tryz.prog (method 484 235 p "Put") W = Result.ok (265, p) W := by kernel_rfl
theorem meth_Put_fair (p : Value) (W : World) : Sem.run Tryz.prog (method 484 239 p "Put") W = Result.ok (306, p) W := by kernel_rfl
theorem meth_Put_due (p : Value) (W : World) : Sem.run Tryz.prog (method 484 242 p "Put") W = Result.ok (316, p) W := by kernel_rfl
theorem meth_Form_stride (p : Value) (W : World) : Sem.run Tryz.prog (method 484 235 p "Form") W = Result.ok (262, p) W := by kernel_rfl
theorem meth_Form_fair (p : Value) (W : World) : Sem.run Tryz.prog (method 484 239 p "Form") W = Result.ok (303, p) W := by kernel_rfl
theorem meth_Form_due (p : Value) (W : World) : Sem.run Tryz.prog (method 484 242 p "Form") W = Result.ok (313, p) W := by kernel_rfl
theorem meth_Leave_stride (p : Value) (W : World) : Sem.run Tryz.prog (method 484 235 p "Leave") W = Result.ok (263, p) W := by kernel_rfl
theorem meth_Leave_fair (p : Value) (W : World) : Sem.run Tryz.prog (method 484 239 p "Leave") W = Result.ok (304, p) W := by kernel_rfl
theorem meth_Leave_due (p : Value) (W : World) : Sem.run Tryz.prog (method 484 242 p "Leave") W = Result.ok (314, p) W := by kernel_rfl
theorem meth_Weigh_stride (p : Value) (W : World) : Sem.run Tryz.prog (method 484 235 p "Weigh") W = Result.ok (266, p) W := by kernel_rfl
theorem meth_Weigh_fair (p : Value) (W : World) : Sem.run Tryz.prog (method 484 239 p "Weigh") W = Result.ok (307, p) W := by kernel_rfl
theorem meth_Weigh_due (p : Value) (W : World) : Sem.run Tryz.prog (method 484 242 p "Weigh") W = Result.ok (317, p) W := by kernel_rfl
theorem QIn.line {W : World} {qb : Nat} {G : Nat → Prop} {tag : Int} {l : Ln} (h : QIn W qb G tag l) : ∃ lb v, W.cell? ⟨qb, 0, none⟩ = some (.iface (qty tag) (.pointer (some ⟨lb, 0, none⟩))) ∧ LineAt W lb v l ∧ (tag = 0 ∨ tag = 1 ∨ tag = 2) ∧
 ∀ (w1 : World) (v' : Value) (l' : Ln), LineAt w1 lb v' l' → Touch (lfp lb v) W w1 → (∀ k, v'.ownBlock = some k → v.ownBlock = some k ∨ W.heap.size ≤ k) →
  ∃ G', QIn w1 qb G' tag l' ∧ Touch G W w1 ∧ ∀ k, G' k → G k ∨ W.heap.size ≤ k := by
 obtain ⟨lb, v, h1, h2, h3, h4, h5, h6, h7, h8⟩ := h; refine ⟨lb, v, h1, h4, h7, fun w1 v' l' hl ht hv => ?_⟩; have hqb : w1.heap[qb]? = W.heap[qb]? := ht.block qb (h8 qb h5) (fun hk => (h6 qb hk).2 rfl); have h0 : ∀ i, w1.cell? ⟨qb, i, none⟩ = W.cell? ⟨qb, i, none⟩ := fun i => World.cell?_of_block hqb; have h0' : ∀ i, w1.frozen? ⟨qb, i, none⟩ = W.frozen? ⟨qb, i, none⟩ := fun i => World.frozen?_of_block hqb; refine ⟨fun k => G k ∨ v'.ownBlock = some k, ⟨lb, v', (h0 0).trans h1, (h0 1).trans h2, fun i => (h0' i).trans (h3 i), hl, .inl h5, fun k hk => ?_, h7, fun k hk => ?_⟩, ht.wider (fun k hk => (h6 k hk).1), fun k hk => ?_⟩
 · rcases hk with rfl | hk
   · exact ⟨.inl (h6 k (.inl rfl)).1, (h6 k (.inl rfl)).2⟩
   · refine ⟨.inr hk, ?_⟩; rcases hv k hk with h | h
     · exact (h6 k (.inr h)).2
     · have := h8 qb h5; omega
 · rcases hk with hk | hk
   · exact Nat.lt_of_lt_of_le (h8 k hk) ht.size
   · exact hl.lt k (.inr hk)
 · rcases hk with hk | hk
   · exact .inl hk
   · rcases hv k hk with h | h
     · exact .inl (h6 k (.inr h)).1
     · exact .inr h
def coreEnter (c : Co) (id w lag : Int) (exact : Bool) : Int × Co :=
 (mayE c.l id w lag, if mayE c.l id w lag = 0 then ⟨c.tag, putL c.l id w (if exact = true then lag else heldT c.tag lag), wrap64 (c.age + 1), c.srv⟩ else c)
def CEnterP (cb : Nat) (F : Nat → Prop) (r : Int × Co) (W : World) (e : Ending) (w' : World) : Prop :=
 e = .returned (.int .i64 r.1) ∧ (∃ F', CoreIn w' cb F' r.2 ∧ Touch F W w' ∧ ∀ k, F' k → F k ∨ W.heap.size ≤ k)
def EntB (cb : Nat) (F : Nat → Prop) (c : Co) (id w lag' r : Int) (W : World) (e : Ending) (w1 : World) : Prop :=
 e = .returned (.int .i64 r) ∧ ∃ F', CoreIn w1 cb F' (if r = 0 then ⟨c.tag, putL c.l id w lag', c.age, c.srv⟩ else c) ∧ Touch F W w1 ∧ ∀ k, F' k → F k ∨ W.heap.size ≤ k
theorem enter_back {W w1 : World} {cb : Nat} {F : Nat → Prop} {c : Co} {id w lag' r : Int} {e : Ending} {lb : Nat} {v : Value} {qb : Nat} {G : Nat → Prop}
 (hL : LineAt W lb v c.l) (hC : CoreIn W cb F c) (hGF : ∀ k, G k → F k)
 (hq : ∀ (w1 : World) (v' : Value) (l' : Ln), LineAt w1 lb v' l' → Touch (lfp lb v) W w1 → (∀ k, v'.ownBlock = some k → v.ownBlock = some k ∨ W.heap.size ≤ k) → ∃ G', QIn w1 qb G' c.tag l' ∧ Touch G W w1 ∧ ∀ k, G' k → G k ∨ W.heap.size ≤ k)
 (hback : ∀ (W' : World) (G' : Nat → Prop) (tag' : Int) (l' : Ln), QIn W' qb G' tag' l' → Touch G W W' → (∀ k, G' k → G k ∨ W.heap.size ≤ k) → CoreIn W' cb (fun k => F k ∨ G' k) ⟨tag', l', c.age, c.srv⟩)
 (h : PutP lb v c.l id w lag' r W e w1) :
 EntB cb F c id w lag' r W e w1 := by
 unfold EntB; by_cases hr : r = 0
 · obtain ⟨he, v', k1, k2, k3⟩ := h.2 hr; obtain ⟨G', q1, q2, q3⟩ := hq w1 v' _ k1 k2 k3; rw [if_pos hr]; refine ⟨by rw [he, hr], _, hback w1 G' c.tag _ q1 q2 q3, q2.wider hGF, fun k hk => ?_⟩; rcases hk with hk | hk
   · exact .inl hk
   · exact (q3 k hk).imp (hGF k) (fun h => h)
 · obtain ⟨he, hb⟩ := h.1 hr; rw [if_neg hr]; exact ⟨he, F, hC.below hb, Touch.of_below hb, fun k hk => .inl hk⟩
set_option maxRecDepth 100000 in
theorem centerfalse_stride (cb : Nat) (F : Nat → Prop) (c : Co) (id w lag : Int) (W : World) (h : CoreIn W cb F c) (hf : Fits c.l) (ht : c.tag = 0) :
 Calls Tryz.prog 110 #[.pointer (some ⟨cb, 0, none⟩), .int .i64 id, .int .i64 w, .int .i64 lag, .bool false] W (CEnterP cb F (coreEnter c id w lag false) W) := by
 obtain ⟨qb, G, c0, hQ, hGF, hback⟩ := h.q; obtain ⟨lb, v, q0, hL, -, hq⟩ := hQ.line; have HQT : Hid (qty c.tag = 235) := lH (by rw [ht]; unfold qty; simp); rw [HQT.out] at q0; have hmeth := fun W' => meth_Enter_stride (.pointer (some ⟨lb, 0, none⟩)) W'; have hent := qenter_stride lb v c.l id w lag W hL hf; have hheld : heldT c.tag lag = heldS lag := by rw [ht]; unfold heldT; simp
 rw [show coreEnter c id w lag false = (mayE c.l id w lag, if mayE c.l id w lag = 0 then ⟨c.tag, putL c.l id w (heldS lag), wrap64 (c.age + 1), c.srv⟩ else c) from by unfold coreEnter; simp only [Bool.false_eq_true, if_false, hheld]]; have HBK : ∀ (e : Ending) (w1 : World), PutP lb v c.l id w (heldS lag) (mayE c.l id w lag) W e w1 → EntB cb F c id w (heldS lag) (mayE c.l id w lag) W e w1 := fun e w1 hp => enter_back (c := c) (lb := lb) (v := v) (qb := qb) (G := G) hL h hGF hq hback hp; generalize mayE c.l id w lag = r at hent HBK ⊢; have HBK2 := lH HBK; obtain ⟨res, HRES⟩ : ∃ res, Hid ((r, if r = 0 then (⟨c.tag, putL c.l id w (heldS lag), wrap64 (c.age + 1), c.srv⟩ : Co) else c) = res) := ⟨_, lH rfl⟩
 rw [HRES.out]; clear h hf ht hQ hGF hback hq hL hheld HBK; go_enter Tryz.func110, Tryz.ntmps110; go_wp2_with fail
 refine hent.mono ?_; rintro e w1 hp; obtain ⟨rfl, F1, hC1, hT1, hF1⟩ := HBK2.out e w1 hp; have hdone := done_any cb F1 _ r w1 hC1; have HT1 := lH hT1; have HF1 := lH hF1; clear hp hC1 hT1 hF1; go_wp2_with fail
 refine hdone.mono ?_; rintro e w2 ⟨rfl, hC2, hT2⟩; have HC2 := lH hC2; have HT2 := lH hT2; clear hC2 hT2; go_wp2_with fail
 go_ret
 rw [← HRES.out]; refine ⟨rfl, F1, ?_, HT1.out.trans (fun k hk => HF1.out k hk) HT2.out, HF1.out⟩; have hC := HC2.out; by_cases hr : r = 0
 · simp only [if_pos hr] at hC ⊢; rw [show ageE r c.age = wrap64 (c.age + 1) from by unfold ageE; rw [if_pos hr]] at hC; exact hC
 · simp only [if_neg hr] at hC ⊢; rw [show ageE r c.age = c.age from by unfold ageE; rw [if_neg hr]] at hC; exact hC
set_option maxRecDepth 100000 in
theorem centertrue_stride (cb : Nat) (F : Nat → Prop) (c : Co) (id w lag : Int) (W : World) (h : CoreIn W cb F c) (hf : Fits c.l) (ht : c.tag = 0) :
 Calls Tryz.prog 110 #[.pointer (some ⟨cb, 0, none⟩), .int .i64 id, .int .i64 w, .int .i64 lag, .bool true] W (CEnterP cb F (coreEnter c id w lag true) W) := by
 obtain ⟨qb, G, c0, hQ, hGF, hback⟩ := h.q; obtain ⟨lb, v, q0, hL, -, hq⟩ := hQ.line; have HQT : Hid (qty c.tag = 235) := lH (by rw [ht]; unfold qty; simp); rw [HQT.out] at q0; have hmeth := fun W' => meth_Put_stride (.pointer (some ⟨lb, 0, none⟩)) W'; have hent := qput_stride lb v c.l id w lag W hL hf; rw [show coreEnter c id w lag true = (mayE c.l id w lag, if mayE c.l id w lag = 0 then ⟨c.tag, putL c.l id w lag, wrap64 (c.age + 1), c.srv⟩ else c) from by unfold coreEnter; simp only [eq_self, if_true]]; have HBK : ∀ (e : Ending) (w1 : World), PutP lb v c.l id w lag (mayE c.l id w lag) W e w1 → EntB cb F c id w lag (mayE c.l id w lag) W e w1 := fun e w1 hp => enter_back (c := c) (lb := lb) (v := v) (qb := qb) (G := G) hL h hGF hq hback hp; generalize mayE c.l id w lag = r at hent HBK ⊢; have HBK2 := lH HBK; obtain ⟨res, HRES⟩ : ∃ res, Hid ((r, if r = 0 then (⟨c.tag, putL c.l id w lag, wrap64 (c.age + 1), c.srv⟩ : Co) else c) = res) := ⟨_, lH rfl⟩
 rw [HRES.out]; clear h hf ht hQ hGF hback hq hL HBK; go_enter Tryz.func110, Tryz.ntmps110; go_wp2_with fail
 refine hent.mono ?_; rintro e w1 hp; obtain ⟨rfl, F1, hC1, hT1, hF1⟩ := HBK2.out e w1 hp; have hdone := done_any cb F1 _ r w1 hC1; have HT1 := lH hT1; have HF1 := lH hF1; clear hp hC1 hT1 hF1; go_wp2_with fail
 refine hdone.mono ?_; rintro e w2 ⟨rfl, hC2, hT2⟩; have HC2 := lH hC2; have HT2 := lH hT2; clear hC2 hT2; go_wp2_with fail
 go_ret
 rw [← HRES.out]; refine ⟨rfl, F1, ?_, HT1.out.trans (fun k hk => HF1.out k hk) HT2.out, HF1.out⟩; have hC := HC2.out; by_cases hr : r = 0
 · simp only [if_pos hr] at hC ⊢; rw [show ageE r c.age = wrap64 (c.age + 1) from by unfold ageE; rw [if_pos hr]] at hC; exact hC
 · simp only [if_neg hr] at hC ⊢; rw [show ageE r c.age = c.age from by unfold ageE; rw [if_neg hr]] at hC; exact hC
set_option maxRecDepth 100000 in
theorem centerfalse_fair (cb : Nat) (F : Nat → Prop) (c : Co) (id w lag : Int) (W : World) (h : CoreIn W cb F c) (hf : Fits c.l) (ht : c.tag = 1) :
 Calls Tryz.prog 110 #[.pointer (some ⟨cb, 0, none⟩), .int .i64 id, .int .i64 w, .int .i64 lag, .bool false] W (CEnterP cb F (coreEnter c id w lag false) W) := by
 obtain ⟨qb, G, c0, hQ, hGF, hback⟩ := h.q; obtain ⟨lb, v, q0, hL, -, hq⟩ := hQ.line; have HQT : Hid (qty c.tag = 239) := lH (by rw [ht]; unfold qty; simp); rw [HQT.out] at q0; have hmeth := fun W' => meth_Enter_fair (.pointer (some ⟨lb, 0, none⟩)) W'; have hent := qenter_fair lb v c.l id w lag W hL hf; have hheld : heldT c.tag lag = heldF lag := by rw [ht]; unfold heldT; simp
 rw [show coreEnter c id w lag false = (mayE c.l id w lag, if mayE c.l id w lag = 0 then ⟨c.tag, putL c.l id w (heldF lag), wrap64 (c.age + 1), c.srv⟩ else c) from by unfold coreEnter; simp only [Bool.false_eq_true, if_false, hheld]]; have HBK : ∀ (e : Ending) (w1 : World), PutP lb v c.l id w (heldF lag) (mayE c.l id w lag) W e w1 → EntB cb F c id w (heldF lag) (mayE c.l id w lag) W e w1 := fun e w1 hp => enter_back (c := c) (lb := lb) (v := v) (qb := qb) (G := G) hL h hGF hq hback hp; generalize mayE c.l id w lag = r at hent HBK ⊢; have HBK2 := lH HBK; obtain ⟨res, HRES⟩ : ∃ res, Hid ((r, if r = 0 then (⟨c.tag, putL c.l id w (heldF lag), wrap64 (c.age + 1), c.srv⟩ : Co) else c) = res) := ⟨_, lH rfl⟩
 rw [HRES.out]; clear h hf ht hQ hGF hback hq hL hheld HBK; go_enter Tryz.func110, Tryz.ntmps110; go_wp2_with fail
 refine hent.mono ?_; rintro e w1 hp; obtain ⟨rfl, F1, hC1, hT1, hF1⟩ := HBK2.out e w1 hp; have hdone := done_any cb F1 _ r w1 hC1; have HT1 := lH hT1; have HF1 := lH hF1; clear hp hC1 hT1 hF1; go_wp2_with fail
 refine hdone.mono ?_; rintro e w2 ⟨rfl, hC2, hT2⟩; have HC2 := lH hC2; have HT2 := lH hT2; clear hC2 hT2; go_wp2_with fail
 go_ret
 rw [← HRES.out]; refine ⟨rfl, F1, ?_, HT1.out.trans (fun k hk => HF1.out k hk) HT2.out, HF1.out⟩; have hC := HC2.out; by_cases hr : r = 0
 · simp only [if_pos hr] at hC ⊢; rw [show ageE r c.age = wrap64 (c.age + 1) from by unfold ageE; rw [if_pos hr]] at hC; exact hC
 · simp only [if_neg hr] at hC ⊢; rw [show ageE r c.age = c.age from by unfold ageE; rw [if_neg hr]] at hC; exact hC
set_option maxRecDepth 100000 in
theorem centertrue_fair (cb : Nat) (F : Nat → Prop) (c : Co) (id w lag : Int) (W : World) (h : CoreIn W cb F c) (hf : Fits c.l) (ht : c.tag = 1) :
 Calls Tryz.prog 110 #[.pointer (some ⟨cb, 0, none⟩), .int .i64 id, .int .i64 w, .int .i64 lag, .bool true] W (CEnterP cb F (coreEnter c id w lag true) W) := by
 obtain ⟨qb, G, c0, hQ, hGF, hback⟩ := h.q; obtain ⟨lb, v, q0, hL, -, hq⟩ := hQ.line; have HQT : Hid (qty c.tag = 239) := lH (by rw [ht]; unfold qty; simp); rw [HQT.out] at q0; have hmeth := fun W' => meth_Put_fair (.pointer (some ⟨lb, 0, none⟩)) W'; have hent := qput_fair lb v c.l id w lag W hL hf; rw [show coreEnter c id w lag true = (mayE c.l id w lag, if mayE c.l id w lag = 0 then ⟨c.tag, putL c.l id w lag, wrap64 (c.age + 1), c.srv⟩ else c) from by unfold coreEnter; simp only [eq_self, if_true]]; have HBK : ∀ (e : Ending) (w1 : World), PutP lb v c.l id w lag (mayE c.l id w lag) W e w1 → EntB cb F c id w lag (mayE c.l id w lag) W e w1 := fun e w1 hp => enter_back (c := c) (lb := lb) (v := v) (qb := qb) (G := G) hL h hGF hq hback hp; generalize mayE c.l id w lag = r at hent HBK ⊢; have HBK2 := lH HBK; obtain ⟨res, HRES⟩ : ∃ res, Hid ((r, if r = 0 then (⟨c.tag, putL c.l id w lag, wrap64 (c.age + 1), c.srv⟩ : Co) else c) = res) := ⟨_, lH rfl⟩
 rw [HRES.out]; clear h hf ht hQ hGF hback hq hL HBK; go_enter Tryz.func110, Tryz.ntmps110; go_wp2_with fail
 refine hent.mono ?_; rintro e w1 hp; obtain ⟨rfl, F1, hC1, hT1, hF1⟩ := HBK2.out e w1 hp; have hdone := done_any cb F1 _ r w1 hC1; have HT1 := lH hT1; have HF1 := lH hF1; clear hp hC1 hT1 hF1; go_wp2_with fail
 refine hdone.mono ?_; rintro e w2 ⟨rfl, hC2, hT2⟩; have HC2 := lH hC2; have HT2 := lH hT2; clear hC2 hT2; go_wp2_with fail
 go_ret
 rw [← HRES.out]; refine ⟨rfl, F1, ?_, HT1.out.trans (fun k hk => HF1.out k hk) HT2.out, HF1.out⟩; have hC := HC2.out; by_cases hr : r = 0
 · simp only [if_pos hr] at hC ⊢; rw [show ageE r c.age = wrap64 (c.age + 1) from by unfold ageE; rw [if_pos hr]] at hC; exact hC
 · simp only [if_neg hr] at hC ⊢; rw [show ageE r c.age = c.age from by unfold ageE; rw [if_neg hr]] at hC; exact hC
set_option maxRecDepth 100000 in
theorem centerfalse_due (cb : Nat) (F : Nat → Prop) (c : Co) (id w lag : Int) (W : World) (h : CoreIn W cb F c) (hf : Fits c.l) (ht : c.tag = 2) :
 Calls Tryz.prog 110 #[.pointer (some ⟨cb, 0, none⟩), .int .i64 id, .int .i64 w, .int .i64 lag, .bool false] W (CEnterP cb F (coreEnter c id w lag false) W) := by
 obtain ⟨qb, G, c0, hQ, hGF, hback⟩ := h.q; obtain ⟨lb, v, q0, hL, -, hq⟩ := hQ.line; have HQT : Hid (qty c.tag = 242) := lH (by rw [ht]; unfold qty; simp); rw [HQT.out] at q0; have hmeth := fun W' => meth_Enter_due (.pointer (some ⟨lb, 0, none⟩)) W'; have hent := qenter_due lb v c.l id w lag W hL hf; have hheld : heldT c.tag lag = heldD lag := by rw [ht]; unfold heldT; simp
 rw [show coreEnter c id w lag false = (mayE c.l id w lag, if mayE c.l id w lag = 0 then ⟨c.tag, putL c.l id w (heldD lag), wrap64 (c.age + 1), c.srv⟩ else c) from by unfold coreEnter; simp only [Bool.false_eq_true, if_false, hheld]]; have HBK : ∀ (e : Ending) (w1 : World), PutP lb v c.l id w (heldD lag) (mayE c.l id w lag) W e w1 → EntB cb F c id w (heldD lag) (mayE c.l id w lag) W e w1 := fun e w1 hp => enter_back (c := c) (lb := lb) (v := v) (qb := qb) (G := G) hL h hGF hq hback hp; generalize mayE c.l id w lag = r at hent HBK ⊢; have HBK2 := lH HBK; obtain ⟨res, HRES⟩ : ∃ res, Hid ((r, if r = 0 then (⟨c.tag, putL c.l id w (heldD lag), wrap64 (c.age + 1), c.srv⟩ : Co) else c) = res) := ⟨_, lH rfl⟩
 rw [HRES.out]; clear h hf ht hQ hGF hback hq hL hheld HBK; go_enter Tryz.func110, Tryz.ntmps110; go_wp2_with fail
 refine hent.mono ?_; rintro e w1 hp; obtain ⟨rfl, F1, hC1, hT1, hF1⟩ := HBK2.out e w1 hp; have hdone := done_any cb F1 _ r w1 hC1; have HT1 := lH hT1; have HF1 := lH hF1; clear hp hC1 hT1 hF1; go_wp2_with fail
 refine hdone.mono ?_; rintro e w2 ⟨rfl, hC2, hT2⟩; have HC2 := lH hC2; have HT2 := lH hT2; clear hC2 hT2; go_wp2_with fail
 go_ret
 rw [← HRES.out]; refine ⟨rfl, F1, ?_, HT1.out.trans (fun k hk => HF1.out k hk) HT2.out, HF1.out⟩; have hC := HC2.out; by_cases hr : r = 0
 · simp only [if_pos hr] at hC ⊢; rw [show ageE r c.age = wrap64 (c.age + 1) from by unfold ageE; rw [if_pos hr]] at hC; exact hC
 · simp only [if_neg hr] at hC ⊢; rw [show ageE r c.age = c.age from by unfold ageE; rw [if_neg hr]] at hC; exact hC
set_option maxRecDepth 100000 in
theorem centertrue_due (cb : Nat) (F : Nat → Prop) (c : Co) (id w lag : Int) (W : World) (h : CoreIn W cb F c) (hf : Fits c.l) (ht : c.tag = 2) :
 Calls Tryz.prog 110 #[.pointer (some ⟨cb, 0, none⟩), .int .i64 id, .int .i64 w, .int .i64 lag, .bool true] W (CEnterP cb F (coreEnter c id w lag true) W) := by
 obtain ⟨qb, G, c0, hQ, hGF, hback⟩ := h.q; obtain ⟨lb, v, q0, hL, -, hq⟩ := hQ.line; have HQT : Hid (qty c.tag = 242) := lH (by rw [ht]; unfold qty; simp); rw [HQT.out] at q0; have hmeth := fun W' => meth_Put_due (.pointer (some ⟨lb, 0, none⟩)) W'; have hent := qput_due lb v c.l id w lag W hL hf; rw [show coreEnter c id w lag true = (mayE c.l id w lag, if mayE c.l id w lag = 0 then ⟨c.tag, putL c.l id w lag, wrap64 (c.age + 1), c.srv⟩ else c) from by unfold coreEnter; simp only [eq_self, if_true]]; have HBK : ∀ (e : Ending) (w1 : World), PutP lb v c.l id w lag (mayE c.l id w lag) W e w1 → EntB cb F c id w lag (mayE c.l id w lag) W e w1 := fun e w1 hp => enter_back (c := c) (lb := lb) (v := v) (qb := qb) (G := G) hL h hGF hq hback hp; generalize mayE c.l id w lag = r at hent HBK ⊢; have HBK2 := lH HBK; obtain ⟨res, HRES⟩ : ∃ res, Hid ((r, if r = 0 then (⟨c.tag, putL c.l id w lag, wrap64 (c.age + 1), c.srv⟩ : Co) else c) = res) := ⟨_, lH rfl⟩
 rw [HRES.out]; clear h hf ht hQ hGF hback hq hL HBK; go_enter Tryz.func110, Tryz.ntmps110; go_wp2_with fail
 refine hent.mono ?_; rintro e w1 hp; obtain ⟨rfl, F1, hC1, hT1, hF1⟩ := HBK2.out e w1 hp; have hdone := done_any cb F1 _ r w1 hC1; have HT1 := lH hT1; have HF1 := lH hF1; clear hp hC1 hT1 hF1; go_wp2_with fail
 refine hdone.mono ?_; rintro e w2 ⟨rfl, hC2, hT2⟩; have HC2 := lH hC2; have HT2 := lH hT2; clear hC2 hT2; go_wp2_with fail
 go_ret
 rw [← HRES.out]; refine ⟨rfl, F1, ?_, HT1.out.trans (fun k hk => HF1.out k hk) HT2.out, HF1.out⟩; have hC := HC2.out; by_cases hr : r = 0
 · simp only [if_pos hr] at hC ⊢; rw [show ageE r c.age = wrap64 (c.age + 1) from by unfold ageE; rw [if_pos hr]] at hC; exact hC
 · simp only [if_neg hr] at hC ⊢; rw [show ageE r c.age = c.age from by unfold ageE; rw [if_neg hr]] at hC; exact hC
theorem center_any (cb : Nat) (F : Nat → Prop) (c : Co) (id w lag : Int) (x : Bool) (W : World) (h : CoreIn W cb F c) (hf : Fits c.l) :
 Calls Tryz.prog 110 #[.pointer (some ⟨cb, 0, none⟩), .int .i64 id, .int .i64 w, .int .i64 lag, .bool x] W (CEnterP cb F (coreEnter c id w lag x) W) := by
 obtain ⟨qb, G, c0, hQ, hGF, hback⟩ := h.q; obtain ⟨lb, v, q0, hL, ht, hq⟩ := hQ.line; rcases ht with ht | ht | ht <;> cases x
 · exact centerfalse_stride cb F c id w lag W h hf ht
 · exact centertrue_stride cb F c id w lag W h hf ht
 · exact centerfalse_fair cb F c id w lag W h hf ht
 · exact centertrue_fair cb F c id w lag W h hf ht
 · exact centerfalse_due cb F c id w lag W h hf ht
 · exact centertrue_due cb F c id w lag W h hf ht
def nxt (s a : Int) : Int × Int :=
 if s < 0 ∨ 6 < s ∨ a < 1 ∨ 8 < a then (0, 1)
 else if (a = 1 ∧ s = 1) ∨ (a = 3 ∧ s = 3) ∨ (a = 5 ∧ s = 4) ∨ (a = 7 ∧ s = 5) then (2, 0)
 else if a = 2 ∧ s = 2 then (3, 0)
 else if a = 4 ∧ (s = 2 ∨ s = 3 ∨ s = 5) then (4, 0)
 else if a = 6 ∧ (s = 2 ∨ s = 3) then (5, 0)
 else if a = 8 ∧ 1 ≤ s ∧ s ≤ 5 then (6, 0)
 else (0, 4)
theorem nxt_out (s a : Int) (h : s < 0 ∨ 6 < s ∨ a < 1 ∨ 8 < a) : nxt s a = (0, 1) := by unfold nxt; rw [if_pos h]
def Pair (F : Nat) (s a : Int) (w : World) : Prop :=
 Calls Tryz.prog F #[.int .i64 s, .int .i64 a] w fun e w' => e = .returned (.tuple #[.int .i64 (nxt s a).1, .int .i64 (nxt s a).2]) ∧ w = w'
theorem next_any (s a : Int) (w : World) : Pair 149 s a w := by
 unfold Pair; by_cases h : s < 0 ∨ 6 < s ∨ a < 1 ∨ 8 < a
 · rw [nxt_out s a h]; by_cases c1 : s < 0
   · clear h; go_enter Tryz.func149, Tryz.ntmps149; go_wp2
     go_ret2
     exact ⟨rfl, rfl⟩
   · by_cases c2 : 6 < s
     · clear h; go_enter Tryz.func149, Tryz.ntmps149; go_wp2
       go_ret2
       exact ⟨rfl, rfl⟩
     · by_cases c3 : a < 1
       · clear h; go_enter Tryz.func149, Tryz.ntmps149; go_wp2
         go_ret2
         exact ⟨rfl, rfl⟩
       · have c4 : 8 < a := by omega
         clear h; go_enter Tryz.func149, Tryz.ntmps149; go_wp2
         go_ret2
         exact ⟨rfl, rfl⟩
 · have hs : s = 0 ∨ s = 1 ∨ s = 2 ∨ s = 3 ∨ s = 4 ∨ s = 5 ∨ s = 6 := by omega
   have ha : a = 1 ∨ a = 2 ∨ a = 3 ∨ a = 4 ∨ a = 5 ∨ a = 6 ∨ a = 7 ∨ a = 8 := by omega
   clear h; rcases hs with rfl | rfl | rfl | rfl | rfl | rfl | rfl <;>
    rcases ha with rfl | rfl | rfl | rfl | rfl | rfl | rfl | rfl
   all_goals as_aux_lemma =>
    go_enter Tryz.func149, Tryz.ntmps149; go_wp2
    go_ret2
    exact ⟨rfl, rfl⟩
end Go.Proofs.YtoiajjobecinpaaGreat
