/- May a form be? A form in bytes. -/
import Derived.BigQuiet
import Derived.Test.YtoiajjobecinpaaGreatRows
import Derived.WalkKit
import Derived.ProofKit
import Derived.Below
import Derived.Lib.Hide
import Derived.Laws.AppendOwn
import Derived.Shelf.SlicesQ.IndexFunc
import Derived.Ground.SlgfProg
import Derived.Deep.QuietTactic
import Derived.Deep.DeepCutAuto
import Derived.Deep.RegionHeld3
import Derived.Ground.SlsfProg
import Derived.Deep.AppendLies
import Derived.Deep.RegionLaw
import Derived.Lib.SlBy
import Derived.StillTail
import Derived.Shelf.Bits.Mul64
import Derived.Shelf.Spec.BitsCarry
import Derived.Shelf.Lay
import Derived.Ground.NamesProg
import Derived.Ground.Names7Prog
import Derived.WalkSmall
import Derived.OwnWalk
import Derived.Lib.SliceRun
import Derived.Laws.BytesArg
import Derived.Shelf.Bytes.SlEqualAll
import Derived.Test.YtoiajjobecinpaaGreatSh08

namespace Go.Proofs.YtoiajjobecinpaaGreat
open Go.RowKit Go.Shelf Go.Lib Go.Proofs
set_option linter.unusedVariables false
set_option linter.unusedSimpArgs false
attribute [local go_sem] Oper.semAt_some

/-- May a form be? -/
def GoodI (cur : Int) (its : List It) : Prop :=
  its.length ≤ 64 ∧ (cur = -1 ∨ 0 ≤ posI its cur) ∧ (∀ k, k < its.length → mayI its[k]!.id its[k]!.w its[k]!.lag = true ∧ (0 < k → its[k - 1]!.id < its[k]!.id)) ∧ (its = [] ∨ ∃ k, k < its.length ∧ 0 ≤ its[k]!.lag)

/-- What Good tells. -/
def GoodP (cur : Int) (its : List It) (w : World) (e : Ending) (W' : World) : Prop := ∃ b : Bool, e = .returned (.bool b) ∧ (b = true ↔ GoodI cur its) ∧ Below w.heap.size w W'

/-- What the round of Good reads. -/
def GdS (B X g : Nat) (v : Value) (p : Option Int) (q : Nat) (i ww lag : Int) (W : World) : Prop :=
  W.cell? ⟨B, 1, none⟩ = some v ∧ W.cell? ⟨X, 0, none⟩ = some (.int .i64 i) ∧ W.cell? ⟨X, 1, none⟩ = some (.int .i64 ww) ∧ W.cell? ⟨X, 2, none⟩ = some (.int .i64 lag) ∧ (∀ y, p = some y → W.cell? ⟨g, q, none⟩ = some (.int .i64 y))

theorem GdS.below {B X g : Nat} {v : Value} {p : Option Int} {q : Nat} {i ww lag : Int} {W W' : World} (h : GdS B X g v p q i ww lag W) (hb : Below W.heap.size W W') : GdS B X g v p q i ww lag W' := by
  obtain ⟨h1, h2, h3, h4, h5⟩ := h
  have f : ∀ {a : Addr} {u : Value}, W.cell? a = some u → W'.cell? a = some u := fun hc => (hb.cell (World.block_lt_of_cell? W _ hc)).trans hc
  exact ⟨f h1, f h2, f h3, f h4, fun y hy => f (h5 y hy)⟩

/-- So far each may be. -/
def OkTo (its : List It) (k : Nat) : Prop := ∀ j, j < k → mayI its[j]!.id its[j]!.w its[j]!.lag = true ∧ (0 < j → its[j - 1]!.id < its[j]!.id)
def SomeTo (its : List It) (k : Nat) : Prop := its = [] ∨ ∃ j, j < k ∧ 0 ≤ its[j]!.lag

theorem not_good_may {cur : Int} {its : List It} {k : Nat} (hk : k < its.length) (h : mayI its[k]!.id its[k]!.w its[k]!.lag = false) : ¬ GoodI cur its := fun hg => by
  have := (hg.2.2.1 k hk).1
  rw [h] at this; cases this
theorem not_good_order {cur : Int} {its : List It} {k : Nat} (hk : k < its.length) (h0 : 0 < k) (h : its[k]!.id ≤ its[k - 1]!.id) : ¬ GoodI cur its := fun hg => by
  have := (hg.2.2.1 k hk).2 h0
  omega
theorem good_all {cur : Int} {its : List It} (h1 : its.length ≤ 64) (h2 : cur = -1 ∨ 0 ≤ posI its cur) (h3 : OkTo its its.length) {s : Bool} (h4 : s = true ↔ SomeTo its its.length) : s = true ↔ GoodI cur its := by
  rw [h4]
  exact ⟨fun h => ⟨h1, h2, h3, h⟩, fun h => h.2.2.2⟩
theorem OkTo.snoc {its : List It} {k : Nat} (h : OkTo its k) (h1 : mayI its[k]!.id its[k]!.w its[k]!.lag = true) (h2 : 0 < k → its[k - 1]!.id < its[k]!.id) : OkTo its (k + 1) := fun j hj => by
  by_cases e : j = k
  · subst e; exact ⟨h1, h2⟩
  · exact h j (by omega)
theorem SomeTo.snoc {its : List It} {k : Nat} {s : Bool} (h : s = true ↔ SomeTo its k) : (s || decide (0 ≤ its[k]!.lag)) = true ↔ SomeTo its (k + 1) := by
  rw [Bool.or_eq_true, decide_eq_true_eq, h]
  unfold SomeTo
  constructor
  · rintro ((h | ⟨j, h1, h2⟩) | h)
    · exact .inl h
    · exact .inr ⟨j, by omega, h2⟩
    · exact .inr ⟨k, by omega, h⟩
  · rintro (h | ⟨j, h1, h2⟩)
    · exact .inl (.inl h)
    · by_cases e : j = k
      · subst e; exact .inr h2
      · exact .inl (.inr ⟨j, by omega, h2⟩)


theorem keepB {W W' : World} {a : Addr} {u : Value} (hb : Below W.heap.size W W') (hc : W.cell? a = some u) : W'.cell? a = some u := (hb.cell (World.block_lt_of_cell? W _ hc)).trans hc

theorem someTo_zero {its : List It} {n : Nat} (h : its.length = n) : decide ((n : Int) = 0) = true ↔ SomeTo its 0 := by
  rw [decide_eq_true_eq]
  unfold SomeTo
  rw [← List.length_eq_zero_iff, h]
  constructor
  · intro e; exact .inl (by omega)
  · rintro (e | ⟨j, hj, _⟩)
    · omega
    · omega


set_option maxRecDepth 100000 in
set_option maxHeartbeats 4000000 in
theorem good_cur (cur : Int) (v : Value) (its : List It) (W : World) (h : FSl W v its) (hcur : cur = -1) (h64 : its.length ≤ 64) :
    Calls Tryz.prog 21 #[.agg #[.int .i64 cur, v]] W (GoodP cur its W) := by
  obtain ⟨a, c, rfl⟩ := h.form
  have HCUR : Hid (cur = -1 ∨ 0 ≤ posI its cur) := Lib.hid (.inl hcur)
  obtain ⟨n, hn⟩ : ∃ n, its.length = n := ⟨_, rfl⟩
  rw [hn] at h64 h ⊢
  have HF0 := Lib.hid h
  have HN := Lib.hid hn
  have hgt : decide ((n : Int) > 64) = false := decide_eq_false (by omega)
  have hne : (cur != -1) = false := by simp [hcur]
  have HB1 : Hid (Below (W.heap.size + 1) (W.alloc (.cells #[.int .i64 cur, .slice a n c] 70)) (W.alloc (.cells #[.int .i64 cur, .slice a n c] 70))) := Lib.hid (Below.refl _ _)
  clear h hn hcur
  go_enter Tryz.func21, Tryz.ntmps21
  go_wp2_with fail
  go_loopw [3, 29] (fun s x wr => ∃ (k : Nat) (sm : Bool), k ≤ n ∧ x = .int .i64 k ∧ s = .bool sm ∧ Hid (OkTo its k) ∧ Hid (sm = true ↔ SomeTo its k) ∧ Hid (Below (W.heap.size + 1) (W.alloc (.cells #[.int .i64 cur, .slice a n c] 70)) wr)) (fun _ x _ => n - (intOf x).toNat)
  case atStart => exact ⟨0, decide ((n : Int) = 0), Nat.zero_le _, rfl, by first | rfl | (congr 1), Lib.hid (fun j hj => absurd hj (Nat.not_lt_zero _)), Lib.hid (someTo_zero HN.out), HB1⟩
  case round =>
    obtain ⟨k, sm, hk, rfl, rfl, HO, HSM, HB⟩ := hrel
    by_cases hkn : k < n
    · have hkl : k < its.length := by rw [HN.out]; exact hkn
      have hbz := HB.out.size
      simp only [World.size_alloc] at hbz
      have HF : Hid (FSl wr (.slice a n c) its) := Lib.hid ((HF0.out.alloc _).same (by simp; omega) (fun j hj => HB.out.block j (by have := HF0.out.lt hj; omega)))
      obtain ⟨g, rfl, hg, c0, c1, c2⟩ := HF.out.cells k hkl
      have hv : wr.cell? ⟨W.heap.size, 1, none⟩ = some (.slice (some ⟨g, 0, none⟩) n c) := by
        rw [HB.out.cell (p := ⟨W.heap.size, 1, none⟩) (by simp)]
        simp only [World.cell?, heap_alloc_new]; rfl
      obtain ⟨pp, hpp⟩ : ∃ pp : Option Int, pp = if 0 < k then some its[k - 1]!.id else none := ⟨_, rfl⟩
      have hp : ∀ y, pp = some y → wr.cell? ⟨g, (k - 1) * 3, none⟩ = some (.int .i64 y) := by
        intro y hy
        rw [hpp] at hy
        split at hy
        · cases hy
          obtain ⟨g', e, _, d0, _⟩ := HF.out.cells (k - 1) (by omega)
          cases e
          exact d0
        · cases hy
      have HPP := Lib.hid hpp
      have hcon := fun W' => imay_any its[k]!.id its[k]!.w its[k]!.lag W'
      have hsn := OkTo.snoc HO.out (k := k)
      have hss := SomeTo.snoc HSM.out
      have hnm := not_good_may (cur := cur) hkl
      have hno := not_good_order (cur := cur) hkl
      obtain ⟨x, hx⟩ : ∃ x, its[k]! = x := ⟨_, rfl⟩
      rw [hx] at c0 c1 c2 hcon hsn hss hnm hno
      obtain ⟨i, ww, lag⟩ := x
      simp only at c0 c1 c2 hcon hsn hss hnm hno
      obtain ⟨m, hm⟩ : ∃ m, mayI i ww lag = m := ⟨_, rfl⟩
      rw [hm] at hcon hsn hnm
      have HSN := Lib.hid hsn
      have HSS := Lib.hid hss
      have HNM := Lib.hid hnm
      have HNO := Lib.hid hno
      have hk1 : (k : Int) < (n : Int) := by omega
      have hk0 : 0 ≤ (k : Int) := by omega
      clear hpp hx hm hsn hss hnm hno
      have hX : ∀ j u, #[Value.int .i64 i, .int .i64 ww, .int .i64 lag][j]? = some u → (wr.alloc (.cells #[.int .i64 i, .int .i64 ww, .int .i64 lag] 77)).drew.cell? ⟨wr.heap.size, j, none⟩ = some u := fun j u hu => by
        show (wr.alloc _).cell? _ = _
        simp only [World.cell?, heap_alloc_new]
        simpa using hu
      have hS : GdS W.heap.size wr.heap.size g (.slice (some ⟨g, 0, none⟩) n c) pp (((k : Int) - 1).toNat * 3) i ww lag (wr.alloc (.cells #[.int .i64 i, .int .i64 ww, .int .i64 lag] 77)).drew :=
        ⟨c2a _ hv, hX 0 _ rfl, hX 1 _ rfl, hX 2 _ rfl, fun y hy => c2a _ (by rw [show ((k : Int) - 1).toNat = k - 1 from by omega]; exact hp y hy)⟩
      have hB0 : Below (W.heap.size + 1) (W.alloc (.cells #[.int .i64 cur, .slice (some ⟨g, 0, none⟩) n c] 70)) (wr.alloc (.cells #[.int .i64 i, .int .i64 ww, .int .i64 lag] 77)).drew := (HB.out.alloc hbz _).drew
      clear hv hp hX
      obtain ⟨Idx, f, i0, hf0, hfS, hfin⟩ := klass (fun w' => GdS W.heap.size wr.heap.size g (.slice (some ⟨g, 0, none⟩) n c) pp (((k : Int) - 1).toNat * 3) i ww lag w' ∧ Below (W.heap.size + 1) (W.alloc (.cells #[.int .i64 cur, .slice (some ⟨g, 0, none⟩) n c] 70)) w' ∧ wr.heap.size + 1 ≤ w'.heap.size) (wr.alloc (.cells #[.int .i64 i, .int .i64 ww, .int .i64 lag] 77)) ⟨hS, hB0, by simp [World.drew]⟩
      have hne0 : Nonempty Idx := ⟨i0⟩
      have d0 := fun ix => (hfS ix).1.1
      have d1 := fun ix => (hfS ix).1.2.1
      have d2 := fun ix => (hfS ix).1.2.2.1
      have d3 := fun ix => (hfS ix).1.2.2.2.1
      have HFS := Lib.hid hfS
      have hcon2 : ∀ ix, Calls Tryz.prog 42 #[.agg #[.int .i64 i, .int .i64 ww, .int .i64 lag]] (f ix) fun e w' => e = .returned (.bool m) ∧ ∃ j, w' = f j := fun ix => (hcon (f ix)).mono (fun e w' ⟨he, hb⟩ => ⟨he, hfin w' ⟨(HFS.out ix).1.below hb, (HFS.out ix).2.1.trans (hb.mono (by have := (HFS.out ix).2.2; omega)), Nat.le_trans (HFS.out ix).2.2 hb.size⟩⟩)
      clear hS hB0 hfS hfin hcon
      cases m with
      | false =>
        go_wp2_with fail
        refine wp_region_quietC f i0 hf0 (by kernel_rfl) (by kernel_rfl) ?_
        repeat (go_big_quiet_step (exact hcon2 _))
        refine wpQuiet_nil ?_
        intro ix
        have hB9 := (HFS.out ix).2.1
        go_wp2_with fail
        go_ret
        exact ⟨false, rfl, iff_of_false (by simp) (HNM.out (by first | rfl | trivial)), ((Below.refl _ W).alloc (Nat.le_refl _) _).trans (hB9.mono (by omega))⟩
      | true =>
        by_cases hk00 : k = 0
        · have hd : decide ((k : Int) > 0) = false := decide_eq_false (by omega)
          have hd2 : decide (0 < k) = false := decide_eq_false (by omega)
          replace hk00 := Lib.hid hk00
          go_wp2_with fail
          refine wp_region_quietC f i0 hf0 (by kernel_rfl) (by kernel_rfl) ?_
          repeat (go_big_quiet_step (exact hcon2 _))
          refine wpQuiet_nil ?_
          intro ix
          have hB9 := (HFS.out ix).2.1
          go_wp2_with fail
          all_goals (go_roundw)
          all_goals (first | exact ⟨k + 1, _, hkn, by go_num, rfl, Lib.hid (HSN.out (by first | rfl | trivial) (fun h0 => absurd hk00.out (by omega))), Lib.hid (by have := HSS.out; simp_all), Lib.hid hB9⟩ | (simp [intOf]; omega))
        · have hd : decide ((k : Int) > 0) = true := decide_eq_true (by omega)
          have hd2 : decide (0 < k) = true := decide_eq_true (by omega)
          have hk3 : (0 : Int) ≤ (k : Int) - 1 := by omega
          have hk4 : (k : Int) - 1 < (n : Int) := by omega
          obtain ⟨y, hy⟩ : ∃ y, its[k - 1]!.id = y := ⟨_, rfl⟩
          have hpy : pp = some y := by rw [HPP.out, if_pos (by omega), hy]
          have d4 := fun ix => (HFS.out ix).1.2.2.2.2 _ hpy
          have d5 : ∀ ix, (f ix).cell? ⟨g, (k - 1) * 3, none⟩ = some (.int .i64 y) := fun ix => by rw [show k - 1 = ((k : Int) - 1).toNat from by omega]; exact d4 ix
          have HY := Lib.hid hy
          replace hk00 := Lib.hid hk00
          clear hy hpy
          by_cases hiy : i ≤ y
          · have hdi : decide (i ≤ y) = true := decide_eq_true hiy
            go_wp2_with fail
            refine wp_region_quietC f i0 hf0 (by kernel_rfl) (by kernel_rfl) ?_
            repeat (go_big_quiet_step (exact hcon2 _))
            refine wpQuiet_nil ?_
            intro ix
            have hB9 := (HFS.out ix).2.1
            go_wp2_with fail
            go_ret
            exact ⟨false, rfl, iff_of_false (by simp) (HNO.out (Nat.pos_of_ne_zero hk00.out) (by rw [HY.out]; assumption)), ((Below.refl _ W).alloc (Nat.le_refl _) _).trans (hB9.mono (by omega))⟩
          · have hdi : decide (i ≤ y) = false := decide_eq_false hiy
            go_wp2_with fail
            refine wp_region_quietC f i0 hf0 (by kernel_rfl) (by kernel_rfl) ?_
            repeat (go_big_quiet_step (exact hcon2 _))
            refine wpQuiet_nil ?_
            intro ix
            have hB9 := (HFS.out ix).2.1
            go_wp2_with fail
            all_goals (go_roundw)
            all_goals (first | exact ⟨k + 1, _, hkn, by go_num, rfl, Lib.hid (HSN.out (by first | rfl | trivial) (fun _ => by rw [HY.out]; omega)), Lib.hid (by have := HSS.out; simp_all), Lib.hid hB9⟩ | (simp [intOf]; omega))
    · obtain rfl : k = n := by omega
      go_wp2_with fail
      go_ret
      exact ⟨sm, rfl, good_all (by rw [HN.out]; exact h64) HCUR.out (by rw [HN.out]; exact HO.out) (by rw [HN.out]; exact HSM.out), ((Below.refl _ W).alloc (Nat.le_refl _) _).trans (HB.out.mono (by omega))⟩

set_option maxRecDepth 100000 in
set_option maxHeartbeats 4000000 in
theorem good_find (cur : Int) (v : Value) (its : List It) (W : World) (h : FSl W v its) (hcur : ¬ cur = -1) (h64 : its.length ≤ 64) :
    Calls Tryz.prog 21 #[.agg #[.int .i64 cur, v]] W (GoodP cur its W) := by
  obtain ⟨a, c, rfl⟩ := h.form
  have hfind := findI_any cur _ its cur (W.alloc (.cells #[.int .i64 cur, .slice a its.length c] 70)) (h.alloc _)
  obtain ⟨r, hr⟩ : ∃ r, posI its cur = r := ⟨_, rfl⟩
  rw [hr] at hfind
  have HR := Lib.hid hr
  have HNC := Lib.hid hcur
  obtain ⟨n, hn⟩ : ∃ n, its.length = n := ⟨_, rfl⟩
  rw [hn] at h64 h hfind ⊢
  have HF0 := Lib.hid h
  have HN := Lib.hid hn
  have hgt : decide ((n : Int) > 64) = false := decide_eq_false (by omega)
  have hne : (cur != -1) = true := by simp [hcur]
  clear h hn hcur hr
  go_enter Tryz.func21, Tryz.ntmps21
  go_wp2_with fail
  refine hfind.mono ?_
  rintro e w1 ⟨rfl, hb⟩
  have HB1 : Hid (Below (W.heap.size + 1) (W.alloc (.cells #[.int .i64 cur, .slice a n c] 70)) w1) := Lib.hid (hb.mono (by simp))
  have f1 : w1.cell? ⟨W.heap.size, 1, none⟩ = some (.slice a n c) := by
    rw [hb.cell (p := ⟨W.heap.size, 1, none⟩) (by simp)]
    simp only [World.cell?, heap_alloc_new]; rfl
  clear hb hfind
  by_cases hr0 : r < 0
  · have hd : decide (r < 0) = true := decide_eq_true hr0
    go_wp2_with fail
    go_ret
    refine ⟨false, rfl, iff_of_false (by simp) (fun hg => ?_), ((Below.refl _ W).alloc (Nat.le_refl _) _).trans (HB1.out.mono (by omega))⟩
    rcases hg.2.1 with e | e
    · exact HNC.out e
    · rw [HR.out] at e; omega
  have hd : decide (r < 0) = false := decide_eq_false hr0
  have HCUR : Hid (cur = -1 ∨ 0 ≤ posI its cur) := Lib.hid (.inr (by rw [HR.out]; omega))
  clear HR HNC
  go_wp2_with fail
  go_loopw [3, 29] (fun s x wr => ∃ (k : Nat) (sm : Bool), k ≤ n ∧ x = .int .i64 k ∧ s = .bool sm ∧ Hid (OkTo its k) ∧ Hid (sm = true ↔ SomeTo its k) ∧ Hid (Below (W.heap.size + 1) (W.alloc (.cells #[.int .i64 cur, .slice a n c] 70)) wr)) (fun _ x _ => n - (intOf x).toNat)
  case atStart => exact ⟨0, decide ((n : Int) = 0), Nat.zero_le _, rfl, by first | rfl | (congr 1), Lib.hid (fun j hj => absurd hj (Nat.not_lt_zero _)), Lib.hid (someTo_zero HN.out), HB1⟩
  case round =>
    obtain ⟨k, sm, hk, rfl, rfl, HO, HSM, HB⟩ := hrel
    by_cases hkn : k < n
    · have hkl : k < its.length := by rw [HN.out]; exact hkn
      have hbz := HB.out.size
      simp only [World.size_alloc] at hbz
      have HF : Hid (FSl wr (.slice a n c) its) := Lib.hid ((HF0.out.alloc _).same (by simp; omega) (fun j hj => HB.out.block j (by have := HF0.out.lt hj; omega)))
      obtain ⟨g, rfl, hg, c0, c1, c2⟩ := HF.out.cells k hkl
      have hv : wr.cell? ⟨W.heap.size, 1, none⟩ = some (.slice (some ⟨g, 0, none⟩) n c) := by
        rw [HB.out.cell (p := ⟨W.heap.size, 1, none⟩) (by simp)]
        simp only [World.cell?, heap_alloc_new]; rfl
      obtain ⟨pp, hpp⟩ : ∃ pp : Option Int, pp = if 0 < k then some its[k - 1]!.id else none := ⟨_, rfl⟩
      have hp : ∀ y, pp = some y → wr.cell? ⟨g, (k - 1) * 3, none⟩ = some (.int .i64 y) := by
        intro y hy
        rw [hpp] at hy
        split at hy
        · cases hy
          obtain ⟨g', e, _, d0, _⟩ := HF.out.cells (k - 1) (by omega)
          cases e
          exact d0
        · cases hy
      have HPP := Lib.hid hpp
      have hcon := fun W' => imay_any its[k]!.id its[k]!.w its[k]!.lag W'
      have hsn := OkTo.snoc HO.out (k := k)
      have hss := SomeTo.snoc HSM.out
      have hnm := not_good_may (cur := cur) hkl
      have hno := not_good_order (cur := cur) hkl
      obtain ⟨x, hx⟩ : ∃ x, its[k]! = x := ⟨_, rfl⟩
      rw [hx] at c0 c1 c2 hcon hsn hss hnm hno
      obtain ⟨i, ww, lag⟩ := x
      simp only at c0 c1 c2 hcon hsn hss hnm hno
      obtain ⟨m, hm⟩ : ∃ m, mayI i ww lag = m := ⟨_, rfl⟩
      rw [hm] at hcon hsn hnm
      have HSN := Lib.hid hsn
      have HSS := Lib.hid hss
      have HNM := Lib.hid hnm
      have HNO := Lib.hid hno
      have hk1 : (k : Int) < (n : Int) := by omega
      have hk0 : 0 ≤ (k : Int) := by omega
      clear hpp hx hm hsn hss hnm hno
      have hX : ∀ j u, #[Value.int .i64 i, .int .i64 ww, .int .i64 lag][j]? = some u → (wr.alloc (.cells #[.int .i64 i, .int .i64 ww, .int .i64 lag] 77)).drew.cell? ⟨wr.heap.size, j, none⟩ = some u := fun j u hu => by
        show (wr.alloc _).cell? _ = _
        simp only [World.cell?, heap_alloc_new]
        simpa using hu
      have hS : GdS W.heap.size wr.heap.size g (.slice (some ⟨g, 0, none⟩) n c) pp (((k : Int) - 1).toNat * 3) i ww lag (wr.alloc (.cells #[.int .i64 i, .int .i64 ww, .int .i64 lag] 77)).drew :=
        ⟨c2a _ hv, hX 0 _ rfl, hX 1 _ rfl, hX 2 _ rfl, fun y hy => c2a _ (by rw [show ((k : Int) - 1).toNat = k - 1 from by omega]; exact hp y hy)⟩
      have hB0 : Below (W.heap.size + 1) (W.alloc (.cells #[.int .i64 cur, .slice (some ⟨g, 0, none⟩) n c] 70)) (wr.alloc (.cells #[.int .i64 i, .int .i64 ww, .int .i64 lag] 77)).drew := (HB.out.alloc hbz _).drew
      clear hv hp hX
      obtain ⟨Idx, f, i0, hf0, hfS, hfin⟩ := klass (fun w' => GdS W.heap.size wr.heap.size g (.slice (some ⟨g, 0, none⟩) n c) pp (((k : Int) - 1).toNat * 3) i ww lag w' ∧ Below (W.heap.size + 1) (W.alloc (.cells #[.int .i64 cur, .slice (some ⟨g, 0, none⟩) n c] 70)) w' ∧ wr.heap.size + 1 ≤ w'.heap.size) (wr.alloc (.cells #[.int .i64 i, .int .i64 ww, .int .i64 lag] 77)) ⟨hS, hB0, by simp [World.drew]⟩
      have hne0 : Nonempty Idx := ⟨i0⟩
      have d0 := fun ix => (hfS ix).1.1
      have d1 := fun ix => (hfS ix).1.2.1
      have d2 := fun ix => (hfS ix).1.2.2.1
      have d3 := fun ix => (hfS ix).1.2.2.2.1
      have HFS := Lib.hid hfS
      have hcon2 : ∀ ix, Calls Tryz.prog 42 #[.agg #[.int .i64 i, .int .i64 ww, .int .i64 lag]] (f ix) fun e w' => e = .returned (.bool m) ∧ ∃ j, w' = f j := fun ix => (hcon (f ix)).mono (fun e w' ⟨he, hb⟩ => ⟨he, hfin w' ⟨(HFS.out ix).1.below hb, (HFS.out ix).2.1.trans (hb.mono (by have := (HFS.out ix).2.2; omega)), Nat.le_trans (HFS.out ix).2.2 hb.size⟩⟩)
      clear hS hB0 hfS hfin hcon
      cases m with
      | false =>
        go_wp2_with fail
        refine wp_region_quietC f i0 hf0 (by kernel_rfl) (by kernel_rfl) ?_
        repeat (go_big_quiet_step (exact hcon2 _))
        refine wpQuiet_nil ?_
        intro ix
        have hB9 := (HFS.out ix).2.1
        go_wp2_with fail
        go_ret
        exact ⟨false, rfl, iff_of_false (by simp) (HNM.out (by first | rfl | trivial)), ((Below.refl _ W).alloc (Nat.le_refl _) _).trans (hB9.mono (by omega))⟩
      | true =>
        by_cases hk00 : k = 0
        · have hd : decide ((k : Int) > 0) = false := decide_eq_false (by omega)
          have hd2 : decide (0 < k) = false := decide_eq_false (by omega)
          replace hk00 := Lib.hid hk00
          go_wp2_with fail
          refine wp_region_quietC f i0 hf0 (by kernel_rfl) (by kernel_rfl) ?_
          repeat (go_big_quiet_step (exact hcon2 _))
          refine wpQuiet_nil ?_
          intro ix
          have hB9 := (HFS.out ix).2.1
          go_wp2_with fail
          all_goals (go_roundw)
          all_goals (first | exact ⟨k + 1, _, hkn, by go_num, rfl, Lib.hid (HSN.out (by first | rfl | trivial) (fun h0 => absurd hk00.out (by omega))), Lib.hid (by have := HSS.out; simp_all), Lib.hid hB9⟩ | (simp [intOf]; omega))
        · have hd : decide ((k : Int) > 0) = true := decide_eq_true (by omega)
          have hd2 : decide (0 < k) = true := decide_eq_true (by omega)
          have hk3 : (0 : Int) ≤ (k : Int) - 1 := by omega
          have hk4 : (k : Int) - 1 < (n : Int) := by omega
          obtain ⟨y, hy⟩ : ∃ y, its[k - 1]!.id = y := ⟨_, rfl⟩
          have hpy : pp = some y := by rw [HPP.out, if_pos (by omega), hy]
          have d4 := fun ix => (HFS.out ix).1.2.2.2.2 _ hpy
          have d5 : ∀ ix, (f ix).cell? ⟨g, (k - 1) * 3, none⟩ = some (.int .i64 y) := fun ix => by rw [show k - 1 = ((k : Int) - 1).toNat from by omega]; exact d4 ix
          have HY := Lib.hid hy
          replace hk00 := Lib.hid hk00
          clear hy hpy
          by_cases hiy : i ≤ y
          · have hdi : decide (i ≤ y) = true := decide_eq_true hiy
            go_wp2_with fail
            refine wp_region_quietC f i0 hf0 (by kernel_rfl) (by kernel_rfl) ?_
            repeat (go_big_quiet_step (exact hcon2 _))
            refine wpQuiet_nil ?_
            intro ix
            have hB9 := (HFS.out ix).2.1
            go_wp2_with fail
            go_ret
            exact ⟨false, rfl, iff_of_false (by simp) (HNO.out (Nat.pos_of_ne_zero hk00.out) (by rw [HY.out]; assumption)), ((Below.refl _ W).alloc (Nat.le_refl _) _).trans (hB9.mono (by omega))⟩
          · have hdi : decide (i ≤ y) = false := decide_eq_false hiy
            go_wp2_with fail
            refine wp_region_quietC f i0 hf0 (by kernel_rfl) (by kernel_rfl) ?_
            repeat (go_big_quiet_step (exact hcon2 _))
            refine wpQuiet_nil ?_
            intro ix
            have hB9 := (HFS.out ix).2.1
            go_wp2_with fail
            all_goals (go_roundw)
            all_goals (first | exact ⟨k + 1, _, hkn, by go_num, rfl, Lib.hid (HSN.out (by first | rfl | trivial) (fun _ => by rw [HY.out]; omega)), Lib.hid (by have := HSS.out; simp_all), Lib.hid hB9⟩ | (simp [intOf]; omega))
    · obtain rfl : k = n := by omega
      go_wp2_with fail
      go_ret
      exact ⟨sm, rfl, good_all (by rw [HN.out]; exact h64) HCUR.out (by rw [HN.out]; exact HO.out) (by rw [HN.out]; exact HSM.out), ((Below.refl _ W).alloc (Nat.le_refl _) _).trans (HB.out.mono (by omega))⟩


theorem good_any (cur : Int) (v : Value) (its : List It) (W : World) (h : FSl W v its) (h64 : its.length ≤ 100000) :
    Calls Tryz.prog 21 #[.agg #[.int .i64 cur, v]] W (GoodP cur its W) := by
  by_cases hn : its.length ≤ 64
  · by_cases hc : cur = -1
    · exact good_cur cur v its W h hc hn
    · exact good_find cur v its W h hc hn
  · obtain ⟨a, c, rfl⟩ := h.form
    have HNG : Hid (¬ GoodI cur its) := Lib.hid (fun hg => hn hg.1)
    obtain ⟨n, hn2⟩ : ∃ n, its.length = n := ⟨_, rfl⟩
    rw [hn2] at h hn ⊢
    have hgt : decide ((n : Int) > 64) = true := decide_eq_true (by omega)
    clear h hn hn2
    go_enter Tryz.func21, Tryz.ntmps21
    go_wp2_with fail
    go_ret
    exact ⟨false, rfl, iff_of_false (by simp) HNG.out, (Below.refl _ W).alloc (Nat.le_refl _) _⟩

end Go.Proofs.YtoiajjobecinpaaGreat

namespace Go.Proofs.YtoiajjobecinpaaGreat
open Go.RowKit Go.Shelf Go.Lib Go.Proofs
set_option linter.unusedVariables false
set_option linter.unusedSimpArgs false
attribute [local go_sem] Oper.semAt_some

/-- What code.Good tells. -/
def CGoodP (tag cur : Int) (its : List It) (w : World) (e : Ending) (W' : World) : Prop := ∃ b : Bool, e = .returned (.bool b) ∧ (b = true ↔ (0 ≤ tag ∧ tag ≤ 2) ∧ GoodI cur its) ∧ Below w.heap.size w W'

set_option maxRecDepth 100000 in
set_option maxHeartbeats 1000000 in
theorem cgood_any (tag cur : Int) (v : Value) (its : List It) (W : World) (h : FSl W v its) (h64 : its.length ≤ 100000) :
    Calls Tryz.prog 214 #[.int .i64 tag, .agg #[.int .i64 cur, v]] W (CGoodP tag cur its W) := by
  have hgood := good_any cur v its _ (h.alloc (.cells #[.int .i64 cur, v] 70)) h64
  obtain ⟨a, c, rfl⟩ := h.form
  obtain ⟨n, hn⟩ : ∃ n, its.length = n := ⟨_, rfl⟩
  rw [hn] at hgood ⊢
  clear h hn
  by_cases h0 : 0 ≤ tag
  · by_cases h2 : tag ≤ 2
    · have d0 : decide (tag ≥ 0) = true := decide_eq_true h0
      have d2 : decide (tag ≤ 2) = true := decide_eq_true h2
      have HT := Lib.hid (And.intro h0 h2)
      clear h0 h2
      go_enter Tryz.func214, Tryz.ntmps214
      go_wp2_with fail
      refine hgood.mono ?_
      rintro e w1 ⟨b, rfl, hb, hbl⟩
      have HB := Lib.hid hb
      have HBL := Lib.hid hbl
      clear hb hbl
      go_wp2
      go_ret
      exact ⟨b, rfl, by rw [HB.out]; exact ⟨fun h => ⟨HT.out, h⟩, fun h => h.2⟩, ((Below.refl _ _).alloc (Nat.le_refl _) _).trans (HBL.out.mono (by simp))⟩
    · have d0 : decide (tag ≥ 0) = true := decide_eq_true h0
      have d2 : decide (tag ≤ 2) = false := decide_eq_false h2
      have HT := Lib.hid h2
      clear h0 h2
      go_enter Tryz.func214, Tryz.ntmps214
      go_wp2_with fail
      go_ret
      exact ⟨false, rfl, iff_of_false (by simp) (fun h => by have := HT.out; have := h.1.2; omega), (Below.refl _ _).alloc (Nat.le_refl _) _⟩
  · have d0 : decide (tag ≥ 0) = false := decide_eq_false h0
    have HT := Lib.hid h0
    clear h0
    go_enter Tryz.func214, Tryz.ntmps214
    go_wp2_with fail
    go_ret
    exact ⟨false, rfl, iff_of_false (by simp) (fun h => by have := HT.out; have := h.1.1; omega), (Below.refl _ _).alloc (Nat.le_refl _) _⟩

theorem brow_new (w : World) (bs : List Int) (hb : ∀ x ∈ bs, 0 ≤ x ∧ x ≤ 255) (hl : bs.length ≤ 1000) : BRow (w.alloc (.cells (bs.map (Value.int .u8)).toArray 5)) w.heap.size (.slice (some ⟨w.heap.size, 0, none⟩) bs.length bs.length) bs.length :=
  ⟨bs, ⟨by simp, .inr ⟨w.heap.size, bs.length, (bs.map (Value.int .u8)).toArray, rfl, Nat.le_refl _, heap_alloc_new _ _, Nat.le_refl _, by unfold maxLen; omega, by simp, by rw [Nat.mul_one]; exact List.take_of_length_le (by simp)⟩⟩, hb⟩

theorem Grew.cell {a b : World} {u v : Value} (h : Grew a b u v) {p : Addr} {x : Value} (hc : a.cell? p = some x) (hne : u.ownBlock ≠ some p.block) : b.cell? p = some x :=
  (World.cell?_of_block (a := p) (h.1.block _ (World.block_lt_of_cell? _ _ hc) (fun e => hne e))).trans hc

theorem Grew.size {a b : World} {u v : Value} (h : Grew a b u v) : a.heap.size ≤ b.heap.size := h.1.size

/-- What Put hands back. -/
def CPutP (w : World) (e : Ending) (W' : World) : Prop := ∃ (v' : Value) (n : Nat) (er : Int), e = .returned (.tuple #[v', .int .i64 er]) ∧ BRow W' w.heap.size v' n ∧ n ≤ 1000 ∧ Below w.heap.size w W'

set_option maxRecDepth 100000 in
set_option maxHeartbeats 4000000 in
theorem cput_any (tag cur : Int) (v : Value) (its : List It) (W : World) (h : FSl W v its) (h64 : its.length ≤ 100000) :
    Calls Tryz.prog 203 #[.int .i64 tag, .agg #[.int .i64 cur, v]] W (CPutP W) := by
  obtain ⟨i0, hi, hz0, hz1, hz2⟩ := info_parts info5
  have hgood := cgood_any tag cur v its _ (h.alloc (.cells #[.int .i64 cur, v] 70)) h64
  obtain ⟨a, c, rfl⟩ := h.form
  obtain ⟨n, hn⟩ : ∃ n, its.length = n := ⟨_, rfl⟩
  rw [hn] at hgood h h64 ⊢
  have HF0 := Lib.hid h
  have HN := Lib.hid hn
  clear h hn
  go_enter Tryz.func203, Tryz.ntmps203
  go_wp2_with fail
  refine hgood.mono ?_
  rintro e w1 ⟨b, rfl, hb, hbl⟩
  have HB1 : Hid (Below (W.heap.size + 1) (W.alloc (.cells #[.int .i64 cur, .slice a n c] 70)) w1) := Lib.hid (hbl.mono (by simp))
  have hz1' := hbl.size
  simp only [World.size_alloc] at hz1'
  have HWW : Hid (Below W.heap.size W (W.alloc (.cells #[.int .i64 cur, .slice a n c] 70))) := Lib.hid ((Below.refl _ W).alloc (Nat.le_refl _) _)
  have f0 : w1.cell? ⟨W.heap.size, 0, none⟩ = some (.int .i64 cur) := by
    rw [hbl.cell (p := ⟨W.heap.size, 0, none⟩) (by simp)]
    simp only [World.cell?, heap_alloc_new]; rfl
  have f1 : w1.cell? ⟨W.heap.size, 1, none⟩ = some (.slice a n c) := by
    rw [hbl.cell (p := ⟨W.heap.size, 1, none⟩) (by simp)]
    simp only [World.cell?, heap_alloc_new]; rfl
  have HGB := Lib.hid hb
  clear hgood hb hbl
  cases b with
  | false =>
    go_wp2_with fail
    go_ret2
    exact ⟨_, 0, _, rfl, BRow.nil _ _, by omega, HWW.out.trans (HB1.out.mono (by omega))⟩
  | true =>
    have hn64 : n ≤ 64 := by rw [← HN.out]; exact (HGB.out.1 rfl).2.1
    clear HGB
    have f0' : ∀ o, (w1.alloc o).cell? ⟨W.heap.size, 0, none⟩ = some (.int .i64 cur) := fun o => c2a o f0
    go_wp2_with fail
    refine (number_any w1.heap.size 4 4 _ _ _ (by simpa using brow_new w1 [83, 72, 3, tag % 256] (by intro x hx; simp only [List.mem_cons, List.not_mem_nil, or_false] at hx; rcases hx with rfl | rfl | rfl | rfl <;> omega) (by simp)) (by simp) (by omega) (by omega)).mono ?_
    rintro e w2 ⟨v2, rfl, hr2, hg2⟩
    have hg0 := Grew.cell (p := ⟨W.heap.size, 1, none⟩) hg2 (c2a _ f1) (by simp [Value.ownBlock]; omega)
    have hz2' := hg2.size
    simp only [World.size_alloc] at hz2'
    have HB2 : Hid (Below (W.heap.size + 1) (W.alloc (.cells #[.int .i64 cur, .slice a n c] 70)) w2) := Lib.hid ((HB1.out.alloc hz1' _).trans (hg2.below (by simp; omega) (by intro k hk; simp [Value.ownBlock] at hk; omega)))
    obtain ⟨bs2, hrow2, hbs2⟩ := hr2
    have HBS2 := Lib.hid hbs2
    clear f0' f0 f1 hg2 hbs2 HB1
    go_wp2_with (at_builtin; refine wpList_append_lies _ rfl _ _ 257 rfl w1.heap.size 5 i0 (.int .u8 0) 1 1 Tryz.underlying257 hi hz0 hz1 hz2 rfl (by decide) _ 8 _ rfl (hrow2.alloc _) ⟨w2.heap.size, 0, none⟩ 1 1 [_] rfl rfl (World.news_of_block (heap_alloc_new w2 _)) (by simp [Value.oneCell']) (by omega) (by unfold maxLen; omega) (by omega) (by simp; omega) (w2.heap.size + 1) (by simp) ?_; intro g3 cap3 w3 hown3 hgrow3 hat3 hlt3; have hk3 := hgrow3.cell (c2a _ hg0) (fun e => by have := (hrow2.lt W.heap.size e.symm).1; omega))
    have hb3 := BRow.snoc (m := 1) [(n : Int)] HBS2.out (by intro x hx; simp at hx; subst hx; omega) hown3
    have HB3 : Hid (Below (W.heap.size + 1) (W.alloc (.cells #[.int .i64 cur, .slice a n c] 70)) w3) := Lib.hid ((HB2.out.alloc (by omega) _).grown hgrow3 (by simp; omega) (fun k hk => by have := (hrow2.lt k hk).1; omega))
    have hz3' : w1.heap.size ≤ w3.heap.size := by have := hgrow3.size; simp at this; omega
    clear hown3 hgrow3 hat3 hlt3 hk3 hg0 hrow2 HBS2 HB2
    go_loopw [6, 30] (fun b x wr => ∃ k : Nat, k ≤ n ∧ x = .int .i64 k ∧ Hid (BRow wr w1.heap.size b (9 + 13 * k)) ∧ Hid (Below (W.heap.size + 1) (W.alloc (.cells #[.int .i64 cur, .slice a n c] 70)) wr) ∧ w1.heap.size ≤ wr.heap.size) (fun _ x _ => n - (intOf x).toNat)
    case atStart => exact ⟨0, Nat.zero_le _, rfl, Lib.hid hb3, HB3, hz3'⟩
    case round =>
      obtain ⟨k, hk, rfl, HR, HB, hzr⟩ := hrel
      by_cases hkn : k < n
      · have hkl : k < its.length := by rw [HN.out]; exact hkn
        have HF : Hid (FSl wr (.slice a n c) its) := Lib.hid ((HF0.out.alloc _).same (by simp; omega) (fun j hj => HB.out.block j (by have := HF0.out.lt hj; omega)))
        obtain ⟨g, rfl, hg, c0, c1, c2⟩ := HF.out.cells k hkl
        obtain ⟨⟨i, ww, lag⟩, hx⟩ : ∃ x, its[k]! = x := ⟨_, rfl⟩
        rw [hx] at c0 c1 c2
        simp only at c0 c1 c2
        have hk1 : (k : Int) < (n : Int) := by omega
        have hk0 : 0 ≤ (k : Int) := by omega
        have hX : ∀ j u, #[Value.int .i64 i, .int .i64 ww, .int .i64 lag][j]? = some u → (wr.alloc (.cells #[.int .i64 i, .int .i64 ww, .int .i64 lag] 77)).cell? ⟨wr.heap.size, j, none⟩ = some u := fun j u hu => by
          simp only [World.cell?, heap_alloc_new]
          simpa using hu
        have hXo : ∀ j, u6.ownBlock = some j → j < wr.heap.size ∧ w1.heap.size ≤ j := fun j hj => ⟨(HR.out.lt hj).2, (HR.out.lt hj).1⟩
        have HX := Lib.hid hX
        clear hx hX HF hb3 HB3 hz3'
        go_wp2_with fail
        refine (number_any w1.heap.size (9 + 13 * k) 4 _ _ _ (HR.out.alloc _) (by simp; omega) (by omega) (by omega)).mono ?_
        rintro e w4 ⟨v4, rfl, hr4, hg4⟩
        have x1 := hg4.cell (HX.out 1 _ rfl) (fun e => by have := (hXo _ e).1; simp at this)
        have x2 := hg4.cell (HX.out 2 _ rfl) (fun e => by have := (hXo _ e).1; simp at this)
        have hz4 := hg4.size
        simp only [World.size_alloc] at hz4
        have HB4 : Hid (Below (W.heap.size + 1) (W.alloc (.cells #[.int .i64 cur, .slice (some ⟨g, 0, none⟩) n c] 70)) w4) := Lib.hid ((HB.out.alloc (by omega) _).trans (hg4.below (by simp; omega) (by intro j hj; have := (hXo j hj).2; omega)))
        have hO4 : ∀ j, v4.ownBlock = some j → j ≠ wr.heap.size := fun j hj => by
          rcases hg4.2 j hj with e | e
          · have := (hXo j e).1; omega
          · simp at e; omega
        obtain ⟨bs4, hrow4, hbs4⟩ := hr4
        have HBS4 := Lib.hid hbs4
        clear hg4 hbs4
        go_wp2_with (at_builtin; refine wpList_append_lies _ rfl _ _ 257 rfl w1.heap.size 5 i0 (.int .u8 0) 1 1 Tryz.underlying257 hi hz0 hz1 hz2 rfl (by decide) _ (9 + 13 * k + 4) _ rfl (hrow4.alloc _) ⟨w4.heap.size, 0, none⟩ 1 1 [_] rfl rfl (World.news_of_block (heap_alloc_new w4 _)) (by simp [Value.oneCell']) (by omega) (by unfold maxLen; omega) (by omega) (by simp; omega) (w4.heap.size + 1) (by simp) ?_; intro g5 cap5 w5 hown5 hgrow5 hat5 hlt5; have y2 := hgrow5.cell (c2a _ x2) (fun e => hO4 _ e.symm rfl))
        have hr5 := BRow.snoc (m := 1) [_] HBS4.out (by intro x hx; simp only [List.mem_cons, List.not_mem_nil, or_false] at hx; subst hx; first | exact u8_of _ | omega) hown5
        have hz5 : w4.heap.size + 1 ≤ w5.heap.size := by have := hgrow5.size; simpa using this
        have HB5 : Hid (Below (W.heap.size + 1) (W.alloc (.cells #[.int .i64 cur, .slice (some ⟨g, 0, none⟩) n c] 70)) w5) := Lib.hid ((HB4.out.alloc (by omega) _).grown hgrow5 (by simp; omega) (fun j hj => by have := (hrow4.lt j hj).1; omega))
        clear hown5 hgrow5 hat5 hlt5 hrow4 HBS4 x1 x2
        refine (number_any w1.heap.size (9 + 13 * k + 4 + 1) 8 _ _ _ hr5 (by omega) (by omega) (by omega)).mono ?_
        rintro e w6 ⟨v6, rfl, hr6, hg6⟩
        have hz6 := hg6.size
        have HB6 : Hid (Below (W.heap.size + 1) (W.alloc (.cells #[.int .i64 cur, .slice (some ⟨g, 0, none⟩) n c] 70)) w6) := Lib.hid (HB5.out.trans (hg6.below (by omega) (by intro j hj; have := (hr5.lt hj).1; omega)))
        have HR6 : Hid (BRow w6 w1.heap.size v6 (9 + 13 * (k + 1))) := Lib.hid (by rw [show 9 + 13 * (k + 1) = 9 + 13 * k + 4 + 1 + 8 from by omega]; exact hr6)
        clear hr5 hr6 hg6
        go_wp2_with fail
        go_roundw
        case rel => exact ⟨k + 1, hkn, by go_num, HR6, HB6, by omega⟩
        case measure => simp [intOf]; omega
      · obtain rfl : k = n := by omega
        obtain ⟨a6, c6, rfl, hc6, hcm6⟩ := HR.out.form2
        have hs6 := HR.out.toSl
        clear hb3 HB3 hz3'
        go_wp2_with fail
        refine (sealput_any a6 (9 + 13 * k) c6 _ hs6 (by omega)).mono ?_
        rintro e w7 ⟨v7, rfl, hr7, hb7⟩
        have HR7 := Lib.hid hr7
        have HB7 := Lib.hid hb7
        clear hr7 hb7 hs6
        go_wp2
        go_ret2
        exact ⟨_, 9 + 13 * k + 4, _, rfl, HR7.out.base (by omega), by omega, (HWW.out.trans (HB.out.mono (by omega))).trans (HB7.out.mono (by omega))⟩

end Go.Proofs.YtoiajjobecinpaaGreat
