/- Open. Attempt, where nothing befalls the try: the walk. Attempt, by Do. The worlds of the laws of one core: all are in; a tick, a change. The worlds of the laws of one core: the state is told. -/
import Derived.Sort.BigQuietIn
import Derived.BigQuiet
import Derived.StillTail
import Derived.Test.YtoiajjobecinpaaGreatRows
import Derived.WalkKit
import Derived.ProofKit
import Derived.Below
import Derived.Lib.Hide
import Derived.Laws.AppendOwn
import Derived.Shelf.SlicesQ.IndexFunc
import Derived.Ground.SlgfProg
import Derived.Deep.QuietTactic
import Derived.Deep.DeepCutAuto
import Derived.Deep.RegionHeld3
import Derived.Ground.SlsfProg
import Derived.Deep.AppendLies
import Derived.Deep.RegionLaw
import Derived.Lib.SlBy
import Derived.Shelf.Bits.Mul64
import Derived.Shelf.Spec.BitsCarry
import Derived.Shelf.Lay
import Derived.Ground.NamesProg
import Derived.Ground.Names7Prog
import Derived.Maps.Views
import Derived.Maps.OwnSet
import Derived.RangeFuncNested
import Derived.RangeFuncBound
import Derived.RangeFuncCalls
import Derived.RangeFuncLeaves
import Derived.RangeFuncFrom
import Derived.Shelf.Abstract
import Derived.Shelf.RegionOpen
import Derived.OwnWalkIn
import Derived.TacticsInMore
import Derived.LoopNIn
import Derived.LoopIn
import Derived.WalkSpells
import Derived.WalkLawsBesides
import Derived.WalkMore
import Derived.Lib.SliceRun
import Derived.Laws.BytesArg
import Derived.Shelf.Bytes.SlEqualAll
import Derived.WalkSmall
import Derived.OwnWalk
import Derived.Shelf.SlicesQ.Equal
import Derived.Laws.StructEq
import Derived.Ground.SlgqProg
import Derived.Test.YtoiajjobecinpaaGreatSh25

namespace Go.Proofs.YtoiajjobecinpaaGreat
open Go.RowKit Go.Shelf Go.Lib Go.Proofs
set_option linter.unusedVariables false
set_option linter.unusedSimpArgs false
attribute [local go_sem] Oper.semAt_some

theorem info210 : (Tryz.prog.info? 210).map (fun i => (i.zero, i.size, i.bytes)) = some (some (.pointer none), 1, 8) := by kernel_rfl

/-- What Open adds to the tries. -/
def openL (L : Int → Option Tr) (c tag base : Int) : Int → Option Tr := fun x => if x = c then some (newTr tag base) else L x

open Classical in
theorem SwAt.open_ {W w1 w2 w4 : World} {wb sb mb n : Nat} {av : Value} {D : DataW Unit} {m : Nat} {tbs : List Nat} {tb : Int → Nat} {cbs : List Nat} {L : Int → Option Tr} {ow : Nat → Option OwnW} {b g cap : Nat} {tag base : Int} {o : Obj} {i : Nat}
    (h : SwAt W wb sb mb n av D m tbs tb cbs L ow) (hb : Below W.heap.size W w1) (hT : TryC w1 b cbs[i]! (newTr tag base)) (hbb : W.heap.size ≤ b) (hi : i < cbs.length)
    (hm : w2.ownsMap Tryz.prog 3 rptr mb (n + 1) (D.put (.int .i64 i) (.lit (.int .i64 b)))) (hg2 : w1.grownBy w2 (some mb)) (hg : (w2.alloc o).grownBy w4 av.ownBlock)
    (hown : w4.ownsRow 0 210 1 (.slice (some ⟨g, 0, none⟩) (m + 1) cap) (m + 1) (ptrs tbs ++ [.pointer (some ⟨b, 0, none⟩)])) (hat : av.ownBlock = some g ∨ g = w2.heap.size + 1) :
    ∃ ow' tb', tb' i = b ∧ SwAt (w4.setCell ⟨wb, 2, none⟩ (.slice (some ⟨g, 0, none⟩) (m + 1) cap)) wb sb mb (n + 1) (.slice (some ⟨g, 0, none⟩) (m + 1) cap) (D.put (.int .i64 i) (.lit (.int .i64 b))) (m + 1) (tbs ++ [b]) tb' cbs (openL L i tag base) ow' ∧
      (∀ k, k < W.heap.size → ow' k = ow k) ∧ Touch (fun k => ow k ≠ none) W (w4.setCell ⟨wb, 2, none⟩ (.slice (some ⟨g, 0, none⟩) (m + 1) cap)) := by
  have z1 := hb.size
  have z2 := hg2.size
  have z4 := hg.size
  simp only [World.size_alloc] at z4
  have hbl := hT.lt
  have hold : ∀ k, k < w1.heap.size → k ≠ mb → av.ownBlock ≠ some k → w4.heap[k]? = w1.heap[k]? := fun k hk hne hne2 => by
    rw [hg.block k (by simp; omega) (fun e => hne2 e.symm), Below.heap_alloc _ _ _ (by omega), hg2.block k hk (by simpa using hne)]
  have hset : ∀ k, k ≠ wb → (w4.setCell ⟨wb, 2, none⟩ (.slice (some ⟨g, 0, none⟩) (m + 1) cap)).heap[k]? = w4.heap[k]? := fun k hk => Below.heap_setCell _ _ _ _ hk
  have hk1 : ∀ k x, ow k = some x → x ≠ .row → x ≠ .map → w4.heap[k]? = W.heap[k]? := fun k x hk hx hx2 => by
    have hlt := h.lt k (by rw [hk]; simp)
    rw [hold k (by omega) (fun e => by subst e; rw [h.omb] at hk; exact hx2 (by simpa using hk.symm)) (fun e => by have := h.rown k e; rw [hk] at this; exact hx (by simpa using this)), hb.block k hlt]
  have hmb := h.lt mb (by rw [h.omb]; simp)
  have hmrow : av.ownBlock ≠ some mb := fun e => by have := h.rown mb e; rw [h.omb] at this; cases this
  have hgne : g ≠ wb := by
    rcases hat with e | e
    · intro e2; subst e2
      have := h.rown g e
      rw [h.owb] at this; cases this
    · have := h.lt wb (by rw [h.owb]; simp); omega
  have bwb := hk1 wb _ h.owb (by simp) (by simp)
  have h0 : ∀ i, w4.cell? ⟨wb, i, none⟩ = W.cell? ⟨wb, i, none⟩ := fun i => World.cell?_of_block bwb
  have h0' : ∀ i, w4.frozen? ⟨wb, i, none⟩ = W.frozen? ⟨wb, i, none⟩ := fun i => World.frozen?_of_block bwb
  have hglt : g < w4.heap.size := (hown.lt g rfl).2
  have hown' : ∀ k x, ow k = some x → (if k < W.heap.size then ow k else if k = b then some (OwnW.attempt i) else if k = g then some .row else none) = some x := fun k x hk => by
    rw [if_pos (h.lt k (by rw [hk]; simp))]; exact hk
  have hlt' : ∀ k, (if k < W.heap.size then ow k else if k = b then some (OwnW.attempt i) else if k = g then some .row else none) ≠ none → k < (w4.setCell ⟨wb, 2, none⟩ (.slice (some ⟨g, 0, none⟩) (m + 1) cap)).heap.size := by
    intro k hk
    simp only [World.size_setCell]
    split at hk
    · omega
    · split at hk
      · omega
      · split at hk
        · omega
        · exact absurd rfl hk
  have hmbw : mb ≠ wb := fun e => by have a := h.omb; rw [e, h.owb] at a; cases a
  have hbw : b ≠ wb := fun e => by have a := h.lt wb (by rw [h.owb]; simp); omega
  refine ⟨fun k => if k < W.heap.size then ow k else if k = b then some (.attempt i) else if k = g then some .row else none, fun x => if x = (i : Int) then b else tb x, by simp,
    ⟨?_, ?_, World.cell?_setCell_same _ _ _ ((h0 2).trans h.c2), fun i => (by rw [World.frozen?_setCell, h0']; exact h.live i), ?_, by have := h.cnt; omega, fun x hx1 hx2 => ?_, ?_, fun k hk => ?_, fun x t ht => ?_, hown' _ _ h.owb, hown' _ _ h.omb, hlt'⟩, fun k hk => if_pos hk, ?_⟩
  · rw [cell_setCell_ne _ (by simp), h0]; exact h.c0
  · rw [cell_setCell_ne _ (by simp), h0]; exact h.c1
  · exact ownsMap_same hm ((hset mb hmbw).trans (by rw [hg.block mb (by simp; omega) (fun e => hmrow e.symm), Below.heap_alloc _ _ _ (by omega)]))
  · unfold openL
    by_cases e : x = (i : Int)
    · subst e
      simp only [if_pos]
      rw [Maps.atKey_put_same h.map.isMap (by trivial)]
    · simp only [if_neg e]
      rw [Maps.atKey_put_other (by intro c; simp only [Lit.int.injEq, true_and] at c; exact e c)]
      exact h.reads x hx1 hx2
  · rw [ptrs_append]
    exact ownsRow_same hown (fun k hk => hset k (by simp [Value.ownBlock] at hk; subst hk; exact hgne))
  · simp [Value.ownBlock] at hk
    subst hk
    rcases hat with e | e
    · exact hown' _ _ (h.rown _ e)
    · simp only
      rw [if_neg (by omega), if_neg (by omega), if_pos trivial]
  · unfold openL at ht
    by_cases e : x = (i : Int)
    · subst e
      simp only [if_pos, Option.some.injEq] at ht ⊢
      subst ht
      refine ⟨⟨by omega, by omega⟩, ⟨?_, ?_, fun k hk => hlt' k (by rw [hk]; simp), fun e2 => by simp [newTr] at e2, fun e2 => by simp [newTr] at e2⟩⟩
      · have : w4.heap[b]? = w1.heap[b]? := hold b hbl (by omega) (fun e => by have h1 := h.rown b e; have := h.lt b (by rw [h1]; simp); omega)
        simpa using hT.same ((hset b hbw).trans this)
      · rw [if_neg (by omega), if_pos rfl]
    · simp only [if_neg e] at ht ⊢
      obtain ⟨t1, t2⟩ := h.tries x t ht
      refine ⟨t1, ?_⟩
      have hS := t2.same (W' := w4.setCell ⟨wb, 2, none⟩ (.slice (some ⟨g, 0, none⟩) (m + 1) cap)) (by simp; omega) (fun k hk => (hset k (fun e => by subst e; rw [h.owb] at hk; cases hk)).trans (hk1 k _ hk (by simp) (by simp)))
      have hX : (fun k => (if k < W.heap.size then ow k else if k = b then some (OwnW.attempt i) else if k = g then some .row else none) = some (OwnW.attempt x)) = (fun k => ow k = some (OwnW.attempt x)) := by
        funext k
        by_cases hk : k < W.heap.size
        · rw [if_pos hk]
        · rw [if_neg hk]
          refine propext ⟨fun hh => ?_, fun hh => absurd (h.lt k (by rw [hh]; simp)) hk⟩
          split at hh
          · simp at hh; exact absurd hh.symm e
          · split at hh
            · cases hh
            · cases hh
      rw [hX]
      exact hS
  · refine ⟨?_, ?_, ?_, by simp; omega, fun k hk1' hk2 => ?_⟩
    · exact hg.os.trans (hg2.os.trans hb.os)
    · exact hg.tape.trans (hg2.tape.trans hb.tape)
    · exact hg.output.trans (hg2.output.trans hb.output)
    · rw [hset k (fun e => by subst e; exact hk2 (by rw [h.owb]; simp)), hold k (by omega) (fun e => by subst e; exact hk2 (by rw [h.omb]; simp)) (fun e => hk2 (by rw [h.rown k e]; simp)), hb.block k hk1']

def SwOpenP (wb sb : Nat) (m : Nat) (cbs : List Nat) (L : Int → Option Tr) (ow : Nat → Option OwnW) (i : Nat) (tag : Int) (w : World) (e : Ending) (W' : World) : Prop :=
  ((tag ≠ 0 ∧ tag ≠ 1 ∧ tag ≠ 2) ∧ e = .returned (.int .i64 1) ∧ W' = w) ∨
  ((tag = 0 ∨ tag = 1 ∨ tag = 2) ∧ e = .returned (.int .i64 0) ∧ ∃ mb n av D tbs tb ow', SwAt W' wb sb mb n av D (m + 1) tbs tb cbs (openL L i tag (1000 * m)) ow' ∧ (∀ k, k < w.heap.size → ow' k = ow k) ∧ Touch (fun k => ow k ≠ none) w W')

set_option maxRecDepth 100000 in
set_option maxHeartbeats 2000000 in
theorem swopen_any (wb sb mb sn : Nat) (av : Value) (DD : DataW Unit) (m : Nat) (tbs : List Nat) (ttb : Int → Nat) (L : Int → Option Tr) (ow : Nat → Option OwnW)
    (gb nb pb mb' n : Nat) (cv : Value) (D : DataW Unit) (cbs : List Nat) (tb : Int → Nat) (own : Nat → Option Own) (s : Sy) (i : Nat) (tag : Int) (W : World)
    (hw : SwAt W wb sb mb sn av DD m tbs ttb cbs L ow) (h : SysAt W sb gb nb pb mb' n cv D cbs tb own s) (hi : i < cbs.length) (hi2 : i < 1000000) (hm : m < 1000000) (ht : ∀ t, L i = some t → 5 ≤ t.stg) :
    Calls Tryz.prog 58 #[.pointer (some ⟨wb, 0, none⟩), .int .i64 i, .int .i64 tag] W (SwOpenP wb sb m cbs L ow i tag W) := by
  have hcore := ycore_any sb gb nb pb mb' n cv D cbs tb own s i _ h hi
  have hl0 := hw.look i (by omega) (by omega)
  have c0 := hw.c0
  have c1 := hw.c1
  obtain ⟨pv, hl, hopen⟩ : ∃ pv, (Instr.lookup 126 (.map (some mb)) (.int .i64 i) false).run Tryz.prog W = .ok pv W ∧ Calls Tryz.prog 121 #[pv] W fun e w' => e = .returned (.bool false) ∧ W = w' := by
    cases hL : L i with
    | none => rw [hL] at hl0; exact ⟨_, hl0, open_none W⟩
    | some t =>
      rw [hL] at hl0
      refine ⟨_, hl0, (open_some _ _ t W (hw.tries i t hL).2.at_).mono (fun e w' ⟨h1, h2⟩ => ⟨?_, h2⟩)⟩
      rw [h1, decide_eq_false (by have := ht t hL; omega)]
  clear hl0
  obtain ⟨a, c, hav⟩ : ∃ a c, av = .slice a m c := by
    rcases hw.row.2 with ⟨e, h0⟩ | ⟨g, cap, cur, e, _⟩
    · subst h0; exact ⟨_, _, e⟩
    · exact ⟨_, cap, e⟩
  subst hav
  have c2 := hw.c2
  have hnew := stnew_any cbs[i]! tag (1000 * m) W (by omega)
  obtain ⟨i0, hi0, hz0, hz1, hz2⟩ := info_parts info210
  obtain ⟨cb, hcb⟩ : ∃ x, cbs[i]! = x := ⟨_, rfl⟩
  rw [hcb] at hcore hnew
  have HCB := Lib.hid hcb
  have HW := Lib.hid hw
  have HI := Lib.hid hi
  have HM := Lib.hid hm
  clear hw h ht hi hcb
  go_enter Tryz.func58, Tryz.ntmps58
  go_wp2_with fail
  refine hcore.mono ?_
  rintro e w1 ⟨rfl, rfl⟩
  go_wp2_with fail
  refine hopen.mono ?_
  rintro e w1 ⟨rfl, rfl⟩
  go_wp2_with fail
  refine hnew.mono ?_
  rintro e w1 (⟨hb, rfl, rfl⟩ | ⟨hg, b, rfl, hT, hbb, hB⟩)
  · have HB := Lib.hid hb
    clear hb
    go_wp2_with fail
    go_ret
    exact .inl ⟨HB.out, rfl, rfl⟩
  · have HG := Lib.hid hg
    clear hg
    have hw1 := HW.out.below hB
    have c1' := hw1.c1
    have hmap1 := hw1.map
    obtain ⟨w2, hupd, m5, m6⟩ := hmap1.update (t := 126) (e := 210) keyed3 Tryz.underlying126 (by have := HW.out.cnt; have := HM.out; unfold maxLen; omega) (key3 (x := i) (by omega) (by omega)) (rptr_ptr b)
    have hwb := hw1.lt wb (by rw [hw1.owb]; simp)
    have hwm : wb ≠ mb := fun e => by have a := hw1.owb; rw [e, hw1.omb] at a; cases a
    have e2 : ∀ k, k < w1.heap.size → k ≠ mb → w2.heap[k]? = w1.heap[k]? := fun k hk hne => m6.block k hk (by simpa using hne)
    have c2' : w2.cell? ⟨wb, 2, none⟩ = some (.slice a m c) := (World.cell?_of_block (a := ⟨wb, 2, none⟩) (e2 wb hwb hwm)).trans hw1.c2
    have hlv2 : w2.frozen? ⟨wb, 2, none⟩ = false := (World.frozen?_of_block (a := ⟨wb, 2, none⟩) (e2 wb hwb hwm)).trans (hw1.live 2)
    have hrow2 := ownsRow_same hw1.row (fun k hk => e2 k (hw1.lt k (by rw [hw1.rown k hk]; simp)) (fun e => by subst e; have a := hw1.rown k hk; rw [hw1.omb] at a; cases a))
    have hwb2 : wb < w2.heap.size := Nat.lt_of_lt_of_le hwb m6.size
    have hcvne : (Value.slice a m c).ownBlock ≠ some wb := fun e => by have := hw1.rown wb e; rw [hw1.owb] at this; cases this
    have H1 := Lib.hid hw1
    have HT := Lib.hid hT
    have HBB := Lib.hid hbb
    have HB := Lib.hid hB
    have M5 := Lib.hid m5
    have M6 := Lib.hid m6
    clear hw1 hmap1 m5 m6 hwb hwm e2 hT hbb hB
    go_wp2_with (at_builtin; refine wpList_append_lies _ rfl _ _ 127 rfl 0 210 i0 (.pointer none) 1 8 Tryz.underlying127 hi0 hz0 hz1 hz2 rfl (by decide) (.slice a m c) m (ptrs tbs) rfl (hrow2.alloc _) ⟨w2.heap.size, 0, none⟩ 1 1 [.pointer (some ⟨b, 0, none⟩)] rfl rfl (World.news_of_block (cs := #[.pointer (some ⟨b, 0, none⟩)]) (t := 210) (fr := (0, 0)) (heap_alloc_new w2 _)) (by simp [Value.oneCell']) (by omega) (by unfold maxLen; omega) (by omega) (by simp) (w2.heap.size + 1) (by simp) ?_; intro g cap w4 hown4 hgrow4 hat4 hlt4; have hsb4 := hgrow4.cell (c2a (.cells #[.pointer (some ⟨b, 0, none⟩)] 210) c2') (fun e => hcvne e.symm); have hfr4 := (World.frozen?_of_block (a := ⟨wb, 2, none⟩) ((hgrow4.block wb (by simp; omega) (fun e => hcvne e.symm)).trans (Below.heap_alloc _ _ _ hwb2))).trans hlv2)
    have HADD := Lib.hid (HW.out.open_ (i := i) HB.out (by rw [HCB.out]; exact HT.out) HBB.out HI.out M5.out M6.out hgrow4 hown4 hat4)
    clear hown4 hgrow4 hat4 hlt4 hsb4 hfr4 hrow2 hcvne
    go_ret
    obtain ⟨ow', tb', -, h1, h2, h3⟩ := HADD.out
    exact .inr ⟨HG.out, rfl, _, _, _, _, _, _, _, h1, h2, h3⟩

end Go.Proofs.YtoiajjobecinpaaGreat

namespace Go.Proofs.YtoiajjobecinpaaGreat
open Go.RowKit Go.Shelf Go.Lib Go.Proofs
set_option linter.unusedVariables false
set_option linter.unusedSimpArgs false
attribute [local go_sem] Oper.semAt_some

def AttP (wb sb m : Nat) (s : Sy) (cbs : List Nat) (L : Int → Option Tr) (own : Nat → Option Own) (ow : Nat → Option OwnW) (i : Nat) (tag : Int) (W : World) (e : Ending) (w' : World) : Prop :=
  ((tag ≠ 0 ∧ tag ≠ 1 ∧ tag ≠ 2) ∧ e = .returned (.tuple #[.bool false, .int .i64 1]) ∧ w' = W) ∨
  ((tag = 0 ∨ tag = 1 ∨ tag = 2) ∧ ∃ (x : Bool) (er : Int) (t : Tr) (c' : Co) (own' : Nat → Option Own) (ow' : Nat → Option OwnW), e = .returned (.tuple #[.bool x, .int .i64 er]) ∧ Both w' wb sb (setCo s i c') (m + 1) cbs (setL L i t) own' ow' ∧
    5 ≤ t.stg ∧ ChR s.cores[i]! c' tag (1000 * m) ∧ Touch (fun k => own k ≠ none ∨ ow k ≠ none) W w' ∧ (∀ k, (own' k ≠ none ∨ ow' k ≠ none) → (own k ≠ none ∨ ow k ≠ none) ∨ W.heap.size ≤ k))

theorem set_self_co (l : List Co) (i : Nat) (hi : i < l.length) : l.set i l[i]! = l := by
  rw [getElem!_pos l i hi]; simp

theorem Sw_ainv {W w1 : World} {wb sb m mb2 n2 : Nat} {s : Sy} {cbs tbs : List Nat} {L : Int → Option Tr} {own : Nat → Option Own} {ow ow' : Nat → Option OwnW} {i : Nat} {tag base : Int} {av : Value} {D2 : DataW Unit} {ttb : Int → Nat}
    (hy : ∃ gb nb pb mb n cv D tb, SysAt W sb gb nb pb mb n cv D cbs tb own s) (hwlt : ∀ k, ow k ≠ none → k < W.heap.size) (hd : ∀ k, ow k ≠ none → own k = none) (hw' : SwAt w1 wb sb mb2 n2 av D2 (m + 1) tbs ttb cbs (openL L i tag base) ow') (how : ∀ k, k < W.heap.size → ow' k = ow k) (hto : Touch (fun k => ow k ≠ none) W w1) (hi : i < cbs.length) :
    (∃ gb nb pb mb n cv D tb, SysAt w1 sb gb nb pb mb n cv D cbs tb own s) ∧ AInv W wb sb (m + 1) s cbs L own ow i s.cores[i]! tag base (ttb i) 6 w1 := by
  obtain ⟨gb, nb, pb, mb, n, cv, D, tb, hS⟩ := hy
  have hS1 : SysAt w1 sb gb nb pb mb n cv D cbs tb own s := hS.same hto.size (fun k hk => hto.block k (hS.lt k hk) (fun e => hk (hd k e)))
  refine ⟨⟨gb, nb, pb, mb, n, cv, D, tb, hS1⟩, newTr tag base, s.cores[i]!, own, ow', ⟨gb, nb, pb, mb, n, cv, D, tb, ?_⟩, ⟨mb2, n2, av, D2, tbs, ttb, hw', rfl⟩, fun k hk => ?_, by simp [newTr], fun _ => ⟨rfl, rfl⟩, .inl rfl, by simp [newTr], hto.wider (fun k hk => .inr hk), fun k hk => ?_⟩
  · have : setCo s i s.cores[i]! = s := by
      unfold setCo
      rw [set_self_co _ _ (by rw [← hS.num]; exact hi)]
    rw [this]; exact hS1
  · by_cases hl : k < W.heap.size
    · rw [how k hl] at hk; exact hd k hk
    · by_cases e : own k = none
      · exact e
      · exact absurd (hS.lt k e) hl
  · by_cases hl : k < W.heap.size
    · rw [how k hl] at hk; exact .inl hk
    · exact .inr (by omega)

set_option maxRecDepth 100000 in
set_option maxHeartbeats 2000000 in
theorem attempt_any (wb sb m : Nat) (s : Sy) (cbs : List Nat) (L : Int → Option Tr) (own : Nat → Option Own) (ow : Nat → Option OwnW) (i : Nat) (tag : Int) (W : World)
    (h : Both W wb sb s m cbs L own ow) (hi : i < cbs.length) (hi2 : i < 1000000) (hm : m < 1000000) (ht : ∀ t, L i = some t → 5 ≤ t.stg) (hf : Fits s.cores[i]!.l) :
    Calls Tryz.prog 61 #[.pointer (some ⟨wb, 0, none⟩), .int .i64 i, .int .i64 tag, .slice none 0 0] W (AttP wb sb m s cbs L own ow i tag W) := by
  obtain ⟨hy, ⟨mb', n', av, D', tbs, ttb, hW⟩, hd⟩ := h
  have hopen : Calls Tryz.prog 58 #[.pointer (some ⟨wb, 0, none⟩), .int .i64 i, .int .i64 tag] W (SwOpenP wb sb m cbs L ow i tag W) := by
    obtain ⟨gb, nb, pb, mb, n, cv, D, tb, hS⟩ := hy
    exact swopen_any wb sb mb' n' av D' m tbs ttb L ow gb nb pb mb n cv D cbs tb own s i tag W hW hS hi hi2 hm ht
  have HY := Lib.hid hy
  have HL := Lib.hid hW.lt
  have HD := Lib.hid hd
  have HI := Lib.hid hi
  have HI2 := Lib.hid hi2
  have HF := Lib.hid hf
  clear hy hW hd hi hi2 hm ht hf
  go_enter Tryz.func61, Tryz.ntmps61
  go_wp2_with fail
  refine hopen.mono ?_
  rintro e w1 (⟨hb, rfl, rfl⟩ | ⟨hg, rfl, mb2, n2, av2, D2, tbs2, ttb2, ow', hw', how, hto⟩)
  · have HB := Lib.hid hb
    clear hb
    go_wp2_with fail
    go_ret2
    exact .inl ⟨HB.out, rfl, rfl⟩
  · obtain ⟨hy1, hA⟩ := Sw_ainv HY.out HL.out HD.out hw' how hto HI.out
    have htry : Calls Tryz.prog 123 #[.pointer (some ⟨wb, 0, none⟩), .int .i64 i] w1 fun e w' => e = .returned (.tuple #[.pointer (some ⟨ttb2 i, 0, none⟩), .int .i64 0]) ∧ w1 = w' := by
      obtain ⟨gb, nb, pb, mb, n, cv, D, tb, hS⟩ := hy1
      exact try_some wb sb mb2 n2 av2 D2 _ tbs2 ttb2 _ ow' gb nb pb mb n cv D cbs tb own s i (newTr tag (1000 * m)) w1 hw' hS HI.out HI2.out (by simp [openL])
    obtain ⟨tbk, htbk⟩ : ∃ x, ttb2 i = x := ⟨_, rfl⟩
    rw [htbk] at hA htry
    have HA := Lib.hid hA
    have HG := Lib.hid hg
    clear hg hw' how hto hy1 hA htbk
    go_wp2_with fail
    refine htry.mono ?_
    rintro e w2 ⟨rfl, rfl⟩
    go_wp2_with fail
    go_loopg [31] 6 (fun k _ wr => Hid (AInv W wb sb (m + 1) s cbs L own ow i s.cores[i]! tag (1000 * m) tbk k wr))
    case atStart => exact HA
    case round =>
      obtain ⟨t, hst, hwhy, hlt, hge⟩ := hrel.out.step HI.out HF.out
      have HLT := Lib.hid hlt
      have HGE := Lib.hid hge
      clear hlt hge
      go_wp2_with fail
      refine hst.mono ?_
      rintro e w3 ⟨rfl, rfl⟩
      by_cases h5 : t.stg < 5
      · have hstep := (HLT.out h5).2
        have hgk := (HLT.out h5).1
        go_wp2_with fail
        go_loop [36] (fun i => i = .int .i64 0) (fun i => 0)
        case atStart => rfl
        case round =>
          subst hrel
          go_wp2_with fail
          refine hstep.mono ?_
          rintro e w4 ⟨⟨x, y, rfl⟩, hA4⟩
          have HA4 := Lib.hid hA4
          clear hA4
          go_wp2_with fail
          go_roundg (gk - 1)
          case measure => omega
          case rel => exact HA4
      · go_wp2_with fail
        refine hst.mono ?_
        rintro e w3 ⟨rfl, rfl⟩
        go_wp2_with fail
        refine hwhy.mono ?_
        rintro e w3 ⟨rfl, rfl⟩
        go_wp2_with fail
        go_ret2
        obtain ⟨c', own', ow2, h1, h2, h3, h4⟩ := HGE.out (by omega)
        exact .inr ⟨HG.out, _, _, t, c', own', ow2, rfl, h1, by omega, h2, h3, h4⟩

end Go.Proofs.YtoiajjobecinpaaGreat

namespace Go.Proofs.YtoiajjobecinpaaGreat
open Go.RowKit Go.Shelf Go.Lib Go.Proofs
set_option linter.unusedVariables false
set_option linter.unusedSimpArgs false

theorem Both.below {W W' : World} {wb sb m : Nat} {s : Sy} {cbs : List Nat} {L : Int → Option Tr} {own : Nat → Option Own} {ow : Nat → Option OwnW} (h : Both W wb sb s m cbs L own ow) (hb : Below W.heap.size W W') : Both W' wb sb s m cbs L own ow := by
  obtain ⟨⟨gb, nb, pb, mb, n, cv, D, tb, hS⟩, ⟨mb2, n2, av, D2, tbs, ttb, hW⟩, hd⟩ := h
  exact ⟨⟨gb, nb, pb, mb, n, cv, D, tb, hS.below hb⟩, ⟨mb2, n2, av, D2, tbs, ttb, hW.below hb⟩, hd⟩

theorem Both.lt {W : World} {wb sb m : Nat} {s : Sy} {cbs : List Nat} {L : Int → Option Tr} {own : Nat → Option Own} {ow : Nat → Option OwnW} (h : Both W wb sb s m cbs L own ow) : ∀ k, (own k ≠ none ∨ ow k ≠ none) → k < W.heap.size := by
  obtain ⟨⟨gb, nb, pb, mb, n, cv, D, tb, hS⟩, ⟨mb2, n2, av, D2, tbs, ttb, hW⟩, hd⟩ := h
  exact fun k hk => hk.elim (hS.lt k) (hW.lt k)

theorem setCo_self (s : Sy) (i : Nat) (hi : i < s.cores.length) : setCo s i s.cores[i]! = s := by
  unfold setCo
  rw [set_self_co _ _ hi]

/-- What Do leaves behind an Attempt. -/
def DoA (ob wb sb : Nat) (s : Sy) (m : Nat) (cbs : List Nat) (own : Nat → Option Own) (ow : Nat → Option OwnW) (i : Nat) (tag : Int) (W : World) (e : Ending) (w' : World) : Prop :=
  (∃ x y : Int, e = .returned (.agg #[.int .i64 x, .int .i64 y])) ∧ ∃ (c' : Co) (m' : Nat) (L' : Int → Option Tr) (own' : Nat → Option Own) (ow' : Nat → Option OwnW), WoIn w' ob wb sb (setCo s i c') m' cbs L' own' ow' ∧ m' ≤ m + 1 ∧ (∀ t, L' i = some t → 5 ≤ t.stg) ∧
    (c' = s.cores[i]! ∨ ((tag = 0 ∨ tag = 1 ∨ tag = 2) ∧ ChR s.cores[i]! c' tag (1000 * m))) ∧ Touch (fun k => own k ≠ none ∨ ow k ≠ none) W w' ∧ ∀ k, (own' k ≠ none ∨ ow' k ≠ none) → (own k ≠ none ∨ ow k ≠ none) ∨ W.heap.size ≤ k

/-- What an Attempt leaves, before Do ends. -/
def AttQ (wb sb : Nat) (s : Sy) (m : Nat) (cbs : List Nat) (own : Nat → Option Own) (ow : Nat → Option OwnW) (i : Nat) (tag : Int) (W w' : World) : Prop :=
  ∃ (c' : Co) (m' : Nat) (L' : Int → Option Tr) (own' : Nat → Option Own) (ow' : Nat → Option OwnW), Both w' wb sb (setCo s i c') m' cbs L' own' ow' ∧ m' ≤ m + 1 ∧ (∀ t, L' i = some t → 5 ≤ t.stg) ∧
    (c' = s.cores[i]! ∨ ((tag = 0 ∨ tag = 1 ∨ tag = 2) ∧ ChR s.cores[i]! c' tag (1000 * m))) ∧ Touch (fun k => own k ≠ none ∨ ow k ≠ none) W w' ∧ ∀ k, (own' k ≠ none ∨ ow' k ≠ none) → (own k ≠ none ∨ ow k ≠ none) ∨ W.heap.size ≤ k

theorem do_finA {W W2 w1 w' : World} {ob wb sb : Nat} {s : Sy} {m i : Nat} {tag : Int} {cbs : List Nat} {L : Int → Option Tr} {own : Nat → Option Own} {ow : Nat → Option OwnW} (h : WoIn W ob wb sb s m cbs L own ow) (hB : Below W.heap.size W W2) (hY : AttQ wb sb s m cbs own ow i tag W2 w1)
    (hT : Touch (fun k => k = W.heap.size + 1) w1 w') (hz : W.heap.size + 1 < W2.heap.size) :
    ∃ (c' : Co) (m' : Nat) (L' : Int → Option Tr) (own' : Nat → Option Own) (ow' : Nat → Option OwnW), WoIn w' ob wb sb (setCo s i c') m' cbs L' own' ow' ∧ m' ≤ m + 1 ∧ (∀ t, L' i = some t → 5 ≤ t.stg) ∧
    (c' = s.cores[i]! ∨ ((tag = 0 ∨ tag = 1 ∨ tag = 2) ∧ ChR s.cores[i]! c' tag (1000 * m))) ∧ Touch (fun k => own k ≠ none ∨ ow k ≠ none) W w' ∧ ∀ k, (own' k ≠ none ∨ ow' k ≠ none) → (own k ≠ none ∨ ow k ≠ none) ∨ W.heap.size ≤ k := by
  obtain ⟨hob, hBo, hno, hnw⟩ := h
  have hlt := hBo.lt
  obtain ⟨c', m', L', own', ow', hB', hm, hL, hc, hto, hg⟩ := hY
  have hlt' := hB'.lt
  have hobl : ob < W.heap.size := (Array.getElem?_eq_some_iff.1 hob).1
  have hz2 := hto.size
  have hBs := hB.size
  have hkeep : ∀ k, k < W.heap.size → own k = none → ow k = none → w'.heap[k]? = W.heap[k]? := fun k hk hn hn2 => by
    rw [hT.block k (by omega) (by omega), hto.block k (by omega) (by simp [hn, hn2]), hB.block k hk]
  have hg2 : ∀ k, (own' k ≠ none ∨ ow' k ≠ none) → (own k ≠ none ∨ ow k ≠ none) ∨ W.heap.size ≤ k := fun k hk => (hg k hk).imp id (fun h => by omega)
  have hne : ∀ k, (own' k ≠ none ∨ ow' k ≠ none) → k ≠ W.heap.size + 1 := fun k hk e => by
    rcases hg k hk with h1 | h1
    · have := hlt k h1; omega
    · omega
  obtain ⟨⟨gb', nb', pb', mb', n', cv', D', tb', hS'⟩, ⟨mb2, n2, av, D2, tbs, ttb, hW'⟩, hd'⟩ := hB'
  refine ⟨c', m', L', own', ow', ⟨(hkeep ob hobl hno hnw).trans hob, ⟨⟨gb', nb', pb', mb', n', cv', D', tb', hS'.same hT.size (fun k hk => hT.block k (hlt' k (.inl hk)) (hne k (.inl hk)))⟩, ⟨mb2, n2, av, D2, tbs, ttb, hW'.same hT.size (fun k hk => hT.block k (hlt' k (.inr hk)) (hne k (.inr hk)))⟩, hd'⟩, ?_, ?_⟩, hm, hL, hc, ?_, hg2⟩
  · by_cases e : own' ob = none
    · exact e
    · rcases hg2 ob (.inl e) with h1 | h1
      · simp [hno, hnw] at h1
      · omega
  · by_cases e : ow' ob = none
    · exact e
    · rcases hg2 ob (.inr e) with h1 | h1
      · simp [hno, hnw] at h1
      · omega
  · refine ⟨?_, ?_, ?_, by have := hT.size; omega, fun k hk hn => hkeep k hk (by by_cases e : own k = none; exact e; exact absurd (.inl e) hn) (by by_cases e : ow k = none; exact e; exact absurd (.inr e) hn)⟩
    · rw [hT.os, hto.os, hB.os]
    · rw [hT.tape, hto.tape, hB.tape]
    · rw [hT.output, hto.output, hB.output]

theorem do_attempt (W : World) (ob wb sb : Nat) (s : Sy) (mm : Nat) (cbs : List Nat) (L : Int → Option Tr) (own : Nat → Option Own) (ow : Nat → Option OwnW) (i : Nat) (tag c n m : Int) (h : WoIn W ob wb sb s mm cbs L own ow)
    (hi : i < s.cores.length) (hi2 : i < 1000000) (hm : mm < 1000000) (ht : ∀ t, L i = some t → 5 ≤ t.stg) (hf : Fits s.cores[i]!.l) :
    Calls Tryz.prog 13 #[.pointer (some ⟨ob, 0, none⟩), actV 16 i tag c n m (.slice none 0 0)] W (DoA ob wb sb s mm cbs own ow i tag W) := by
  obtain ⟨h1, h2, h3, h4, h5, h6⟩ := actW_below W 16 i tag c n m (.slice none 0 0)
  obtain ⟨-, c0, c1⟩ := h.act 16 i tag c n m (.slice none 0 0)
  have hBo := h.2.1
  have hlt := hBo.lt
  have hnum : cbs.length = s.cores.length := by
    obtain ⟨⟨gb, nb, pb, mb, n', cv, D, tb, hS⟩, _, _⟩ := hBo
    exact hS.num
  have hobl : ob < W.heap.size := (Array.getElem?_eq_some_iff.1 h.1).1
  have hzz : (actW W 16 i tag c n m (.slice none 0 0)).heap.size = W.heap.size + 3 := by
    show ((inDo W 16 i tag c n m (.slice none 0 0)).alloc _).heap.size = _
    rw [World.size_alloc, h3]
  have hatt := attempt_any wb sb mm s cbs L own ow i tag _ (hBo.below h1) (by rw [hnum]; exact hi) hi2 hm ht hf
  have hq : Calls Tryz.prog 61 #[.pointer (some ⟨wb, 0, none⟩), .int .i64 i, .int .i64 tag, .slice none 0 0] (actW W 16 i tag c n m (.slice none 0 0))
      (TwoB fun x y w' => (AttQ wb sb s mm cbs own ow i tag (actW W 16 i tag c n m (.slice none 0 0)) w')) := hatt.mono (fun e w' hA => by
    rcases hA with ⟨_, rfl, rfl⟩ | ⟨hg, x, er, t, c', own', ow', rfl, hB', h5', hch, hto, hgr⟩
    · exact ⟨false, 1, rfl, s.cores[i]!, mm, L, own, ow, by rw [setCo_self s i hi]; exact hBo.below h1, by omega, ht, .inl rfl, Touch.refl _ _, fun k hk => .inl hk⟩
    · exact ⟨x, er, rfl, c', mm + 1, _, own', ow', hB', Nat.le_refl _, fun t' ht' => by
        simp only [setL, if_pos, Option.some.injEq] at ht'; rw [← ht']; exact h5', .inr ⟨hg, hch⟩, hto, hgr⟩)
  have htry := try_attempt (inDo W 16 i tag c n m (.slice none 0 0)) ob wb _ i tag c n m (.slice none 0 0) (fun x y w' => AttQ wb sb s mm cbs own ow i tag (actW W 16 i tag c n m (.slice none 0 0)) w') c0 c1 (hq.mono (fun e w' ⟨x, y, he, hQ⟩ => ⟨x, y, he, hQ, by
    obtain ⟨c', m', L', own', ow', hB', _, _, _, hto, _⟩ := hQ
    refine ⟨hto.block ob (by omega) (by simp [h.2.2.1, h.2.2.2]), hto.block _ (by rw [h3, hzz]; omega) (fun e => by have := hlt _ e; omega)⟩⟩))
  refine (do_try W ob 16 i tag c n m (.slice none 0 0) (fun x y w1 => AttQ wb sb s mm cbs own ow i tag (actW W 16 i tag c n m (.slice none 0 0)) w1) (by omega) (htry.mono (fun e w' ⟨x, y, he, ok, hx, hQ⟩ => ⟨x, y, he, hQ, by
    obtain ⟨c', m', L', own', ow', hB', _, _, _, hto, _⟩ := hQ
    rw [hto.block _ h2 (fun e => by have := hlt _ e; omega), h5 _ (by omega), h4]⟩))).mono ?_
  rintro e w' ⟨x', y', w1, hQ, rfl, hT⟩
  exact ⟨⟨_, _, rfl⟩, do_finA h h1 hQ hT h2⟩

end Go.Proofs.YtoiajjobecinpaaGreat

namespace Go.Proofs.YtoiajjobecinpaaGreat
open Go.RowKit Go.Shelf Go.Lib Go.Proofs
set_option linter.unusedVariables false
set_option linter.unusedSimpArgs false

structure ShC (ws G : List Int) (t : Nat) (c : Co) : Prop where
  inv : LnInv ws c.l
  lo : 0 ≤ c.l.base
  hi : c.l.base ≤ 1000000000 + 931170240 * (t : Int)
  srv : c.srv ≤ t
  len : G.length = ws.length
  sum : G.sum = t
  nn : ∀ k, 0 ≤ G.getD k 0
  got : ∃ off, ∀ k, k < ws.length → c.l.ps[k]!.v = off + G.getD k 0 * stepI (ws.getD k 0)

def ShW (W : World) (N : Nat → Prop) (ob : Nat) (ws G : List Int) (t m : Nat) : Prop :=
  ∃ wb sb s cbs L own ow c, WoIn W ob wb sb s m cbs L own ow ∧ ShS ws s c ∧ ShC ws G t c ∧ (∀ x, L 0 = some x → 5 ≤ x.stg) ∧ FreeN N W own ow

theorem LnInv.fits {ws : List Int} {l : Ln} (h : LnInv ws l) (h0 : 0 ≤ l.base) (h1 : l.base ≤ 1152921504606846976) : Fits l ∧ Ids l := by
  have hn := h.few
  refine ⟨⟨by rw [h.len]; exact hn.2, byId_range h.ids, by omega, fun p hp => ?_⟩, fun p hp => ?_⟩
  · have := h.low p hp
    have := h.far p hp
    have := h.w p hp
    omega
  · have := ids_range h.ids p hp
    omega

/-- All are in. -/
theorem BegW.sh {W : World} {N : Nat → Prop} {ob : Nat} {ws : List Int} (h : BegW W N ob ws) (hne : 1 ≤ ws.length) : ShW W N ob ws (List.replicate ws.length 0) 0 0 := by
  obtain ⟨wb, sb, s, cbs, own, ow, c, hW, hS, hC, hg, hN⟩ := h
  have hps : c.l.ps ≠ [] := fun e => by have := hS.len; rw [e] at this; simp at this; omega
  have hm := (hC.all _ (minP_mem _ hps)).1
  refine ⟨wb, sb, s, cbs, noTries, own, ow, c, hW, hS, ⟨⟨hS.ids, hS.wts, hg, ⟨hne, hS.few⟩, by rw [hC.base, hm], fun p hp => ?_, fun p hp => ?_⟩, by rw [hC.base]; omega, by rw [hC.base]; omega, by rw [hC.srv]; omega, by simp, ?_, fun k => ?_, 0, fun k hk => ?_⟩, (fun x hx => by cases hx), hN⟩
  · have := (hC.all p hp).1; rw [hC.base]; omega
  · have := (hC.all p hp).2
    have := (hC.all p hp).1
    omega
  · have : ∀ n : Nat, (List.replicate n (0 : Int)).sum = 0 := by
      intro n
      induction n with
      | zero => rfl
      | succ n ih => rw [List.replicate_succ, List.sum_cons, ih]; rfl
    rw [this]; rfl
  · rw [List.getD_eq_getElem?_getD, List.getElem?_replicate]
    split <;> simp
  · have hl : k < c.l.ps.length := by rw [hS.len]; exact hk
    rw [getElem!_pos c.l.ps k hl, (hC.all _ (List.getElem_mem hl)).1, List.getD_eq_getElem?_getD, List.getElem?_replicate, if_pos hk]
    simp

/-- One more for the one at j. -/
def addG (G : List Int) (j : Nat) : List Int := G.set j (G.getD j 0 + 1)

theorem addG_get (G : List Int) (j k : Nat) (hj : j < G.length) : (addG G j).getD k 0 = if k = j then G.getD j 0 + 1 else G.getD k 0 := by
  unfold addG
  simp only [List.getD_eq_getElem?_getD, List.getElem?_set]
  by_cases e : k = j
  · subst e; simp [hj]
  · rw [if_neg (fun h => e h.symm), if_neg e]

theorem addG_sum : ∀ (G : List Int) (j : Nat), j < G.length → (addG G j).sum = G.sum + 1
  | [], j, h => by simp at h
  | g :: G, 0, _ => by simp [addG]; omega
  | g :: G, j + 1, h => by
    have ih := addG_sum G j (by simpa using h)
    unfold addG at ih ⊢
    simp only [List.set_cons_succ, List.sum_cons, List.getD_cons_succ] at ih ⊢
    omega

theorem addG_len (G : List Int) (j : Nat) : (addG G j).length = G.length := by simp [addG]

theorem ShC.tick {ws G : List Int} {t : Nat} {c : Co} (h : ShC ws G t c) (ht : t ≤ 1000) :
    ∃ j c', j < ws.length ∧ coreRun c = ((j : Int), 0, c') ∧ ShC ws (addG G j) (t + 1) c' := by
  obtain ⟨j, hp⟩ := h.inv.pick c.tag
  have hb : c.l.base ≤ 1152921504606846976 := by have := h.hi; omega
  have hch := charge_pick h.inv hp hb
  obtain ⟨-, -, -, hj, hv⟩ := hp
  have hjw : j < ws.length := by rw [← h.inv.len]; exact hj
  obtain ⟨h1, h2, h3⟩ := h.inv.tick hj hv
  refine ⟨j, ⟨c.tag, tickL c.l j, wrap64 (c.age + 1), c.srv + 1⟩, hjw, ?_, ⟨h1, ?_, ?_, ?_, ?_, ?_, fun k => ?_, ?_⟩⟩
  · unfold coreRun runL
    rw [hch]
    simp
  · have := h.lo; show 0 ≤ (tickL c.l j).base; omega
  · have := h.hi; show (tickL c.l j).base ≤ _; omega
  · have := h.srv; show c.srv + 1 ≤ t + 1; omega
  · rw [addG_len]; exact h.len
  · rw [addG_sum _ _ (by rw [h.len]; exact hjw), h.sum]; omega
  · rw [addG_get _ _ _ (by rw [h.len]; exact hjw)]
    have h4 := h.nn j
    have h5 := h.nn k
    split <;> omega
  · obtain ⟨off, ho⟩ := h.got
    refine ⟨off, fun k hk => ?_⟩
    have hkl : k < c.l.ps.length := by rw [h.inv.len]; exact hk
    rw [addG_get _ _ _ (by rw [h.len]; exact hjw)]
    show (c.l.ps.set j (onP c.l.ps[j]!))[k]!.v = _
    have e : (c.l.ps.set j (onP c.l.ps[j]!))[k]! = if k = j then onP c.l.ps[j]! else c.l.ps[k]! := by
      rw [getElem!_pos _ k (by simpa using hkl), List.getElem_set]
      by_cases e : j = k
      · rw [if_pos e, if_pos e.symm]
      · rw [if_neg e, if_neg (fun h => e h.symm), getElem!_pos c.l.ps k hkl]
    rw [e]
    by_cases e2 : k = j
    · subst e2
      rw [if_pos rfl, if_pos rfl, (onP_same _).2.2, ho k hk]
      have hw : c.l.ps[k]!.w = ws.getD k 0 := by
        rw [getElem!_pos c.l.ps k hkl, List.getD_eq_getElem?_getD, (h.inv.at_ k hkl).2]; rfl
      rw [hw, Int.add_mul]
      omega
    · rw [if_neg e2, if_neg e2]
      exact ho k hk

theorem ShC.change {ws G : List Int} {t m : Nat} {c c' : Co} {tag : Int} (h : ShC ws G t c) (hc : ChR c c' tag (1000 * m)) (hm : m ≤ 1000000) : ShC ws G t c' := by
  have hi := hc.ids
  rcases hc with rfl | ⟨a1, a2, a3, a4, a5, a6, a7⟩
  · exact h
  · obtain ⟨h1, h2⟩ := h.inv.moved hi.1 hi.2.1 hi.2.2 a7.2
    refine ⟨h1, by rw [a2]; omega, by rw [a2]; omega, by rw [a4]; exact h.srv, h.len, h.sum, h.nn, ?_⟩
    obtain ⟨off, ho⟩ := h.got
    exact ⟨off + (c'.l.base - c.l.base), fun k hk => by rw [h2 k hk, ho k hk]; omega⟩

theorem sh_run (W : World) (N : Nat → Prop) (ob : Nat) (ws G : List Int) (t mm : Nat) (b c n m : Int) (bl : Value) (h : ShW W N ob ws G t mm) (ht : t ≤ 1000) :
    Calls Tryz.prog 13 #[.pointer (some ⟨ob, 0, none⟩), actV 10 0 b c n m bl] W fun e w' => ∃ j, j < ws.length ∧ e = .returned (.agg #[.int .i64 j, .int .i64 0]) ∧ ShW w' N ob ws (addG G j) (t + 1) mm ∧ Touch (fun k => ¬ N k) W w' := by
  obtain ⟨wb, sb, s, cbs, L, own, ow, co, hW, hS, hC, hL, hN⟩ := h
  obtain ⟨j, c', hj, hrun, hC'⟩ := hC.tick ht
  have hc := hS.core
  have hfi := hC.inv.fits hC.lo (by have := hC.hi; omega)
  have hids := hS.ids
  have hsl : ∀ acc : List Acc4, acc = zeroA → ∀ s' : Sy, s'.acc = acc → [g0].any (spentA s') = false := fun acc h1 s' h2 => zeroA_spent s' (h2.trans h1) [g0]
  have hfew := hS.few
  refine (do_run W ob wb sb s mm cbs L own ow 0 b c n m bl j c' (taskW ws j) [g0] hW (by omega) (by rw [hc.1]; exact hfi.1) (by rw [hc.1]; exact hfi.2) (by rw [hc.1]; have := hC.srv; omega) (by rw [hc.1]; exact hrun) (by omega)
    (by rw [hS.tasks, if_pos (by omega)]) (by rw [hS.gs]; exact topG_path) (by rw [hS.acc]; exact zeroA_ok) (by rw [hS.ps]; exact takenP_sized _ hfew) hS.dom (by
      rw [hS.ps, takenP_list]
      intro e
      have := congrArg List.length e
      simp at this
      rw [this] at hj
      simp at hj)
    (fun x hx tk htk => ⟨[g0], (by
      rw [hS.tasks] at htk
      split at htk
      · cases htk; rw [hS.gs]; exact topG_path
      · cases htk), zeroA_spent _ (by show [g0].foldl useA s.acc = zeroA; rw [hS.acc, zeroA_fold]) _⟩)).mono ?_
  rintro e w' ⟨rfl, own', hW', hto, ho⟩
  refine ⟨j, hj, rfl, ⟨wb, sb, _, cbs, L, own', ow, c', hW', hS.run ?_ ?_ [g0], hC', hL, hN.next hto.size (fun k hk => by
    rcases hk with hk | hk
    · exact (ho k hk).imp .inl id
    · exact .inl (.inr hk))⟩, hto.wider (fun k hk hNk => hk (hN k hNk).2.1)⟩
  · exact hC'.inv.ids.trans hC.inv.ids.symm
  · exact hC'.inv.wts.trans hC.inv.wts.symm

theorem sh_change (W : World) (N : Nat → Prop) (ob : Nat) (ws G : List Int) (t mm : Nat) (tag c n m : Int) (h : ShW W N ob ws G t mm) (ht : t ≤ 1000) (hm : mm < 1000000) :
    Calls Tryz.prog 13 #[.pointer (some ⟨ob, 0, none⟩), actV 16 0 tag c n m (.slice none 0 0)] W fun e w' => AnsP e ∧ (∃ m', m' ≤ mm + 1 ∧ ShW w' N ob ws G t m') ∧ Touch (fun k => ¬ N k) W w' := by
  obtain ⟨wb, sb, s, cbs, L, own, ow, co, hW, hS, hC, hL, hN⟩ := h
  have hc := hS.core
  have hfi := hC.inv.fits hC.lo (by have := hC.hi; omega)
  refine (do_attempt W ob wb sb s mm cbs L own ow 0 tag c n m hW (by omega) (by omega) hm hL (by rw [hc.1]; exact hfi.1)).mono ?_
  rintro e w' ⟨he, c', m', L', own', ow', hW', hm', hL', hch, hto, ho⟩
  have hN' := hN.next hto.size ho
  have hto' : Touch (fun k => ¬ N k) W w' := hto.wider (fun k hk hNk => by
    have := hN k hNk
    simp [this.2.1, this.2.2] at hk)
  refine ⟨he, ⟨m', hm', ?_⟩, hto'⟩
  rcases hch with rfl | ⟨htag, hch⟩
  · rw [setCo_self s 0 (by omega)] at hW'
    exact ⟨wb, sb, s, cbs, L', own', ow', co, hW', hS, hC, hL', hN'⟩
  · rw [hc.1] at hch
    have hid := hch.ids
    exact ⟨wb, sb, _, cbs, L', own', ow', c', hW', hS.turn hid.1 hid.2.1, hC.change hch (by omega), hL', hN'⟩

end Go.Proofs.YtoiajjobecinpaaGreat

namespace Go.Proofs.YtoiajjobecinpaaGreat
open Go.RowKit Go.Shelf Go.Lib Go.Proofs
set_option linter.unusedVariables false
set_option linter.unusedSimpArgs false

theorem flatT_lag : ∀ (l : List Tk) (k : Nat) (hk : k < l.length), (flatT l)[k * 7 + 6]? = some (.int .i64 l[k].lag)
  | [], k, h => by simp at h
  | a :: l, 0, _ => by simp [flatT, Tk.cells]
  | a :: l, k + 1, h => by
    have ih := flatT_lag l k (by simpa using h)
    have e : flatT (a :: l) = a.cells ++ flatT l := by simp [flatT]
    rw [e, List.getElem?_append_right (by simp [Tk.cells]; omega)]
    have hl : a.cells.length = 7 := by simp [Tk.cells]
    rw [hl, show (k + 1) * 7 + 6 - 7 = k * 7 + 6 by omega, ih]
    rfl

theorem itemI_lag {ws : List Int} {l : Ln} (h : LnInv ws l) (k : Nat) (hk : k < l.ps.length) : (itemI (formL l) (k : Int)).lag = l.base - l.ps[k]!.v := by
  have hl : (formL l).length = l.ps.length := by simp [formL]
  have hat : ∀ j (hj : j < (formL l).length), (formL l)[j].id = (j : Int) ∧ (formL l)[j].lag = l.base - (l.ps[j]'(by omega)).v := fun j hj => by
    refine ⟨?_, ?_⟩
    · simp only [formL, List.getElem_map]
      exact (h.at_ j (by omega)).1
    · simp only [formL, List.getElem_map]
      rfl
  have hpos : posI (formL l) (k : Int) = k := by
    rcases posI_cases (formL l) (k : Int) with ⟨_, h2⟩ | ⟨j, hj, h1, h2, _⟩
    · exact absurd (hat k (by omega)).1 (h2 _ (List.getElem_mem (by omega)))
    · have := (hat j hj).1
      rw [h1]; omega
  unfold itemI
  rw [hpos, if_pos (by omega)]
  simp only [Int.toNat_natCast]
  rw [getElem!_pos (formL l) k (by omega), (hat k (by omega)).2, getElem!_pos l.ps k hk]

theorem sh_state (W : World) (N : Nat → Prop) (ob : Nat) (ws G : List Int) (t mm : Nat) (h : ShW W N ob ws G t mm) (ht : t ≤ 1000) :
    Calls Tryz.prog 15 #[.pointer (some ⟨ob, 0, none⟩)] W fun e w' => ∃ (g c : Nat) (a0 a1 a3 a4 : Option Addr) (n0 n1 n3 n4 c0 c1 c3 c4 : Nat) (l : Ln), e = .returned (.agg #[.slice a0 n0 c0, .slice a1 n1 c1, .slice (some ⟨g, 0, none⟩) ws.length c, .slice a3 n3 c3, .slice a4 n4 c4]) ∧ LnInv ws l ∧
      (∀ k, k < ws.length → w'.cell? ⟨g, k * 7 + 6, none⟩ = some (.int .i64 (l.base - l.ps[k]!.v))) ∧ Below W.heap.size W w' := by
  obtain ⟨wb, sb, s, cbs, L, own, ow, co, hW, hS, hC, hL, hN⟩ := h
  have hc := hS.core
  have hfi := hC.inv.fits hC.lo (by have := hC.hi; omega)
  have hcell := hW.cells.1
  obtain ⟨-, ⟨⟨gb, nb, pb, mb, n', cv, D, tb, hY⟩, -, -⟩, -, -⟩ := hW
  refine (state_any ob sb gb nb pb mb n' cv D cbs tb own s W hY (hS.tell hfi.1) (by rw [hY.num]; omega) hcell).mono ?_
  rintro e w' ⟨vs, rfl, hR, hb⟩
  have hlist : listP s.ps = (List.range ws.length).map fun j : Nat => (j : Int) := by rw [hS.ps, takenP_list]
  have hfew := hC.inv.few
  have htk := hR.tasks
  rw [hlist] at htk
  simp only [List.length_map, List.length_range, List.map_map] at htk
  obtain ⟨g, cap, e2⟩ : ∃ g cap, vs 2 = .slice (some ⟨g, 0, none⟩) ws.length cap := by
    rcases htk.2 with ⟨_, h0⟩ | ⟨g, cap, cur, e, _⟩
    · omega
    · exact ⟨g, cap, e⟩
  rw [e2] at htk ⊢
  obtain ⟨fl, P, hf1, -⟩ := hR.forms
  obtain ⟨a0, n0, m0, s0⟩ := ownsRow_slice hR.tags
  obtain ⟨a1, n1, m1, s1⟩ := ownsRow_slice hf1
  obtain ⟨a3, n3, m3, s3⟩ := ownsRow_slice hR.lefts
  obtain ⟨a4, n4, m4, s4⟩ := ownsRow_slice hR.phases
  rw [s0, s1, s3, s4]
  refine ⟨g, cap, a0, a1, a3, a4, n0, n1, n3, n4, m0, m1, m3, m4, co.l, rfl, hC.inv, fun k hk => ?_, hb⟩
  have hkl : k < co.l.ps.length := by rw [hC.inv.len]; exact hk
  have hx := fun v => htk.cells (g := g) rfl (k * 7 + 6) v
  simp only [Addr.add_lit, Nat.zero_add] at hx
  refine hx _ ?_
  rw [flatT_lag _ k (by simpa using hk)]
  simp only [List.getElem_map, List.getElem_range, Function.comp]
  have : taskY s (k : Int) = toldT s (taskW ws k) := by
    unfold taskY
    rw [hS.tasks, if_pos (by omega)]
    rfl
  rw [this]
  show some (Value.int .i64 (lagY s (taskW ws k))) = _
  have hly : lagY s (taskW ws k) = (itemI (formL s.cores[0]!.l) (k : Int)).lag := by
    unfold lagY
    exact if_pos rfl
  rw [hly, hc.1, itemI_lag hC.inv k hkl]

end Go.Proofs.YtoiajjobecinpaaGreat
