/- State, world.New. world.New. Spawn. A task that is not held comes to its core; Start. Start. -/
import Derived.Sort.BigQuietIn
import Derived.BigQuiet
import Derived.StillTail
import Derived.Test.YtoiajjobecinpaaGreatRows
import Derived.WalkKit
import Derived.ProofKit
import Derived.Below
import Derived.Lib.Hide
import Derived.Laws.AppendOwn
import Derived.Shelf.SlicesQ.IndexFunc
import Derived.Ground.SlgfProg
import Derived.Deep.QuietTactic
import Derived.Deep.DeepCutAuto
import Derived.Deep.RegionHeld3
import Derived.Ground.SlsfProg
import Derived.Deep.AppendLies
import Derived.Deep.RegionLaw
import Derived.Lib.SlBy
import Derived.Shelf.Bits.Mul64
import Derived.Shelf.Spec.BitsCarry
import Derived.Shelf.Lay
import Derived.Ground.NamesProg
import Derived.Ground.Names7Prog
import Derived.Maps.Views
import Derived.Maps.OwnSet
import Derived.RangeFuncNested
import Derived.RangeFuncBound
import Derived.RangeFuncCalls
import Derived.RangeFuncLeaves
import Derived.RangeFuncFrom
import Derived.Shelf.Abstract
import Derived.Shelf.RegionOpen
import Derived.OwnWalkIn
import Derived.TacticsInMore
import Derived.LoopNIn
import Derived.LoopIn
import Derived.WalkSpells
import Derived.WalkLawsBesides
import Derived.WalkMore
import Derived.Lib.SliceRun
import Derived.Laws.BytesArg
import Derived.Shelf.Bytes.SlEqualAll
import Derived.WalkSmall
import Derived.OwnWalk
import Derived.Shelf.SlicesQ.Equal
import Derived.Laws.StructEq
import Derived.Ground.SlgqProg
import Derived.Test.YtoiajjobecinpaaGreatSh22

namespace Go.Proofs.YtoiajjobecinpaaGreat
open Go.RowKit Go.Shelf Go.Lib Go.Proofs
set_option linter.unusedVariables false
set_option linter.unusedSimpArgs false
attribute [local go_sem] Oper.semAt_some

theorem StateR.same {s : Sy} {H H' : Nat} {W W' : World} {vs : Nat → Value} (h : StateR s H W vs) (hs : W.heap.size ≤ W'.heap.size) (hb : ∀ k, H ≤ k → k < W.heap.size → W'.heap[k]? = W.heap[k]?) (hH : H' ≤ H) : StateR s H' W' vs := by
  have hrow : ∀ {t sz v n xs}, W.ownsRow H t sz v n xs → W'.ownsRow H' t sz v n xs := fun hr => ownsRow_base (ownsRow_same hr (fun k hk => hb k (hr.lt k hk).1 (hr.lt k hk).2)) hH
  obtain ⟨fl, P, h1, h2, h3⟩ := h.forms
  refine ⟨hrow h.tags, ⟨fl, P, hrow h1, ?_, fun k hk => Nat.le_trans hH (h3 k hk)⟩, hrow h.tasks, hrow h.lefts, hrow h.phases⟩
  have : ∀ {fs : List (Int × Value)} {cs : List Co}, FormsOk W P fs cs → FormsOk W' P fs cs := by
    intro fs
    induction fs with
    | nil => intro cs hh; cases cs with
      | nil => trivial
      | cons c cs => exact hh.elim
    | cons f fs ih => intro cs hh; cases cs with
      | nil => exact hh.elim
      | cons c cs => exact ⟨⟨hh.1.1, hh.1.2.1.same hs (fun k hk => hb k (h3 k (hh.1.2.2 k hk)) (hh.1.2.1.lt hk)), hh.1.2.2⟩, ih hh.2⟩
  exact this h2

def StP (s : Sy) (w : World) (e : Ending) (W' : World) : Prop :=
  ∃ vs : Nat → Value, e = .returned (.agg #[vs 0, vs 1, vs 2, vs 3, vs 4]) ∧ StateR s w.heap.size W' vs ∧ Below w.heap.size w W'

set_option maxRecDepth 100000 in
set_option maxHeartbeats 2000000 in
theorem state_any (ob : Nat) (sb gb nb pb mb n : Nat) (cv : Value) (D : DataW Unit) (cbs : List Nat) (tb : Int → Nat) (own : Nat → Option Own) (s : Sy) (w : World) (h : SysAt w sb gb nb pb mb n cv D cbs tb own s) (hy : TellY s) (h16 : cbs.length ≤ 16)
    (h0 : w.cell? ⟨ob, 0, none⟩ = some (.pointer (some ⟨sb, 0, none⟩))) :
    Calls Tryz.prog 15 #[.pointer (some ⟨ob, 0, none⟩)] w (StP s w) := by
  have hB0 : Below w.heap.size w (w.alloc (.cells #[.slice none 0 0, .slice none 0 0, .slice none 0 0, .slice none 0 0, .slice none 0 0] 44)) := (Below.refl _ w).alloc (Nat.le_refl _) _
  have hof := of_any sb gb nb pb mb n cv D cbs tb own s _ (h.below hB0) hy h16
  have hbox := heap_alloc_new w (.cells #[.slice none 0 0, .slice none 0 0, .slice none 0 0, .slice none 0 0, .slice none 0 0] 44)
  have hz : (w.alloc (.cells #[.slice none 0 0, .slice none 0 0, .slice none 0 0, .slice none 0 0, .slice none 0 0] 44)).heap.size = w.heap.size + 1 := by simp
  have c0 := c2a (.cells #[.slice none 0 0, .slice none 0 0, .slice none 0 0, .slice none 0 0, .slice none 0 0] 44) h0
  unfold OfP at hof
  rw [hz] at hof
  have HB0 := Lib.hid hB0
  have HX := Lib.hid hbox
  unfold StP
  clear h hy h16 hB0 hbox hz h0
  go_enter Tryz.func15, Tryz.ntmps15
  go_wp2_with fail
  refine hof.mono ?_
  rintro e w1 ⟨vs, rfl, hR, hb⟩
  have hb1 : Below (w.alloc (.cells #[.slice none 0 0, .slice none 0 0, .slice none 0 0, .slice none 0 0, .slice none 0 0] 44)).heap.size (w.alloc (.cells #[.slice none 0 0, .slice none 0 0, .slice none 0 0, .slice none 0 0, .slice none 0 0] 44)) w1 := by rw [World.size_alloc]; exact hb
  obtain ⟨⟨b0, b1, b2, b3, b4⟩, bf, bp⟩ := cells5 ((hb1.block w.heap.size (by simp)).trans HX.out)
  have bf0 := bf 0
  have bf1 := bf 1
  have bf2 := bf 2
  have bf3 := bf 3
  have bf4 := bf 4
  obtain ⟨fl, P, hf1, -⟩ := hR.forms
  obtain ⟨a0, n0, m0, s0⟩ := ownsRow_slice hR.tags
  obtain ⟨a1, n1, m1, s1⟩ := ownsRow_slice hf1
  obtain ⟨a2, n2, m2, s2⟩ := ownsRow_slice hR.tasks
  obtain ⟨a3, n3, m3, s3⟩ := ownsRow_slice hR.lefts
  obtain ⟨a4, n4, m4, s4⟩ := ownsRow_slice hR.phases
  have HSL := Lib.hid (And.intro s0 (And.intro s1 (And.intro s2 (And.intro s3 s4))))
  have HBP := Lib.hid bp
  have HR := Lib.hid hR
  have HB := Lib.hid (HB0.out.trans (hb1.mono HB0.out.size))
  clear bf bp hR hb hb1 hf1
  rw [s0, s1, s2, s3, s4]
  clear s0 s1 s2 s3 s4
  go_wp2_with fail
  obtain ⟨s0, s1, s2, s3, s4⟩ := HSL.out
  obtain ⟨⟨g0, g1, g2, g3, g4⟩, -, -⟩ := cells5 (HBP.out (.slice a0 n0 m0) (.slice a1 n1 m1) (.slice a2 n2 m2) (.slice a3 n3 m3) (.slice a4 n4 m4))
  refine bodyPost_ret (v := .agg #[.slice a0 n0 m0, .slice a1 n1 m1, .slice a2 n2 m2, .slice a3 n3 m3, .slice a4 n4 m4]) (by simp [results, Tryz.results15, go_sem, g0, g1, g2, g3, g4]) rfl ⟨vs, by rw [s0, s1, s2, s3, s4], HR.out.same (by simp) (fun j hj _ => ?_) (by omega), ?_⟩
  · have hj' : j ≠ w.heap.size := by omega
    rw [Below.heap_setCell _ _ _ _ (by simpa using hj'), Below.heap_setCell _ _ _ _ (by simpa using hj'), Below.heap_setCell _ _ _ _ (by simpa using hj'), Below.heap_setCell _ _ _ _ (by simpa using hj'), Below.heap_setCell _ _ _ _ (by simpa using hj')]
  · exact ((((HB.out.setCell (by simp) _).setCell (by simp) _).setCell (by simp) _).setCell (by simp) _).setCell (by simp) _

end Go.Proofs.YtoiajjobecinpaaGreat

namespace Go.Proofs.YtoiajjobecinpaaGreat
open Go.RowKit Go.Shelf Go.Lib Go.Proofs
set_option linter.unusedVariables false
set_option linter.unusedSimpArgs false
attribute [local go_sem] Oper.semAt_some

theorem ysnew_none (W : World) (a : Option Addr) (n c : Nat) (h : n < 1 ∨ 16 < n) : Calls Tryz.prog 23 #[.slice a n c] W fun e w' => e = .returned (.tuple #[.pointer none, .int .i64 1]) ∧ W = w' := by
  rcases h with h | h
  · obtain rfl : n = 0 := by omega
    go_enter Tryz.func23, Tryz.ntmps23
    go_wp2
    go_ret2
    exact ⟨rfl, rfl⟩
  · have g1 : ¬ (n : Int) < 1 := by omega
    have g2 : 16 < (n : Int) := by omega
    go_enter Tryz.func23, Tryz.ntmps23
    go_wp2
    go_ret2
    exact ⟨rfl, rfl⟩

set_option maxRecDepth 100000 in
set_option maxHeartbeats 2000000 in
theorem ysnew_bad (W : World) (tb off n c : Nat) (tags : List Int) (hn : n = tags.length) (h1 : 1 ≤ n) (h16 : n ≤ 16) (hc : ∀ k, k < n → W.cell? ⟨tb, off + k, none⟩ = some (.int .i64 (tags.getD k 0))) (htb : tb < W.heap.size)
    (k0 : Nat) (hk0n : k0 < n) (hbad : tags.getD k0 0 ≠ 0 ∧ tags.getD k0 0 ≠ 1 ∧ tags.getD k0 0 ≠ 2) (hg : ∀ k, k < k0 → tags.getD k 0 = 0 ∨ tags.getD k 0 = 1 ∨ tags.getD k 0 = 2) :
    Calls Tryz.prog 23 #[.slice (some ⟨tb, off, none⟩) n c] W (fun e w' => e = .returned (.tuple #[.pointer none, .int .i64 1]) ∧ Below W.heap.size W w') := by
  have g1 : ¬ (n : Int) < 1 := by omega
  have g2 : ¬ 16 < (n : Int) := by omega
  have HC := Lib.hid hc
  have HG := Lib.hid hg
  have HN := Lib.hid hn
  have HBAD := Lib.hid hbad
  clear hc hg hn hbad
  go_enter Tryz.func23, Tryz.ntmps23
  go_wp2_with fail
  refine (gnew_any _).mono ?_
  rintro e w1 ⟨rfl, hG1, hz1, hb1⟩
  go_wp2_with fail
  refine (snew64 _).mono ?_
  rintro e w2 ⟨rfl, hS2, hz2, hb2⟩
  have hmk := run_makeMap (P := Tryz.prog) 117 w2
  have HB2 := Lib.hid (hb1.trans (hb2.mono hb1.size))
  have HG2 := Lib.hid (hG1.same (hb2.block _ (by omega)))
  have HS2 := Lib.hid hS2
  have HZ1 := Lib.hid hz1
  have HZ2 := Lib.hid hz2
  clear hG1 hS2 hb1 hb2 hz1 hz2
  obtain ⟨i0, hi, hz0, hz1, hz2⟩ := info_parts info123
  have hstart : MadeK W ((w2.alloc (.map #[] 0)).alloc (.cells (sysCells W.heap.size (w1.heap.size + 1) w2.heap.size) 122)) (w2.heap.size + 1) tags 0 := by
    have hz := HZ1.out
    have hz2 := HZ2.out
    obtain ⟨own, h1, h2⟩ := sysAt_new HG2.out HS2.out ⟨by omega, by omega⟩
    refine ⟨own, _, _, _, _, _, _, _, _, _, h1, trivial, (HB2.out.alloc HB2.out.size _).alloc (by have := HB2.out.size; simp; omega) _, fun k hk => ?_⟩
    have := h2 k hk
    omega
  have HST := Lib.hid hstart
  unfold sysCells at HST
  clear hstart
  obtain ⟨sb, HSB⟩ : ∃ x, Hid (w2.heap.size + 1 = x) := ⟨_, Lib.hid rfl⟩
  rw [HSB.out] at HST
  go_wp2_with fail
  rw [HSB.out]
  go_loopw [24] (fun x wr => ∃ k : Nat, k ≤ k0 ∧ x = .int .i64 k ∧ Hid (MadeK W wr sb tags k)) (fun x _ => n - (intOf x).toNat)
  case atStart => exact ⟨0, Nat.zero_le _, rfl, HST⟩
  case round =>
    obtain ⟨k, hk, rfl, HR⟩ := hrel
    by_cases hkk : k < k0
    · have hkn : k < n := by omega
      obtain ⟨own, gb, nb, pb, mb, m, cv, D, cbs, tbf, hS, hcl, hB, hO⟩ := HR.out
      have hcell := (hB.cell (p := ⟨tb, off + k, none⟩) htb).trans (HC.out k hkn)
      have htag := HG.out k hkk
      have hnew := cnew_any (tags.getD k 0) 0 wr htag (by omega)
      obtain ⟨tg, htg⟩ : ∃ x, tags.getD k 0 = x := ⟨_, rfl⟩
      rw [htg] at hcell hnew
      have HTG := Lib.hid htg
      have HS := Lib.hid hS
      have HB := Lib.hid hB
      have HO := Lib.hid hO
      have HCL := Lib.hid hcl
      have hk1 : (k : Int) < (n : Int) := by omega
      have hk0 : 0 ≤ (k : Int) := by omega
      clear hS hB hO htag htg hcl HR
      go_wp2_with fail
      refine hnew.mono ?_
      rintro e w3 ⟨cb, F, rfl, hC3, hb3, hF3⟩
      have hsb3 := (HS.out.below hb3).head
      have hlv3 := (HS.out.below hb3).live 0
      have hsblt := (HS.out.below hb3).lt sb (by rw [HS.out.osb]; simp)
      have hrow3 := (HS.out.below hb3).row
      have hcvne : cv.ownBlock ≠ some sb := fun e => by have := HS.out.rown sb e; rw [HS.out.osb] at this; cases this
      have hcbl : cbs.length = k := by rw [HS.out.num]; simp; rw [← HN.out]; omega
      rw [hcbl] at hrow3
      have HCB := Lib.hid hcbl
      have HC3 := Lib.hid hC3
      have HB3 := Lib.hid hb3
      have HF3 := Lib.hid hF3
      clear hC3 hb3 hF3 hcbl
      go_wp2_with (at_builtin; refine wpList_append_lies _ rfl _ _ 118 rfl 0 123 i0 (.pointer none) 1 8 Tryz.underlying118 hi hz0 hz1 hz2 rfl (by decide) cv k (ptrs cbs) rfl (hrow3.alloc _) ⟨w3.heap.size, 0, none⟩ 1 1 [.pointer (some ⟨cb, 0, none⟩)] rfl rfl (World.news_of_block (cs := #[.pointer (some ⟨cb, 0, none⟩)]) (t := 123) (fr := (0, 0)) (heap_alloc_new w3 _)) (by simp [Value.oneCell']) (by omega) (by unfold maxLen; omega) (by omega) (by simp) (w3.heap.size + 1) (by simp) ?_; intro g cap w4 hown4 hgrow4 hat4 hlt4; have hsb4 := hgrow4.cell (c2a (.cells #[.pointer (some ⟨cb, 0, none⟩)] 123) hsb3) (fun e => hcvne e.symm); have hfr4 := live_grown hlv3 hsblt hgrow4 hcvne)
      have HADD := Lib.hid (madeK_step HS.out HB.out HO.out HB3.out HC3.out HF3.out hgrow4 hown4 hat4 HCB.out (by rw [← HN.out]; exact hkn) HTG.out)
      clear hown4 hgrow4 hat4 hlt4 hsb4 hfr4 hsb3 hlv3 hsblt hrow3 hcvne
      go_roundw
      case rel => exact ⟨k + 1, hkk, by go_num, HADD⟩
      case measure => simp [intOf]; omega
    · obtain rfl : k = k0 := by omega
      obtain ⟨own, gb, nb, pb, mb, m, cv, D, cbs, tbf, hS, hcl, hB, hO⟩ := HR.out
      have hcell := (hB.cell (p := ⟨tb, off + k, none⟩) htb).trans (HC.out k hk0n)
      obtain ⟨tg, htg⟩ : ∃ x, tags.getD k 0 = x := ⟨_, rfl⟩
      have hbd := HBAD.out
      rw [htg] at hcell hbd
      have hnew := cnew_bad tg 0 wr hbd.1 hbd.2.1 hbd.2.2
      have HB := Lib.hid hB
      have hk1 : (k : Int) < (n : Int) := by omega
      have hk0 : 0 ≤ (k : Int) := by omega
      clear hS hB hO htg hcl HR hbd
      go_wp2_with fail
      refine hnew.mono ?_
      rintro e w3 ⟨rfl, rfl⟩
      go_wp2_with fail
      go_ret2
      exact ⟨rfl, HB.out⟩


/-- A world, its system, its tries. -/
def WoIn (W : World) (ob wb sb : Nat) (s : Sy) (m : Nat) (cbs : List Nat) (L : Int → Option Tr) (own : Nat → Option Own) (ow : Nat → Option OwnW) : Prop :=
  W.heap[ob]? = some (.cells #[.pointer (some ⟨sb, 0, none⟩), .pointer (some ⟨wb, 0, none⟩)] 88 (0, 0)) ∧ Both W wb sb s m cbs L own ow ∧ own ob = none ∧ ow ob = none

theorem WoIn.cells {W : World} {ob wb sb : Nat} {s : Sy} {m : Nat} {cbs : List Nat} {L : Int → Option Tr} {own : Nat → Option Own} {ow : Nat → Option OwnW} (h : WoIn W ob wb sb s m cbs L own ow) :
    W.cell? ⟨ob, 0, none⟩ = some (.pointer (some ⟨sb, 0, none⟩)) ∧ W.cell? ⟨ob, 1, none⟩ = some (.pointer (some ⟨wb, 0, none⟩)) := by
  have hh := h.1
  exact ⟨by simp only [World.cell?, hh]; rfl, by simp only [World.cell?, hh]; rfl⟩

def WNewP (W : World) (tags : List Int) (e : Ending) (w' : World) : Prop :=
  ∃ (ob wb sb : Nat) (cbs : List Nat) (own : Nat → Option Own) (ow : Nat → Option OwnW), e = .returned (.tuple #[.pointer (some ⟨ob, 0, none⟩), .int .i64 0]) ∧ WoIn w' ob wb sb (newSy tags) 0 cbs noTries own ow ∧ W.heap.size ≤ ob ∧
    Below W.heap.size W w' ∧ ∀ k, (own k ≠ none ∨ ow k ≠ none) → W.heap.size ≤ k

set_option maxRecDepth 100000 in
set_option maxHeartbeats 2000000 in
theorem wnew_ok (W : World) (tb off n c : Nat) (tags : List Int) (hn : n = tags.length) (h1 : 1 ≤ n) (h16 : n ≤ 16) (hc : ∀ k, k < n → W.cell? ⟨tb, off + k, none⟩ = some (.int .i64 (tags.getD k 0))) (htb : tb < W.heap.size)
    (hg : ∀ k, k < n → tags.getD k 0 = 0 ∨ tags.getD k 0 = 1 ∨ tags.getD k 0 = 2) :
    Calls Tryz.prog 11 #[.slice (some ⟨tb, off, none⟩) n c] W (WNewP W tags) := by
  have hsys := ysnew_any W tb off n c tags hn h1 h16 hc htb hg
  clear hn h1 h16 hc htb hg
  go_enter Tryz.func11, Tryz.ntmps11
  go_wp2_with fail
  refine hsys.mono ?_
  rintro e w1 ⟨sb, own, rfl, hS, hB, hO⟩
  obtain ⟨gb, nb, pb, mb, m, cv, D, cbs, tbf, hS⟩ := hS
  have hsw := swnew_any sb cbs w1
  have HS := Lib.hid hS
  have HB := Lib.hid hB
  have HO := Lib.hid hO
  clear hS hB hO hsys
  go_wp2_with fail
  refine hsw.mono ?_
  rintro e w2 ⟨wb, mb2, ow, rfl, hW, hB2, hO2⟩
  have HW := Lib.hid hW
  have HB2 := Lib.hid hB2
  have HO2 := Lib.hid hO2
  clear hW hB2 hO2 hsw
  go_wp2_with fail
  go_ret2
  have hz := HB.out.size
  have hz2 := HB2.out.size
  have hS2 := HS.out.below HB2.out
  refine ⟨w2.heap.size, wb, sb, cbs, own, ow, rfl, ⟨heap_alloc_new _ _, ⟨⟨gb, nb, pb, mb, m, cv, D, tbf, hS2.below ((Below.refl _ _).alloc (Nat.le_refl _) _)⟩, ⟨mb2, 0, _, _, _, _, HW.out.below ((Below.refl _ _).alloc (Nat.le_refl _) _)⟩, fun k hk => ?_⟩, ?_, ?_⟩, by omega, (HB.out.trans (HB2.out.mono hz)).alloc (by omega) _, fun k hk => ?_⟩
  · by_cases e : own k = none
    · exact e
    · have a := HS.out.lt k e
      have b := HO2.out k hk
      omega
  · by_cases e : own w2.heap.size = none
    · exact e
    · have a := hS2.lt _ e; omega
  · by_cases e : ow w2.heap.size = none
    · exact e
    · have a := HW.out.lt _ e; omega
  · rcases hk with hk | hk
    · exact HO.out k hk
    · have := HO2.out k hk; omega

theorem wnew_err (W : World) (a : Option Addr) (n c : Nat) (hs : Calls Tryz.prog 23 #[.slice a n c] W fun e w' => e = .returned (.tuple #[.pointer none, .int .i64 1]) ∧ Below W.heap.size W w') :
    Calls Tryz.prog 11 #[.slice a n c] W fun e w' => e = .returned (.tuple #[.pointer none, .int .i64 1]) ∧ Below W.heap.size W w' := by
  go_enter Tryz.func11, Tryz.ntmps11
  go_wp2_with fail
  refine hs.mono ?_
  rintro e w1 ⟨rfl, hB⟩
  have HB := Lib.hid hB
  clear hB hs
  go_wp2_with fail
  go_ret2
  exact ⟨rfl, HB.out⟩

end Go.Proofs.YtoiajjobecinpaaGreat

namespace Go.Proofs.YtoiajjobecinpaaGreat
open Go.RowKit Go.Shelf Go.Lib Go.Proofs
set_option linter.unusedVariables false
set_option linter.unusedSimpArgs false

theorem mgood11 (W : World) : Calls Tryz.prog 99 #[.int .u16 1, .int .i64 1] W fun e w' => e = .returned (.bool true) ∧ W = w' := by
  go_enter Tryz.func99, Tryz.ntmps99
  go_wp2
  go_ret
  exact ⟨by simp, rfl⟩

theorem stake_t (b a : Nat) (w : World) (ps : List (Int × Bool)) (hs : SlotsAt w b a ps) (hz : Sized ps) (id : Int) (ps' : List (Int × Bool)) (ht : takeP ps = (id, 0, ps')) :
    Calls Tryz.prog 101 #[.pointer (some ⟨b, 0, none⟩)] w fun e w' => e = .returned (.tuple #[.int .i64 id, .int .i64 0]) ∧ SlotsAt w' b a ps' ∧ Touch (fun k => k = a) w w' := by
  cases hf : ps.findIdx? (fun p => !p.2) with
  | none =>
    unfold takeP at ht
    rw [hf] at ht
    simp at ht
  | some i =>
    unfold takeP at ht
    rw [hf] at ht
    simp only [Prod.mk.injEq, true_and] at ht
    obtain ⟨rfl, rfl⟩ := ht
    obtain ⟨hi, h1, h2⟩ := List.findIdx?_eq_some_iff_getElem.1 hf
    have htt := hz.2 i hi
    refine (stake_hit b a i w ps hz.1 hs hi ?_ ?_ _ htt.1 htt.2 rfl).mono ?_
    · rw [getD_of hi]; simpa using h1
    · intro j hj
      have := h2 j hj
      rw [getD_of (by omega)]
      simpa using this
    · rintro e w' ⟨rfl, rfl⟩
      exact ⟨rfl, hs.set i hi _ _, (touch1 _ _ _ _).self (touch1 _ _ _ _)⟩

def newTk (id w m g : Int) : Tk := ⟨id, w, g, -1, 1, m, 0⟩

theorem taskAt_new (W : World) (id w m g : Int) : TaskAt (W.alloc (.cells #[.int .i64 id, .int .i64 w, .int .i64 g, .int .i64 (-1), .int .i64 1, .int .u16 m, .int .i64 0] 60)) W.heap.size (newTk id w m g) := by
  have hh := heap_alloc_new W (.cells #[.int .i64 id, .int .i64 w, .int .i64 g, .int .i64 (-1), .int .i64 1, .int .u16 m, .int .i64 0] 60)
  refine ⟨?_, ?_, ?_, ?_, ?_, ?_, ?_, fun i => ?_⟩
  · simp only [World.cell?, hh]; rfl
  · simp only [World.cell?, hh]; rfl
  · simp only [World.cell?, hh]; rfl
  · simp only [World.cell?, hh]; rfl
  · simp only [World.cell?, hh]; rfl
  · simp only [World.cell?, hh]; rfl
  · simp only [World.cell?, hh]; rfl
  · simp only [World.frozen?, hh]; simp

open Classical in
theorem SysAt.spawn {W W1 W2 W3 : World} {sb gb nb pb mb n : Nat} {cv : Value} {D : DataW Unit} {cbs : List Nat} {tb : Int → Nat} {own : Nat → Option Own} {s : Sy} {id : Int} {t : Tk} {ps' : List (Int × Bool)}
    (h : SysAt W sb gb nb pb mb n cv D cbs tb own s) (hS : SlotsAt W1 nb pb ps') (hT : Touch (fun k => k = pb) W W1) (hB : Below W1.heap.size W1 W2) (htk : TaskAt W2 W1.heap.size t) (hz2 : W1.heap.size < W2.heap.size)
    (hm : W3.ownsMap Tryz.prog 3 rptr mb (n + 1) (D.put (.int .i64 id) (.lit (.int .i64 (W1.heap.size : Nat))))) (hg : W2.grownBy W3 (some mb)) (hnone : s.tasks id = none) :
    ∃ own' tb', SysAt W3 sb gb nb pb mb (n + 1) cv (D.put (.int .i64 id) (.lit (.int .i64 (W1.heap.size : Nat)))) cbs tb' own' ⟨s.cores, s.gs, s.acc, ps', fun x => if x = id then some t else s.tasks x, s.cnt + 1⟩ ∧
      (∀ k, own' k ≠ none → own k ≠ none ∨ W.heap.size ≤ k) ∧ Touch (fun k => own k ≠ none) W W3 := by
  have z1 := hT.size
  have z2 := hB.size
  have z3 := hg.size
  have hk : ∀ k x, own k = some x → x ≠ .places → x ≠ .map → W3.heap[k]? = W.heap[k]? := fun k x hk hx hx2 => by
    have hlt := h.lt k (by rw [hk]; simp)
    rw [hg.block k (by omega) (fun e => by simp at e; subst e; rw [h.omb] at hk; exact hx2 (by simpa using hk.symm)), hB.block k (by omega), hT.block k hlt (fun e => by subst e; rw [h.opb] at hk; exact hx (by simpa using hk.symm))]
  have bsb := hk sb _ h.osb (by simp) (by simp)
  have h0 : ∀ i, W3.cell? ⟨sb, i, none⟩ = W.cell? ⟨sb, i, none⟩ := fun i => World.cell?_of_block bsb
  have h0' : ∀ i, W3.frozen? ⟨sb, i, none⟩ = W.frozen? ⟨sb, i, none⟩ := fun i => World.frozen?_of_block bsb
  have hmb := h.lt mb (by rw [h.omb]; simp)
  have hnb := h.lt nb (by rw [h.onb]; simp)
  have hpb := h.lt pb (by rw [h.opb]; simp)
  have hown : ∀ k x, own k = some x → (if k = W1.heap.size then some (Own.task id) else own k) = some x := fun k x hk => by
    rw [if_neg (by have := h.lt k (by rw [hk]; simp); omega)]; exact hk
  have hlt' : ∀ k, (if k = W1.heap.size then some (Own.task id) else own k) ≠ none → k < W3.heap.size := fun k hk => by
    split at hk
    · omega
    · have := h.lt k hk; omega
  have hlt2 : ∀ k x, (if k = W1.heap.size then some (Own.task id) else own k) = some x → k < W3.heap.size := fun k x hk => hlt' k (by rw [hk]; simp)
  refine ⟨fun k => if k = W1.heap.size then some (.task id) else own k, fun x => if x = id then W1.heap.size else tb x,
    ⟨(h0 _).trans h.head, (h0 _).trans h.c1, fun i hi => ?_, (h0 _).trans h.c66, (h0 _).trans h.c67, fun i => (h0' i).trans (h.live i), h.groups.same (hk gb _ h.ogb (by simp) (by simp)), ?_, hm, by have := h.cnt; simp only; omega, fun x hx1 hx2 => ?_, fun x u hu => ?_,
    ownsRow_same h.row (fun k hk' => hk k _ (h.rown k hk') (by simp) (by simp)), fun k hk' => hown k _ (h.rown k hk'), h.num, fun i hi => ?_, hown _ _ h.osb, hown _ _ h.ogb, hown _ _ h.onb, hown _ _ h.opb, hown _ _ h.omb, hlt'⟩, fun k hk' => ?_, ?_⟩
  · obtain ⟨a1, a2, a3, a4⟩ := h.acc i hi
    exact ⟨(h0 _).trans a1, (h0 _).trans a2, (h0 _).trans a3, (h0 _).trans a4⟩
  · have hnm : nb ≠ mb := fun e => by have a := h.onb; rw [e, h.omb] at a; cases a
    have hpm : pb ≠ mb := fun e => by have a := h.opb; rw [e, h.omb] at a; cases a
    have e : ∀ k, k < W1.heap.size → k ≠ mb → W3.heap[k]? = W1.heap[k]? := fun k hk' hne => by rw [hg.block k (by omega) (by simpa using hne), hB.block k hk']
    exact hS.same (e nb (by omega) hnm) (e pb (by omega) hpm)
  · by_cases e : x = id
    · subst e
      simp only [if_pos]
      rw [Maps.atKey_put_same h.map.isMap (by trivial)]
    · simp only [if_neg e]
      rw [Maps.atKey_put_other (by intro c; simp only [Lit.int.injEq, true_and] at c; exact e c)]
      exact h.reads x hx1 hx2
  · by_cases e : x = id
    · subst e
      simp only [if_pos, Option.some.injEq] at hu ⊢
      subst hu
      refine ⟨htk.same (hg.block _ hz2 (fun e => by simp at e; omega)), ?_⟩
      simp
    · simp only [if_neg e] at hu ⊢
      obtain ⟨t1, t2⟩ := h.task x u hu
      exact ⟨t1.same (hk _ _ t2 (by simp) (by simp)), hown _ _ t2⟩
  · exact ((h.core i hi).same (by omega) (fun k hk' => hk k _ hk' (by simp) (by simp))).wider (fun k hk' => hown k _ hk') (fun k hk' => hlt2 k _ hk')
  · simp only at hk'
    split at hk'
    · exact .inr (by omega)
    · exact .inl hk'
  · refine ⟨hg.os.trans (hB.os.trans hT.os), hg.tape.trans (hB.tape.trans hT.tape), hg.output.trans (hB.output.trans hT.output), by omega, fun k hk1 hk2 => ?_⟩
    rw [hg.block k (by omega) (fun e => by simp at e; subst e; exact hk2 (by rw [h.omb]; simp)), hB.block k (by omega), hT.block k hk1 (fun e => by subst e; exact hk2 (by rw [h.opb]; simp))]

def SpawnP (sb : Nat) (own : Nat → Option Own) (s' : Sy) (id : Int) (W : World) (e : Ending) (w' : World) : Prop :=
  e = .returned (.tuple #[.int .i64 id, .int .i64 0]) ∧ ∃ own', SysIn w' sb own' s' ∧ (∀ k, own' k ≠ none → own k ≠ none ∨ W.heap.size ≤ k) ∧ Touch (fun k => own k ≠ none) W w'

theorem Touch.thenBelow {F : Nat → Prop} {a b c : World} (h : Touch F a b) (k : Below b.heap.size b c) : Touch F a c := h.self (Touch.of_below k)

theorem rptr_ptr (b : Nat) : rptr (.pointer (some ⟨b, 0, none⟩)) = some (.lit (.int .i64 (b : Int)), []) := rfl

set_option maxRecDepth 100000 in
set_option maxHeartbeats 2000000 in
theorem spawn_ok (sb : Nat) (own : Nat → Option Own) (s : Sy) (w id : Int) (ps' : List (Int × Bool)) (W : World) (h : SysIn W sb own s) (hw : goodW w = true) (hc : s.cores.length = 1) (hg : s.gs = topG) (hz : Sized s.ps) (ht : takeP s.ps = (id, 0, ps'))
    (hid : 0 ≤ id ∧ id ≤ 9223372036854775807) (hn : s.tasks id = none) (hcnt : s.cnt < 1000000) :
    Calls Tryz.prog 47 #[.pointer (some ⟨sb, 0, none⟩), .int .i64 w, .int .u16 1, .int .i64 0] W
      (SpawnP sb own ⟨s.cores, s.gs, s.acc, ps', fun x => if x = id then some (newTk id w 1 0) else s.tasks x, s.cnt + 1⟩ id W) := by
  obtain ⟨gb, nb, pb, mb, n, cv, D, cbs, tb, hS⟩ := h
  have hgw := wgood_any w W
  rw [hw] at hgw
  obtain ⟨a, c, hcv⟩ : ∃ a c, cv = .slice a 1 c := by
    have hl : cbs.length = 1 := hS.num.trans hc
    rcases hS.row.2 with ⟨_, h0⟩ | ⟨g, cap, cur, e, _⟩
    · omega
    · exact ⟨_, cap, by rw [e, hl]⟩
  have c0 := hS.head
  rw [hcv] at c0
  have c1 := hS.c1
  have c66 := hS.c66
  have c67 := hS.c67
  have hsb := hS.lt sb (by rw [hS.osb]; simp)
  have hdep := depth_any gb s.gs 0 [g0] W hS.groups (by rw [hg]; exact topG_path) (by simp)
  have htake := fun W' h' => stake_t nb pb W' s.ps h' hz id ps' ht
  have HS := Lib.hid hS
  have HN := Lib.hid hn
  have HCNT := Lib.hid hcnt
  obtain ⟨i1, i2⟩ := hid
  clear hS hw hc hg hz ht hn hcnt hcv
  go_enter Tryz.func47, Tryz.ntmps47
  go_wp2_with fail
  refine hgw.mono ?_
  rintro e w0 ⟨rfl, rfl⟩
  go_wp2_with fail
  refine (mgood11 _).mono ?_
  rintro e w0 ⟨rfl, rfl⟩
  go_wp2_with fail
  refine hdep.mono ?_
  rintro e w1 ⟨rfl, hb1⟩
  have hS1 := HS.out.below hb1
  have d66 := hS1.c66
  have hsb1 := hS1.lt sb (by rw [hS1.osb]; simp)
  have htake1 := htake w1 hS1.slots
  have HB1 := Lib.hid hb1
  have HS1 := Lib.hid hS1
  clear hb1 hS1
  go_wp2_with fail
  refine htake1.mono ?_
  rintro e w2 ⟨rfl, hs2, ht2⟩
  have e67 : w2.cell? ⟨sb, 67, none⟩ = some (.map (some mb)) := (World.cell?_of_block (a := ⟨sb, 67, none⟩) (ht2.block sb hsb1 (fun e => by have a := HS1.out.osb; rw [e, HS1.out.opb] at a; cases a))).trans HS1.out.c67
  have hmne : mb ≠ pb := fun e => by have a := HS1.out.omb; rw [e, HS1.out.opb] at a; cases a
  have hmb1 := HS1.out.lt mb (by rw [HS1.out.omb]; simp)
  have hmap2 := ownsMap_same HS1.out.map (ht2.block mb hmb1 hmne)
  have hsb2 : sb < w2.heap.size := Nat.lt_of_lt_of_le hsb1 ht2.size
  have hmap3 := hmap2.alloc (.cells #[.int .i64 id, .int .i64 w, .int .i64 0, .int .i64 (-1), .int .i64 1, .int .u16 1, .int .i64 0] 60)
  obtain ⟨w3, hupd, m5, m6⟩ := hmap3.update (t := 117) (e := 188) keyed3 Tryz.underlying117 (by have := HS1.out.cnt; have := HCNT.out; unfold maxLen; omega) (key3 (x := id) (by omega) (by omega)) (rptr_ptr w2.heap.size)
  obtain ⟨own', tb', h1, h2, h3⟩ := HS1.out.spawn hs2 ht2 ((Below.refl _ w2).alloc (Nat.le_refl _) _) (taskAt_new w2 id w 1 0) (by simp) m5 m6 HN.out
  have H1 := Lib.hid h1
  have H2 := Lib.hid h2
  have H3 := Lib.hid h3
  clear hs2 ht2 hmne hmb1 hmap2 hmap3 m5 m6 h1 h2 h3
  go_wp2_with fail
  go_ret2
  refine ⟨rfl, own', ⟨gb, nb, pb, mb, _, cv, _, cbs, tb', H1.out⟩, fun k hk => ?_, (Touch.of_below HB1.out).self H3.out⟩
  rcases H2.out k hk with h | h
  · exact .inl h
  · have := HB1.out.size; exact .inr (by omega)

end Go.Proofs.YtoiajjobecinpaaGreat

namespace Go.Proofs.YtoiajjobecinpaaGreat
open Go.RowKit Go.Shelf Go.Lib Go.Proofs
set_option linter.unusedVariables false
set_option linter.unusedSimpArgs false

/-- What coming to a core reads. -/
def EntC (W : World) (sb b g i n c cb : Nat) (t : Tk) : Prop :=
  (W.cell? ⟨sb, 0, none⟩ = some (.slice (some ⟨g, 0, none⟩) n c) ∧ W.cell? ⟨g, i, none⟩ = some (.pointer (some ⟨cb, 0, none⟩))) ∧
  W.cell? ⟨b, 0, none⟩ = some (.int .i64 t.id) ∧ W.cell? ⟨b, 1, none⟩ = some (.int .i64 t.w) ∧ W.cell? ⟨b, 3, none⟩ = some (.int .i64 i) ∧ W.cell? ⟨b, 6, none⟩ = some (.int .i64 t.lag)

set_option maxRecDepth 100000 in
set_option maxHeartbeats 2000000 in
theorem enter_free (sb gb nb pb mb n : Nat) (cv : Value) (D : DataW Unit) (cbs : List Nat) (tb : Int → Nat) (own : Nat → Option Own) (s : Sy) (id act : Int) (t : Tk) (x : Bool) (xs : List G16) (i : Nat) (W : World) (h : SysAt W sb gb nb pb mb n cv D cbs tb own s)
    (ht : s.tasks id = some t) (hL : IsPath s.gs t.group xs) (hheld : xs.any (spentA s) = false) (hi : t.core = (i : Int)) (hil : i < cbs.length) (hf : FitsY s) :
    Calls Tryz.prog 104 #[.pointer (some ⟨sb, 0, none⟩), .pointer (some ⟨tb id, 0, none⟩), .int .i64 act, .bool x] W fun e w' => e = .returned (.int .i64 (enterY s id t false i act x).1) ∧
      YP sb gb nb pb mb n cv D cbs tb own (enterY s id t false i act x).2 W w' := by
  obtain ⟨hT, hto⟩ := h.task id t ht
  have hsp := spent_any sb gb nb pb mb n cv D cbs tb own s (tb id) t xs W h hT hL
  rw [hheld] at hsp
  obtain ⟨g, c, hcv⟩ := h.form (by omega)
  have HCV := Lib.hid hcv
  have HS := Lib.hid h
  have HT := Lib.hid ht
  have HI := Lib.hid hi
  have HF := Lib.hid hf
  have HTO := Lib.hid hto
  have HIL := Lib.hid hil
  obtain ⟨r, hr⟩ : ∃ r, coreEnter s.cores[i]! t.id t.w t.lag x = r := ⟨_, rfl⟩
  obtain ⟨res, hres⟩ : ∃ res, enterY s id t false i act x = res := ⟨_, rfl⟩
  have hEW : res = if r.1 = 0 then (0, setTk (setCo s i r.2) id (stT t (nxt t.state act).1)) else (r.1, setCo s i r.2) := by rw [← hres]; unfold enterY; rw [hr]; simp
  have HEW := Lib.hid hEW
  rw [hres]
  obtain ⟨b, hb⟩ : ∃ b, tb id = b := ⟨_, rfl⟩
  rw [hb] at hsp ⊢
  have HBT := Lib.hid hb
  clear h ht hL hheld hT hto hcv hi hf hEW hres hb
  go_enter Tryz.func104, Tryz.ntmps104
  go_wp2_with fail
  refine hsp.mono ?_
  rintro e w1 ⟨rfl, hb1⟩
  have hS1 := HS.out.below hb1
  have hE : EntC w1 sb (tb id) g i cbs.length c cbs[i]! t := by
    have hT1 := (hS1.task id t HT.out).1
    have hcr := hT1.core
    rw [HI.out] at hcr
    refine ⟨⟨hS1.head.trans (by rw [HCV.out]), ?_⟩, hT1.id, hT1.w, hcr, hT1.lag⟩
    have := HCV.out
    subst this
    exact hS1.coreCell i hil
  have hci := hS1.core i hil
  have hfi := HF.out i (by rw [← hS1.num]; exact hil)
  have HS1 := Lib.hid hS1
  have HB1 := Lib.hid hb1
  obtain ⟨cb, hcb⟩ : ∃ cb, cbs[i]! = cb := ⟨_, rfl⟩
  rw [hcb] at hE hci
  have HCB := Lib.hid hcb
  have hce : ∀ W', W'.heap = w1.heap → Calls Tryz.prog 110 #[.pointer (some ⟨cb, 0, none⟩), .int .i64 t.id, .int .i64 t.w, .int .i64 t.lag, .bool x] W' (CEnterP cb (fun k => own k = some (.core i)) r W') := fun W' hW' => by
    rw [← hr]
    exact center_any cb _ s.cores[i]! t.id t.w t.lag x W' (hci.same (by rw [hW']; exact Nat.le_refl _) (fun k _ => by rw [hW'])) hfi
  clear hsp hci hfi hS1 hb1 hcb hr
  obtain ⟨m, hm⟩ : ∃ m, cbs.length = m := ⟨_, rfl⟩
  rw [hm] at hE hil
  have HM := Lib.hid hm
  have hi1 : (i : Int) < (m : Int) := by omega
  have hi0 : 0 ≤ (i : Int) := by omega
  rw [HBT.out] at hE
  obtain ⟨⟨k1, k2⟩, k3, k4, k5, k6⟩ := hE
  have HE : Hid (∀ W', (∀ j, own j ≠ some (.core i) → j < w1.heap.size → W'.heap[j]? = w1.heap[j]?) → EntC W' sb b g i m c cb t) := Lib.hid (fun W' hW' => by
    have hg : own g = some .row := HS1.out.rown g (by rw [HCV.out]; rfl)
    have e : ∀ j x, own j = some x → x ≠ .core i → W'.heap[j]? = w1.heap[j]? := fun j x hj hx => hW' j (by rw [hj]; simpa using hx) (HS1.out.lt j (by rw [hj]; simp))
    have e1 := e sb _ HS1.out.osb (by simp)
    have e2 := e g _ hg (by simp)
    have e3 := e b _ (by rw [← HBT.out]; exact HTO.out) (by simp)
    exact ⟨⟨(World.cell?_of_block (a := ⟨sb, 0, none⟩) e1).trans k1, (World.cell?_of_block (a := ⟨g, i, none⟩) e2).trans k2⟩, (World.cell?_of_block (a := ⟨b, 0, none⟩) e3).trans k3, (World.cell?_of_block (a := ⟨b, 1, none⟩) e3).trans k4, (World.cell?_of_block (a := ⟨b, 3, none⟩) e3).trans k5, (World.cell?_of_block (a := ⟨b, 6, none⟩) e3).trans k6⟩)
  clear hm
  go_wp2_with fail
  go_region_held3 (fun W2 => (W2.cell? ⟨sb, 0, none⟩ = some (.slice (some ⟨g, 0, none⟩) m c) ∧ W2.cell? ⟨g, i, none⟩ = some (.pointer (some ⟨cb, 0, none⟩))) ∧ W2.cell? ⟨b, 0, none⟩ = some (.int .i64 t.id) ∧ W2.cell? ⟨b, 1, none⟩ = some (.int .i64 t.w) ∧ W2.cell? ⟨b, 3, none⟩ = some (.int .i64 i) ∧ W2.cell? ⟨b, 6, none⟩ = some (.int .i64 t.lag)) (first | exact ⟨⟨k1, k2⟩, k3, k4, k5, k6⟩ | exact hE9) (first | (go_at_call 110; refine (hce w1.drew rfl).mono ?_; rintro e w9 ⟨rfl, hC9⟩; have hE9 := HE.out w9 (fun j hj hjl => hC9.choose_spec.2.1.block j hjl hj)) | fail)
  obtain ⟨F', c1, c2, c3⟩ := hC9
  have ht9 : Touch (fun k => own k = some (.core i)) w1 w9 := ((Touch.refl _ w1).drew).self c2
  obtain ⟨own', hS9, ho9⟩ := HS1.out.setCore (i := i) (by rw [HM.out]; exact hil) (by rw [HCB.out]; exact c1) ht9 (fun k hk => c3 k hk)
  have HS9 : Hid (SysAt w9 sb gb nb pb mb n cv D cbs tb own' (setCo s i r.2)) := Lib.hid hS9
  have HO9 := Lib.hid ho9
  have HT9 := Lib.hid ht9
  clear hE9 c1 c2 c3 ht9 hS9 ho9 hce k1 k2 k3 k4 k5 k6
  obtain ⟨r1, rc⟩ := r
  simp only at HS9 HEW ⊢
  by_cases hr : r1 = 0
  · subst hr
    have hT9 := HS9.out.task id t HT.out
    rw [HBT.out] at hT9
    have hbe := become_any b t act w9 hT9.1
    have HTT := Lib.hid hT9
    clear hT9
    go_wp2_with fail
    refine hbe.mono ?_
    rintro e w10 ⟨rfl, rfl⟩
    go_wp2_with fail
    go_ret
    rw [if_pos trivial] at HEW
    rw [HEW.out]
    refine ⟨rfl, own', HS9.out.setTask HT.out (by rw [HBT.out]; exact HTT.out.1.setState _) (by rw [HBT.out]; exact touch1 _ _ _ _), fun k hk => HO9.out k (Nat.lt_of_lt_of_le hk HB1.out.size), ?_⟩
    have e1 : Touch (fun k => own k ≠ none) W w9 := (Touch.of_below HB1.out).self (HT9.out.wider (fun k hk => by rw [hk]; simp))
    exact e1.self ((touch1 w9 b 4 (.int .i64 (nxt t.state act).1)).wider (fun k hk => by rw [hk, ← HBT.out, HTO.out]; simp))
  · go_wp2_with fail
    go_ret
    rw [if_neg hr] at HEW
    rw [HEW.out]
    exact ⟨rfl, own', HS9.out, fun k hk => HO9.out k (Nat.lt_of_lt_of_le hk HB1.out.size), (Touch.of_below HB1.out).self (HT9.out.wider (fun k hk => by rw [hk]; simp))⟩

end Go.Proofs.YtoiajjobecinpaaGreat

namespace Go.Proofs.YtoiajjobecinpaaGreat
open Go.RowKit Go.Shelf Go.Lib Go.Proofs
set_option linter.unusedVariables false
set_option linter.unusedSimpArgs false

theorem enter_any (sb gb nb pb mb n : Nat) (cv : Value) (D : DataW Unit) (cbs : List Nat) (tb : Int → Nat) (own : Nat → Option Own) (s : Sy) (id act : Int) (t : Tk) (x : Bool) (xs : List G16) (i : Nat) (W : World) (h : SysAt W sb gb nb pb mb n cv D cbs tb own s)
    (ht : s.tasks id = some t) (hL : IsPath s.gs t.group xs) (hi : t.core = (i : Int)) (hil : i < cbs.length) (hf : FitsY s) :
    Calls Tryz.prog 104 #[.pointer (some ⟨sb, 0, none⟩), .pointer (some ⟨tb id, 0, none⟩), .int .i64 act, .bool x] W fun e w' => e = .returned (.int .i64 (enterY s id t (xs.any (spentA s)) i act x).1) ∧
      YP sb gb nb pb mb n cv D cbs tb own (enterY s id t (xs.any (spentA s)) i act x).2 W w' := by
  cases hh : xs.any (spentA s) with
  | true => exact enter_held sb gb nb pb mb n cv D cbs tb own s id act t x xs W h ht hL hh
  | false => exact enter_free sb gb nb pb mb n cv D cbs tb own s id act t x xs i W h ht hL hh hi hil hf

def coT (t : Tk) (x : Int) : Tk := ⟨t.id, t.w, t.group, x, t.state, t.mask, t.lag⟩

theorem start_none (sb gb nb pb mb n : Nat) (cv : Value) (D : DataW Unit) (cbs : List Nat) (tb : Int → Nat) (own : Nat → Option Own) (s : Sy) (id : Int) (W : World) (h : SysAt W sb gb nb pb mb n cv D cbs tb own s)
    (h1 : -9223372036854775808 ≤ id) (h2 : id ≤ 9223372036854775807) (ht : s.tasks id = none) :
    Calls Tryz.prog 48 #[.pointer (some ⟨sb, 0, none⟩), .int .i64 id] W fun e w' => e = .returned (.int .i64 2) ∧ W = w' := by
  have hfind := find_none sb gb nb pb mb n cv D cbs tb own s id 1 W h h1 h2 ht
  clear h ht
  go_enter Tryz.func48, Tryz.ntmps48
  go_wp2_with fail
  refine hfind.mono ?_
  rintro e w' ⟨rfl, rfl⟩
  go_wp2_with fail
  go_ret
  exact ⟨rfl, rfl⟩

theorem start_err (sb gb nb pb mb n : Nat) (cv : Value) (D : DataW Unit) (cbs : List Nat) (tb : Int → Nat) (own : Nat → Option Own) (s : Sy) (id : Int) (t : Tk) (W : World) (h : SysAt W sb gb nb pb mb n cv D cbs tb own s)
    (h1 : -9223372036854775808 ≤ id) (h2 : id ≤ 9223372036854775807) (ht : s.tasks id = some t) (he : ¬ (nxt t.state 1).2 = 0) :
    Calls Tryz.prog 48 #[.pointer (some ⟨sb, 0, none⟩), .int .i64 id] W fun e w' => e = .returned (.int .i64 (nxt t.state 1).2) ∧ W = w' := by
  have hfind := find_task sb gb nb pb mb n cv D cbs tb own s id 1 t W h h1 h2 ht
  generalize (nxt t.state 1).2 = y at he hfind ⊢
  clear h ht
  go_enter Tryz.func48, Tryz.ntmps48
  go_wp2_with fail
  refine hfind.mono ?_
  rintro e w' ⟨rfl, rfl⟩
  go_wp2_with fail
  go_ret
  exact ⟨rfl, rfl⟩

set_option maxRecDepth 100000 in
set_option maxHeartbeats 2000000 in
theorem start_ok (sb gb nb pb mb n : Nat) (cv : Value) (D : DataW Unit) (cbs : List Nat) (tb : Int → Nat) (own : Nat → Option Own) (s : Sy) (id : Int) (t : Tk) (xs : List G16) (i : Nat) (W : World) (h : SysAt W sb gb nb pb mb n cv D cbs tb own s)
    (h1 : -9223372036854775808 ≤ id) (h2 : id ≤ 9223372036854775807) (ht : s.tasks id = some t) (he : (nxt t.state 1).2 = 0) (hm : 0 ≤ t.mask ∧ t.mask < 65536) (hf : FitsY s) (h0 : 0 < cbs.length) (h16 : cbs.length ≤ 16) (hL : IsPath s.gs t.group xs)
    (hi : (leastL (loadsY s) t.mask).1 = (i : Int)) (hil : i < cbs.length) (hr : (enterY (setTk s id (coT t i)) id (coT t i) (xs.any (spentA s)) i 1 false).1 = 0) :
    Calls Tryz.prog 48 #[.pointer (some ⟨sb, 0, none⟩), .int .i64 id] W fun e w' => e = .returned (.int .i64 0) ∧
      YP sb gb nb pb mb n cv D cbs tb own (enterY (setTk s id (coT t i)) id (coT t i) (xs.any (spentA s)) i 1 false).2 W w' := by
  have hfind := find_task sb gb nb pb mb n cv D cbs tb own s id 1 t W h h1 h2 ht
  rw [he] at hfind
  obtain ⟨hT, hto⟩ := h.task id t ht
  obtain ⟨b, hb⟩ : ∃ b, tb id = b := ⟨_, rfl⟩
  rw [hb] at hfind hT hto
  have hTlt := World.block_lt_of_cell? _ _ hT.id
  have q0 := hT.id
  have q1 := hT.w
  have q2 := hT.group
  have q3 := hT.core
  have q4 := hT.state
  have q5 := hT.mask
  have q6 := hT.lag
  have HBT := Lib.hid hb
  have HS := Lib.hid h
  have HT := Lib.hid ht
  have HF := Lib.hid hf
  have HTO := Lib.hid hto
  have HL := Lib.hid hL
  have HI := Lib.hid hi
  have HR := Lib.hid hr
  have HM := Lib.hid hm
  have H0 := Lib.hid (And.intro h0 h16)
  obtain ⟨res, hres⟩ : ∃ res, (enterY (setTk s id (coT t i)) id (coT t i) (xs.any (spentA s)) i 1 false).2 = res := ⟨_, rfl⟩
  rw [hres]
  have HRES := Lib.hid hres
  clear h ht hb hto hf hL hi hr hm h0 h16 hres he
  go_enter Tryz.func48, Tryz.ntmps48
  go_wp2_with fail
  refine hfind.mono ?_
  rintro e w' ⟨rfl, rfl⟩
  clear hfind
  go_wp2_with fail
  have hB0 : Below W.heap.size W (W.alloc (.cells #[.int .i64 t.id, .int .i64 t.w, .int .i64 t.group, .int .i64 t.core, .int .i64 t.state, .int .u16 t.mask, .int .i64 t.lag] 60)) := (Below.refl _ _).alloc (Nat.le_refl _) _
  have hleast := yleast_any sb gb nb pb mb n cv D cbs tb own s t.mask _ (HS.out.below hB0) HF.out H0.out.1 H0.out.2 HM.out
  rw [HI.out] at hleast
  refine hleast.mono ?_
  rintro e w1 ⟨rfl, hb1⟩
  have hBW : Below W.heap.size W w1 := hB0.trans (hb1.mono hB0.size)
  have hS1 := HS.out.below hBW
  have hT1 := (hS1.task id t HT.out).1
  rw [HBT.out] at hT1
  have c3 := hT1.core
  have f3 := hT1.live 3
  have hS2 : SysAt (w1.setCell ⟨b, 3, none⟩ (.int .i64 i)) sb gb nb pb mb n cv D cbs tb own (setTk s id (coT t i)) := hS1.setTask HT.out (by rw [HBT.out]; exact hT1.setCore i) (by rw [HBT.out]; exact touch1 _ _ _ _)
  have hent := enter_any sb gb nb pb mb n cv D cbs tb own (setTk s id (coT t i)) id 1 (coT t i) false xs i _ hS2 (by simp [setTk]) HL.out rfl hil HF.out
  rw [show xs.any (spentA (setTk s id (coT t i))) = xs.any (spentA s) from rfl, HR.out, HRES.out, HBT.out] at hent
  have HBW := Lib.hid hBW
  clear hleast hb1 hS1 hT1 hS2 hB0 hBW
  go_wp2_with fail
  refine hent.mono ?_
  rintro e w2 ⟨rfl, own', hS3, ho3, ht3⟩
  go_wp2_with fail
  go_ret
  have e1 : Touch (fun k => own k ≠ none) W (w1.setCell ⟨b, 3, none⟩ (.int .i64 i)) := (Touch.of_below HBW.out).self ((touch1 w1 b 3 (.int .i64 i)).wider (fun k hk => by rw [hk, HTO.out]; simp))
  exact ⟨rfl, own', hS3, fun k hk => ho3 k (Nat.lt_of_lt_of_le hk e1.size), e1.self ht3⟩

end Go.Proofs.YtoiajjobecinpaaGreat
