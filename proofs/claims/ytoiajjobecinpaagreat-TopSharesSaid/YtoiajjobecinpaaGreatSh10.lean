/- A form out of bytes. An item told. -/
import Derived.BigQuiet
import Derived.Test.YtoiajjobecinpaaGreatRows
import Derived.WalkKit
import Derived.ProofKit
import Derived.Below
import Derived.Lib.Hide
import Derived.Laws.AppendOwn
import Derived.Shelf.SlicesQ.IndexFunc
import Derived.Ground.SlgfProg
import Derived.Deep.QuietTactic
import Derived.Deep.DeepCutAuto
import Derived.Deep.RegionHeld3
import Derived.Ground.SlsfProg
import Derived.Deep.AppendLies
import Derived.Deep.RegionLaw
import Derived.Lib.SlBy
import Derived.StillTail
import Derived.Shelf.Bits.Mul64
import Derived.Shelf.Spec.BitsCarry
import Derived.Shelf.Lay
import Derived.Ground.NamesProg
import Derived.Ground.Names7Prog
import Derived.Lib.SliceRun
import Derived.Laws.BytesArg
import Derived.Shelf.Bytes.SlEqualAll
import Derived.WalkSmall
import Derived.OwnWalk
import Derived.Shelf.SlicesQ.Equal
import Derived.Laws.StructEq
import Derived.Ground.SlgqProg
import Derived.Test.YtoiajjobecinpaaGreatSh09

namespace Go.Proofs.YtoiajjobecinpaaGreat
open Go.RowKit Go.Shelf Go.Lib Go.Proofs
set_option linter.unusedVariables false
set_option linter.unusedSimpArgs false
attribute [local go_sem] Oper.semAt_some

set_option maxRecDepth 100000 in
theorem csize_any (n : Nat) (w : World) (hn : n ≤ 1000) : Calls Tryz.prog 232 #[.int .i64 n] w fun e W' => e = .returned (.int .i64 ((13 * n + 13 : Nat) : Int)) ∧ w = W' := by
  have h1 : (0 : Int) ≤ n := by omega
  have h2 : (n : Int) ≤ 1000 := by omega
  go_enter Tryz.func232, Tryz.ntmps232
  go_wp2
  go_ret
  exact ⟨congrArg (fun x => Ending.returned (.int .i64 x)) (by push_cast; omega), rfl⟩

/-- A box of a form. -/
def RBox (W : World) (H : Nat) (x y : Value) : Prop := W.heap[H]? = some (.cells #[x, y] 70 (0, 0))

theorem RBox.below {W W' : World} {H B : Nat} {x y : Value} (h : RBox W H x y) (hb : Below B W W') (hH : H < B) : RBox W' H x y := (hb.block H hH).trans h
theorem RBox.lt {W : World} {H : Nat} {x y : Value} (h : RBox W H x y) : H < W.heap.size := (Array.getElem?_eq_some_iff.1 h).1
theorem RBox.alloc {W : World} {H : Nat} {x y : Value} (h : RBox W H x y) (o : Obj) : RBox (W.alloc o) H x y := (Below.heap_alloc _ _ _ h.lt).trans h
theorem RBox.cells {W : World} {H : Nat} {x y : Value} (h : RBox W H x y) : W.cell? ⟨H, 0, none⟩ = some x ∧ W.cell? ⟨H, 1, none⟩ = some y ∧ W.frozen? ⟨H, 0, none⟩ = false ∧ W.frozen? ⟨H, 1, none⟩ = false := by
  unfold RBox at h
  refine ⟨by simp only [World.cell?, h]; rfl, by simp only [World.cell?, h]; rfl, by simp only [World.frozen?, h]; simp, by simp only [World.frozen?, h]; simp⟩
theorem RBox.set {W : World} {H : Nat} {x y : Value} (h : RBox W H x y) (x' y' : Value) :
    ((W.setCell ⟨H, 0, none⟩ x').setCell ⟨H, 1, none⟩ y').cell? ⟨H, 0, none⟩ = some x' ∧ ((W.setCell ⟨H, 0, none⟩ x').setCell ⟨H, 1, none⟩ y').cell? ⟨H, 1, none⟩ = some y' := by
  obtain ⟨c0, c1, -, -⟩ := h.cells
  exact ⟨by rw [cell_setCell_ne _ (by simp)]; exact World.cell?_setCell_same _ _ _ c0, World.cell?_setCell_same _ _ _ (by rw [cell_setCell_ne _ (by simp)]; exact c1)⟩
theorem rbox_new (W : World) (x y : Value) : RBox (W.alloc (.cells #[x, y] 70)) W.heap.size x y := heap_alloc_new _ _

theorem sl_tail (W : World) (a : Option Addr) (n c k : Nat) (h : BSl W a n) (hk : k ≤ n) (hc : n ≤ c) :
    ∃ a', (∀ W0, BSl W0 a n → BSl W0 a' (n - k)) ∧ ∀ w, (Instr.slice 257 (.slice a n c) (some (.int .i64 k)) none none).run Tryz.prog w = .ok (.slice a' (n - k) (c - k)) w := by
  have hkn : (0 : Int) ≤ (k : Int) := by omega
  have hkn2 : (k : Int) ≤ (n : Int) := by omega
  have ht : Tryz.prog.underlying 257 = some (.slice 5) := Tryz.underlying257
  have ht' : Tryz.prog.underlying 257 = some (.slice (Tryz.prog.elem 257)) := by simp [Program.elem, ht]
  have he : Tryz.prog.elem 257 = 5 := by simp [Program.elem, ht]
  have hrun : ∀ w, (Instr.slice 257 (.slice a n c) (some (.int .i64 k)) none none).run Tryz.prog w = .ok (.slice (if c = k then a else a.map (·.add k)) (n - k) (c - k)) w := fun w => by
    rw [run_slice_l w 257 _ _ _ ht' .i64 _ hkn hkn2, he, Tryz.sizeOf5]
    simp [Result.andThen, sliced]
  refine ⟨_, ?_, hrun⟩
  by_cases e : n - k = 0
  · intro W0 _; rw [e]; exact BSl.none _ _
  · obtain ⟨g, i, x, rfl, -⟩ := h.get 0 (by omega)
    rw [if_neg (by omega)]
    intro W0 h0
    have := h0.tail k hk
    show BSl W0 (some ((⟨g, i, none⟩ : Addr).add k)) (n - k)
    rw [Addr.add_lit]
    exact this

theorem FormAt.same {W W' : World} {H B : Nat} {cur : Int} {v : Value} {its : List It} (h : FormAt W H B cur v its) (h0 : W'.heap[B]? = W.heap[B]?) (hb : ∀ k, v.ownBlock = some k → W'.heap[k]? = W.heap[k]?) : FormAt W' H B cur v its :=
  ⟨(World.cell?_of_block (a := ⟨B, 0, none⟩) h0).trans h.cur, (World.cell?_of_block (a := ⟨B, 1, none⟩) h0).trans h.sl, fun i => (World.frozen?_of_block (a := ⟨B, i, none⟩) h0).trans (h.live i), ownsRow_same h.row hb, h.ne⟩
theorem FormAt.below {W W' : World} {H B : Nat} {cur : Int} {v : Value} {its : List It} (h : FormAt W H B cur v its) (hb : Below W.heap.size W W') : FormAt W' H B cur v its :=
  h.same (hb.block B (World.block_lt_of_cell? W _ h.cur)) (fun k hk => hb.block k (h.row.lt k hk).2)

theorem formAt_new (W : World) (x : Int) : FormAt (W.alloc (.cells #[.int .i64 x, .slice none 0 0] 70)) (W.heap.size + 1) W.heap.size x (.slice none 0 0) [] := by
  have h := heap_alloc_new W (.cells #[.int .i64 x, .slice none 0 0] 70)
  exact ⟨by simp only [World.cell?, h]; rfl, by simp only [World.cell?, h]; rfl, fun i => by simp only [World.frozen?, h]; simp, World.ownsRow_nil .., by simp [Value.ownBlock]⟩

theorem FormAt.snoc {W w4 : World} {H B : Nat} {cur : Int} {v : Value} {its : List It} {o : Obj} {k g cap : Nat} {i ww lag : Int} (h : FormAt W H B cur v its) (hH : B < H) (hHW : H ≤ W.heap.size) (hk : its.length = k) (hg : (W.alloc o).grownBy w4 v.ownBlock)
    (hown : w4.ownsRow H 77 3 (.slice (some ⟨g, 0, none⟩) (k + 1) cap) (k + 1) (flatI its ++ [.int .i64 i, .int .i64 ww, .int .i64 lag])) :
    w4.cell? ⟨B, 1, none⟩ = some v ∧ w4.frozen? ⟨B, 1, none⟩ = false ∧ FormAt (w4.setCell ⟨B, 1, none⟩ (.slice (some ⟨g, 0, none⟩) (k + 1) cap)) H B cur (.slice (some ⟨g, 0, none⟩) (k + 1) cap) (its ++ [⟨i, ww, lag⟩]) := by
  have hlt : B < W.heap.size := by omega
  have hb : w4.heap[B]? = W.heap[B]? := (hg.block B (by simp; omega) (fun e => h.ne e.symm)).trans (Below.heap_alloc _ _ _ hlt)
  have hgB : H ≤ g := (hown.lt g rfl).1
  have c1 := (World.cell?_of_block (a := ⟨B, 1, none⟩) hb).trans h.sl
  refine ⟨c1, (World.frozen?_of_block (a := ⟨B, 1, none⟩) hb).trans (h.live 1), ?_, World.cell?_setCell_same _ _ _ c1, fun j => ?_, ?_, by intro e; simp [Value.ownBlock] at e; omega⟩
  · rw [cell_setCell_ne _ (by simp)]
    exact (World.cell?_of_block (a := ⟨B, 0, none⟩) hb).trans h.cur
  · rw [World.frozen?_setCell]
    exact (World.frozen?_of_block (a := ⟨B, j, none⟩) hb).trans (h.live j)
  · refine ownsRow_same (W := w4) ?_ (fun j hj => Below.heap_setCell _ _ _ _ (by simp [Value.ownBlock] at hj; subst hj; simp; omega))
    rw [flatI_append, List.length_append, hk]
    simpa [flatI, It.cells] using hown

def lenB : Value → Nat | .slice _ n _ => n | _ => 0

/-- A form out of bytes. -/
def GetP (w : World) (e : Ending) (W' : World) : Prop :=
  ∃ (tag cur : Int) (v : Value) (its : List It) (er : Int), e = .returned (.tuple #[.int .i64 tag, .agg #[.int .i64 cur, v], .int .i64 er]) ∧ its.length ≤ 255 ∧ W'.ownsRow w.heap.size 77 3 v its.length (flatI its) ∧ Below w.heap.size w W'

set_option maxRecDepth 100000 in
set_option maxHeartbeats 4000000 in
theorem cget_any (a : Option Addr) (n c : Nat) (w : World) (h : BSl w a n) (hn : n ≤ 50000) (hc : n ≤ c) (hcm : c ≤ 9223372036854775807) :
    Calls Tryz.prog 218 #[.slice a n c] w (GetP w) := by
  obtain ⟨j0, hj, hj0, hj1, hj2⟩ := info_parts info77
  have hopen := open_any a n c _ (h.alloc (.cells #[.int .i64 0, .slice none 0 0] 70)) hn hc hcm
  have HW0 : Hid (Below w.heap.size w (w.alloc (.cells #[.int .i64 0, .slice none 0 0] 70))) := Lib.hid ((Below.refl _ w).alloc (Nat.le_refl _) _)
  clear h
  go_enter Tryz.func218, Tryz.ntmps218
  go_wp2_with fail
  refine hopen.mono ?_
  rintro e w1 ⟨a1, m, c1, vv, er, rfl, hm, hmc, hcm1, hs1, hb1⟩
  have hR : RBox w1 w.heap.size (.int .i64 0) (.slice none 0 0) := (rbox_new w _ _).below hb1 (by simp)
  have HB1 : Hid (Below (w.heap.size + 1) (w.alloc (.cells #[.int .i64 0, .slice none 0 0] 70)) w1) := Lib.hid (hb1.mono (by simp))
  obtain ⟨r0, r1, r2, r3⟩ := hR.cells
  obtain ⟨g0, g1⟩ := hR.set (.int .i64 0) (.slice none 0 0)
  have HG0 := Lib.hid g0
  have HG1 := Lib.hid g1
  have HRB := Lib.hid hR
  have HS1 := Lib.hid hs1
  have HB1w : Hid (Below w.heap.size w ((w1.setCell ⟨w.heap.size, 0, none⟩ (.int .i64 0)).setCell ⟨w.heap.size, 1, none⟩ (.slice none 0 0))) := Lib.hid (((HW0.out.trans (HB1.out.mono (by omega))).setCell (by simp) _).setCell (by simp) _)
  have hz1 := HB1.out.size
  simp only [World.size_alloc] at hz1
  clear hb1 hR g0 g1 hs1 hopen
  cases her : (er != 0) with
  | true =>
    go_wp2_with fail
    exact bodyPost_ret (v := .tuple #[.int .i64 0, .agg #[.int .i64 0, .slice none 0 0], .int .i64 er]) (by simp [results, Tryz.results218, go_sem, HG0.out, HG1.out]) rfl ⟨_, _, _, [], _, rfl, by simp, World.ownsRow_nil .., HB1w.out⟩
  | false =>
    cases hvv : (vv != 3) with
    | true =>
      go_wp2_with fail
      exact bodyPost_ret (v := .tuple #[.int .i64 0, .agg #[.int .i64 0, .slice none 0 0], .int .i64 10]) (by simp [results, Tryz.results218, go_sem, HG0.out, HG1.out]) rfl ⟨_, _, _, [], _, rfl, by simp, World.ownsRow_nil .., HB1w.out⟩
    | false =>
      by_cases h6 : m < 6
      · have d6 : decide ((m : Int) < 6) = true := decide_eq_true (by omega)
        go_wp2_with fail
        exact bodyPost_ret (v := .tuple #[.int .i64 0, .agg #[.int .i64 0, .slice none 0 0], .int .i64 8]) (by simp [results, Tryz.results218, go_sem, HG0.out, HG1.out]) rfl ⟨_, _, _, [], _, rfl, by simp, World.ownsRow_nil .., HB1w.out⟩
      · have d6 : decide ((m : Int) < 6) = false := decide_eq_false (by omega)
        obtain ⟨g, i, x5, rfl, hx0, hx1, hx5⟩ := HS1.out.get 5 (by omega)
        obtain ⟨N, rfl⟩ : ∃ N : Nat, x5 = N := ⟨x5.toNat, by omega⟩
        have h5m : (5 : Int) < m := by omega
        have hsz := csize_any N w1 (by omega)
        go_wp2_with fail
        refine hsz.mono ?_
        rintro e w2 ⟨rfl, rfl⟩
        cases hmm : ((m : Int) != ((13 * N + 13 : Nat) : Int) - 3 - 4) with
        | true =>
          go_wp2_with fail
          exact bodyPost_ret (v := .tuple #[.int .i64 0, .agg #[.int .i64 0, .slice none 0 0], .int .i64 8]) (by simp [results, Tryz.results218, go_sem, HG0.out, HG1.out]) rfl ⟨_, _, _, [], _, rfl, by simp, World.ownsRow_nil .., HB1w.out⟩
        | false =>
          have hm6 : m = 13 * N + 6 := by simp at hmm; omega
          obtain ⟨g', i', x00, e, -, -, hx00⟩ := HS1.out.get 0 (by omega)
          cases e
          rw [Nat.add_zero] at hx00
          subst hm6
          have hs2 : BSl w1 (some ⟨g, i + 1, none⟩) (13 * N + 5) := HS1.out.tail 1 (by omega)
          have hmm2 : (((13 * N + 6 : Nat) : Int) != 13 * (N : Int) + 13 - 3 - 4) = false := by rw [← hmm]; push_cast; rfl
          clear hx5 hmm
          go_wp2_with fail
          refine (read_any (some ⟨g, i + 1, none⟩) (13 * N + 5) (c1 - 1) 4 _ hs2 (by omega) (by omega) (by omega) (by omega) (by omega)).mono ?_
          rintro e w3 ⟨cu, a3, rfl, hs3, hb3⟩
          replace hs3 := hs3 w3 (hs2.below hb3)
          rw [show 13 * N + 5 - 4 = 13 * N + 1 from by omega] at hs3 ⊢
          obtain ⟨c3, hc3⟩ : ∃ c3, c1 - 1 - 4 = c3 := ⟨_, rfl⟩
          rw [hc3]
          obtain ⟨a4, hs4, hsl4⟩ := sl_tail w3 a3 (13 * N + 1) c3 1 hs3 (by omega) (by omega)
          replace hs4 := hs4 w3 hs3
          rw [show 13 * N + 1 - 1 = 13 * N from by omega] at hs4 hsl4
          rw [show ((1 : Nat) : Int) = 1 from rfl] at hsl4
          have hz3 := hb3.size
          have HS4 := Lib.hid hs4
          have HR3 : Hid (RBox w3 w.heap.size (.int .i64 0) (.slice none 0 0)) := Lib.hid (HRB.out.below hb3 HRB.out.lt)
          have HB3 : Hid (Below (w.heap.size + 1) (w.alloc (.cells #[.int .i64 0, .slice none 0 0] 70)) w3) := Lib.hid (HB1.out.trans (hb3.mono hz1))
          have hc3b : 13 * N + 1 ≤ c3 ∧ c3 ≤ 9223372036854775807 := by omega
          clear hs2 hs3 hb3 hs4 HS1 HG0 HG1 HRB HB1w r0 r1 r2 r3 hsz hx00 hc3
          go_wp2_with fail
          have hF0 := fun x => formAt_new w3 x
          go_loopw [0] (fun b wr => ∃ (k : Nat) (its : List It) (a' : Option Addr) (c' : Nat) (v : Value) (cu2 : Int), k ≤ N ∧ b = .slice a' (13 * (N - k)) c' ∧ 13 * (N - k) ≤ c' ∧ c' ≤ 9223372036854775807 ∧ its.length = k ∧ Hid (BSl w3 a' (13 * (N - k))) ∧ Hid (FormAt wr (w3.heap.size + 1) w3.heap.size cu2 v its) ∧ Hid (Below w3.heap.size w3 wr) ∧ w3.heap.size + 1 ≤ wr.heap.size) (fun b _ => lenB b)
          case atStart => exact ⟨0, [], _, _, _, _, Nat.zero_le _, rfl, by omega, by omega, rfl, HS4, Lib.hid (hF0 _), Lib.hid ((Below.refl _ _).alloc (Nat.le_refl _) _), by simp⟩
          case round =>
            obtain ⟨k, its, a', c', v, cu2, hk, rfl, hc1', hc2', hik, HS, HF, HB, hzr⟩ := hrel
            have HIK := Lib.hid hik
            clear hik
            by_cases hkN : k < N
            · obtain ⟨q, hq⟩ : ∃ q, N - k = q + 1 := ⟨N - k - 1, by omega⟩
              have HQ := Lib.hid hq
              rw [hq] at HS hc1' ⊢
              have hq0 : (0 : Int) < ((13 * (q + 1) : Nat) : Int) := by omega
              have hqN : q < N := by omega
              clear hq
              go_wp2_with fail
              refine (read_any a' (13 * (q + 1)) c' 4 _ (HS.out.below HB.out) (by omega) (by omega) (by omega) (by omega) (by omega)).mono ?_
              rintro e w4 ⟨y1, a4', rfl, hs4, hb4⟩
              replace hs4 := hs4 w3 HS.out
              rw [show 13 * (q + 1) - 4 = 13 * q + 9 from by omega] at hs4 ⊢
              obtain ⟨c4, hc4⟩ : ∃ c4, c' - 4 = c4 := ⟨_, rfl⟩
              rw [hc4]
              have hz4 := hb4.size
              have HB4 := Lib.hid hb4
              have hc4b : 13 * q + 9 ≤ c4 ∧ c4 ≤ 9223372036854775807 := by omega
              clear hc4 hb4
              go_wp2_with fail
              refine (read_any a4' (13 * q + 9) c4 1 _ (hs4.below (HB.out.trans (HB4.out.mono (by omega)))) (by omega) (by omega) (by omega) (by omega) (by omega)).mono ?_
              rintro e w5 ⟨y2, a5', rfl, hs5, hb5⟩
              replace hs5 := hs5 w3 hs4
              rw [show 13 * q + 9 - 1 = 13 * q + 8 from by omega] at hs5 ⊢
              obtain ⟨c5, hc5⟩ : ∃ c5, c4 - 1 = c5 := ⟨_, rfl⟩
              rw [hc5]
              have hz5 := hb5.size
              have HB5 := Lib.hid hb5
              have hc5b : 13 * q + 8 ≤ c5 ∧ c5 ≤ 9223372036854775807 := by omega
              clear hc5 hb5 hs4
              go_wp2_with fail
              refine (read_any a5' (13 * q + 8) c5 8 _ (hs5.below ((HB.out.trans (HB4.out.mono (by omega))).trans (HB5.out.mono (by omega)))) (by omega) (by omega) (by omega) (by omega) (by omega)).mono ?_
              rintro e w6 ⟨y3, a6', rfl, hs6, hb6⟩
              replace hs6 := hs6 w3 hs5
              rw [show 13 * q + 8 - 8 = 13 * q from by omega] at hs6 ⊢
              obtain ⟨c6, hc6⟩ : ∃ c6, c5 - 8 = c6 := ⟨_, rfl⟩
              rw [hc6]
              have hz6 := hb6.size
              have HB6 : Hid (Below wr.heap.size wr w6) := Lib.hid ((HB4.out.trans (HB5.out.mono hz4)).trans (hb6.mono (by omega)))
              have hc6b : 13 * q ≤ c6 ∧ c6 ≤ 9223372036854775807 := by omega
              have hF6 := HF.out.below HB6.out
              have HF6 := Lib.hid hF6
              have HS6 := Lib.hid hs6
              have e1 := hF6.sl
              have hrow := hF6.row
              rw [HIK.out] at hrow
              clear hc6 hb6 hs5 hs6 hF6 hF0
              go_wp2_with (at_builtin; refine wpList_append_lies _ rfl _ _ 68 rfl (w3.heap.size + 1) 77 j0 (.agg #[.int .i64 0, .int .i64 0, .int .i64 0]) 3 24 Tryz.underlying68 hj hj0 hj1 hj2 rfl (by decide) _ k _ rfl (hrow.alloc _) ⟨w6.heap.size, 0, none⟩ 1 1 [_, _, _] rfl rfl (World.news_of_block (heap_alloc_new w6 _)) (by simp [Value.oneCell']) (by omega) (by unfold maxLen; omega) (by omega) (by simp; omega) (w6.heap.size + 1) (by simp) ?_; intro g7 cap7 w7 hown7 hgrow7 hat7 hlt7; obtain ⟨k1, k2, hF7⟩ := FormAt.snoc HF6.out (by omega) (by omega) HIK.out hgrow7 hown7)
              have hz7 : w6.heap.size + 1 ≤ w7.heap.size := by have := hgrow7.size; simpa using this
              have HB7 : Hid (Below w3.heap.size w3 (w7.setCell ⟨w3.heap.size, 1, none⟩ (.slice (some ⟨g7, 0, none⟩) (k + 1) cap7))) := Lib.hid ((((HB.out.trans (HB6.out.mono (by omega))).alloc (by omega) _).grown hgrow7 (by simp; omega) (fun j hj => by have := (hrow.lt j hj).1; omega)).setCell (by simp) _)
              have HF7 := Lib.hid hF7
              clear hown7 hgrow7 hat7 hlt7 hF7 hrow k1 k2 e1
              go_roundw
              case rel => exact ⟨k + 1, its ++ [⟨y1, y2, y3⟩], _, _, _, _, hkN, by rw [show N - (k + 1) = q from by have := HQ.out; omega], by rw [show N - (k + 1) = q from by have := HQ.out; omega]; omega, by omega, by simp [HIK.out], by rw [show N - (k + 1) = q from by have := HQ.out; omega]; exact HS6, HF7, HB7, by simp; omega⟩
              case measure => simp [lenB]
            · obtain rfl : k = N := by omega
              have hk0 : ¬ (0 : Int) < ((13 * (k - k) : Nat) : Int) := by simp
              have hF := HF.out
              obtain ⟨fa, fc, hvf⟩ : ∃ fa fc, v = .slice fa its.length fc := by
                rcases hF.row.2 with ⟨e, h0⟩ | ⟨g', cap, cur', e, _⟩
                · exact ⟨none, 0, by rw [e, h0]⟩
                · exact ⟨_, _, e⟩
              have hfsl : FSl wr v its := FSl.of hF.row
              have e0 := hF.cur
              have e1 := hF.sl
              have hcg := fun tag => cgood_any tag cu2 v its wr hfsl (by rw [HIK.out]; omega)
              have hFl : w3.heap.size < wr.heap.size := by omega
              have HROW := Lib.hid hF.row
              have hbw : Below (w.heap.size + 1) (w.alloc (.cells #[.int .i64 0, .slice none 0 0] 70)) wr := HB3.out.trans (HB.out.mono (by omega))
              have HRW : Hid (RBox wr w.heap.size (.int .i64 0) (.slice none 0 0)) := Lib.hid (HR3.out.below HB.out (by omega))
              have HBW := Lib.hid hbw
              have hl255 : its.length ≤ 255 := by rw [HIK.out]; omega
              subst hvf
              rw [show 13 * (k - k) = 0 from by simp]
              clear hF hF0 hbw hk0 hfsl hsl4 HS HF HS4
              go_wp2_with fail
              refine (hcg _).mono ?_
              rintro e w8 ⟨b, rfl, -, hb8⟩
              have hz8 := hb8.size
              have HR8 : Hid (RBox w8 w.heap.size (.int .i64 0) (.slice none 0 0)) := Lib.hid (HRW.out.below hb8 HRW.out.lt)
              have k0 := (hb8.cell (p := ⟨w3.heap.size, 0, none⟩) hFl).trans e0
              have k1 := (hb8.cell (p := ⟨w3.heap.size, 1, none⟩) hFl).trans e1
              have HBW8 : Hid (Below w.heap.size w w8) := Lib.hid (HW0.out.trans ((HBW.out.trans (hb8.mono (by omega))).mono (by omega)))
              have HROW8 : Hid (w8.ownsRow (w3.heap.size + 1) 77 3 (.slice fa its.length fc) its.length (flatI its)) := Lib.hid (ownsRow_same HROW.out (fun j hj => hb8.block j (HROW.out.lt j hj).2))
              obtain ⟨r0, r1, r2, r3⟩ := HR8.out.cells
              clear e0 e1 hb8 hcg HROW HRW HBW
              cases b with
              | false =>
                obtain ⟨g0, g1⟩ := HR8.out.set (.int .i64 0) (.slice none 0 0)
                have HG0 := Lib.hid g0
                have HG1 := Lib.hid g1
                clear g0 g1
                go_wp2_with fail
                exact bodyPost_ret (v := .tuple #[.int .i64 0, .agg #[.int .i64 0, .slice none 0 0], .int .i64 11]) (by simp [results, Tryz.results218, go_sem, HG0.out, HG1.out]) rfl ⟨_, _, _, [], _, rfl, by simp, World.ownsRow_nil .., (HBW8.out.setCell (by simp) _).setCell (by simp) _⟩
              | true =>
                obtain ⟨g0, g1⟩ := HR8.out.set (.int .i64 cu2) (.slice fa its.length fc)
                have HG0 := Lib.hid g0
                have HG1 := Lib.hid g1
                clear g0 g1
                go_wp2_with fail
                have hrowF : ((w8.setCell ⟨w.heap.size, 0, none⟩ (.int .i64 cu2)).setCell ⟨w.heap.size, 1, none⟩ (.slice fa its.length fc)).ownsRow w.heap.size 77 3 (.slice fa its.length fc) its.length (flatI its) :=
                  ownsRow_base (ownsRow_same HROW8.out (fun j hj => by have := (HROW8.out.lt j hj).1; rw [Below.heap_setCell _ _ _ _ (by simp; omega), Below.heap_setCell _ _ _ _ (by simp; omega)])) (by omega)
                have HROWF := Lib.hid hrowF
                clear hrowF
                go_region
                all_goals (go_wp2_with fail; exact bodyPost_ret (v := .tuple #[.int .i64 (wrap64 x00), .agg #[.int .i64 cu2, .slice fa its.length fc], .int .i64 0]) (by simp [results, Tryz.results218, go_sem, HG0.out, HG1.out]) rfl ⟨_, _, _, its, _, rfl, hl255, HROWF.out, ((HBW8.out.setCell (by simp) _).setCell (by simp) _).drew⟩)

end Go.Proofs.YtoiajjobecinpaaGreat

namespace Go.Proofs.YtoiajjobecinpaaGreat
open Go.RowKit Go.Shelf Go.Lib Go.Proofs
set_option linter.unusedVariables false
set_option linter.unusedSimpArgs false
attribute [local go_sem] Oper.semAt_some

theorem posI_cases (ps : List It) (id : Int) :
    (posI ps id = -1 ∧ ∀ p ∈ ps, p.id ≠ id) ∨ ∃ k, ∃ h : k < ps.length, posI ps id = (k : Int) ∧ ps[k].id = id ∧ ∀ j (hj : j < k), ps[j].id ≠ id := by
  unfold posI Lib.idxBy
  have gen : ∀ (ps : List It) (i : Nat), (Lib.idxByFrom (fun _ y => decide (y.id = id)) default ps i = -1 ∧ ∀ p ∈ ps, p.id ≠ id) ∨
      ∃ k, ∃ h : k < ps.length, Lib.idxByFrom (fun _ y => decide (y.id = id)) default ps i = ((i + k : Nat) : Int) ∧ ps[k].id = id ∧ ∀ j (hj : j < k), ps[j].id ≠ id := by
    intro ps
    induction ps with
    | nil => intro i; exact .inl ⟨rfl, by simp⟩
    | cons p l ih =>
      intro i
      by_cases e : p.id = id
      · exact .inr ⟨0, by simp, by simp [Lib.idxByFrom, e], e, fun j hj => absurd hj (Nat.not_lt_zero _)⟩
      · have hstep : Lib.idxByFrom (fun _ (y : It) => decide (y.id = id)) default (p :: l) i = Lib.idxByFrom (fun _ y => decide (y.id = id)) default l (i + 1) := by simp [Lib.idxByFrom, e]
        rcases ih (i + 1) with ⟨h1, h2⟩ | ⟨k, hk, h1, h2, h3⟩
        · refine .inl ⟨hstep.trans h1, ?_⟩
          intro q hq
          rcases List.mem_cons.1 hq with rfl | hq
          · exact e
          · exact h2 q hq
        · refine .inr ⟨k + 1, by simpa using hk, hstep.trans (h1.trans (by congr 1; omega)), by simpa using h2, ?_⟩
          intro j hj
          cases j with
          | zero => simpa using e
          | succ j => simpa using h3 j (by omega)
  rcases gen ps 0 with h | ⟨k, hk, h1, h2⟩
  · exact .inl h
  · exact .inr ⟨k, hk, by simpa using h1, h2⟩

/-- The item of a task; nothing, if there is none. -/
def itemI (its : List It) (id : Int) : It := if 0 ≤ posI its id then its[(posI its id).toNat]! else ⟨0, 0, 0⟩

/-- A box of an item. -/
def IBox (W : World) (H : Nat) (x : It) : Prop := W.heap[H]? = some (.cells x.cells.toArray 77 (0, 0))
theorem IBox.below {W W' : World} {H B : Nat} {x : It} (h : IBox W H x) (hb : Below B W W') (hH : H < B) : IBox W' H x := (hb.block H hH).trans h
theorem IBox.lt {W : World} {H : Nat} {x : It} (h : IBox W H x) : H < W.heap.size := (Array.getElem?_eq_some_iff.1 h).1
theorem IBox.alloc {W : World} {H : Nat} {x : It} (h : IBox W H x) (o : Obj) : IBox (W.alloc o) H x := (Below.heap_alloc _ _ _ h.lt).trans h
theorem IBox.cells {W : World} {H : Nat} {x : It} (h : IBox W H x) : (W.cell? ⟨H, 0, none⟩ = some (.int .i64 x.id) ∧ W.cell? ⟨H, 1, none⟩ = some (.int .i64 x.w) ∧ W.cell? ⟨H, 2, none⟩ = some (.int .i64 x.lag)) ∧ W.frozen? ⟨H, 0, none⟩ = false ∧ W.frozen? ⟨H, 1, none⟩ = false ∧ W.frozen? ⟨H, 2, none⟩ = false := by
  unfold IBox at h
  refine ⟨⟨by simp only [World.cell?, h]; rfl, by simp only [World.cell?, h]; rfl, by simp only [World.cell?, h]; rfl⟩, by simp only [World.frozen?, h]; simp, by simp only [World.frozen?, h]; simp, by simp only [World.frozen?, h]; simp⟩
theorem IBox.set {W : World} {H : Nat} {x : It} (h : IBox W H x) (y : It) :
    IBox (((W.setCell ⟨H, 0, none⟩ (.int .i64 y.id)).setCell ⟨H, 1, none⟩ (.int .i64 y.w)).setCell ⟨H, 2, none⟩ (.int .i64 y.lag)) H y := by
  unfold IBox at h ⊢
  simp [World.setCell, Array.getElem?_modify, h, It.cells]
theorem ibox_new (W : World) (x : It) : IBox (W.alloc (.cells x.cells.toArray 77)) W.heap.size x := heap_alloc_new _ _

/-- What Find hands back. -/
def FindP (its : List It) (id : Int) (w : World) (e : Ending) (W' : World) : Prop :=
  e = .returned (.tuple #[.agg #[.int .i64 (itemI its id).id, .int .i64 (itemI its id).w, .int .i64 (itemI its id).lag], .bool (decide (0 ≤ posI its id))]) ∧ Below w.heap.size w W'

set_option maxRecDepth 100000 in
set_option maxHeartbeats 2000000 in
theorem finditem_any (cur : Int) (v : Value) (its : List It) (id : Int) (W : World) (h : FSl W v its) (hl : its.length ≤ 100000) :
    Calls Tryz.prog 22 #[.agg #[.int .i64 cur, v], .int .i64 id] W (FindP its id W) := by
  have hfind := findI_any cur v its id _ ((h.alloc (.cells #[.int .i64 cur, v] 70)).alloc (.cells #[.int .i64 0, .int .i64 0, .int .i64 0] 77))
  have hcases := posI_cases its id
  obtain ⟨a, c, rfl⟩ := h.form
  have H0 := Lib.hid h
  have hI0 := ibox_new (W.alloc (.cells #[.int .i64 cur, .slice a its.length c] 70)) ⟨0, 0, 0⟩
  rw [size_alloc1] at hI0
  have hR0 := (rbox_new W (.int .i64 cur) (.slice a its.length c)).alloc (.cells #[.int .i64 0, .int .i64 0, .int .i64 0] 77)
  have HB0 : Hid (Below W.heap.size W ((W.alloc (.cells #[.int .i64 cur, .slice a its.length c] 70)).alloc (.cells #[.int .i64 0, .int .i64 0, .int .i64 0] 77))) := Lib.hid (((Below.refl _ W).alloc (Nat.le_refl _) _).alloc (by simp) _)
  obtain ⟨W0, hW0⟩ : ∃ W0, (W.alloc (.cells #[.int .i64 cur, .slice a its.length c] 70)).alloc (.cells #[.int .i64 0, .int .i64 0, .int .i64 0] 77) = W0 := ⟨_, rfl⟩
  have hz0 : W0.heap.size = W.heap.size + 2 := by rw [← hW0]; simp
  change IBox ((W.alloc (.cells #[.int .i64 cur, .slice a its.length c] 70)).alloc (.cells #[.int .i64 0, .int .i64 0, .int .i64 0] 77)) (W.heap.size + 1) _ at hI0
  rw [hW0] at hfind hI0 hR0 HB0
  have HI0 := Lib.hid hI0
  have HR0 := Lib.hid hR0
  clear hI0 hR0
  rcases hcases with ⟨hp, -⟩ | ⟨k, hk, hp, -⟩
  · unfold FindP itemI
    rw [hp] at hfind ⊢
    rw [if_neg (by decide), show decide ((0 : Int) ≤ -1) = false from rfl]
    obtain ⟨n, hn⟩ : ∃ n, its.length = n := ⟨_, rfl⟩
    rw [hn] at hW0 hfind HR0 ⊢
    obtain ⟨z0, z1, -, -⟩ := HR0.out.cells
    clear h hp hn
    go_enter Tryz.func22, Tryz.ntmps22
    go_wp2_with fail
    refine hfind.mono ?_
    rintro e w1 ⟨rfl, hb1⟩
    have hI1 := HI0.out.below hb1 HI0.out.lt
    obtain ⟨⟨c0, c1, c2⟩, f0, f1, f2⟩ := hI1.cells
    obtain ⟨⟨g0, g1, g2⟩, -⟩ := (hI1.set ⟨0, 0, 0⟩).cells
    simp only at c0 c1 c2 g0 g1 g2
    have HG0 := Lib.hid g0
    have HG1 := Lib.hid g1
    have HG2 := Lib.hid g2
    have HB1 := Lib.hid hb1
    clear g0 g1 g2 hI1 hb1
    go_wp2_with fail
    exact bodyPost_ret (v := .tuple #[.agg #[.int .i64 0, .int .i64 0, .int .i64 0], .bool false]) (by simp [results, Tryz.results22, go_sem, HG0.out, HG1.out, HG2.out]) rfl ⟨rfl, (((HB0.out.trans (HB1.out.mono (by omega))).setCell (by simp) _).setCell (by simp) _).setCell (by simp) _⟩
  · unfold FindP itemI
    rw [hp] at hfind ⊢
    rw [if_pos (by omega), show decide ((0 : Int) ≤ (k : Int)) = true from decide_eq_true (by omega), Int.toNat_natCast]
    obtain ⟨n, hn⟩ : ∃ n, its.length = n := ⟨_, rfl⟩
    have hkn : (k : Int) < (n : Int) := by omega
    have hk0 : (0 : Int) ≤ (k : Int) := by omega
    have hkneg : ¬ (k : Int) < 0 := by omega
    obtain ⟨g, rfl, hg, k0, k1, k2⟩ := H0.out.cells k hk
    rw [hn] at hW0 hfind
    obtain ⟨x, hx⟩ : ∃ x, its[k]! = x := ⟨_, rfl⟩
    rw [hx] at k0 k1 k2 ⊢
    obtain ⟨i, ww, lag⟩ := x
    simp only at k0 k1 k2 ⊢
    rw [hn] at HR0
    have HK : ∀ w1, Below W.heap.size W w1 → (w1.cell? ⟨g, k * 3, none⟩ = some (.int .i64 i) ∧ w1.cell? ⟨g, k * 3 + 1, none⟩ = some (.int .i64 ww) ∧ w1.cell? ⟨g, k * 3 + 2, none⟩ = some (.int .i64 lag)) := fun w1 hb =>
      ⟨(hb.cell (p := ⟨g, k * 3, none⟩) hg).trans k0, (hb.cell (p := ⟨g, k * 3 + 1, none⟩) hg).trans k1, (hb.cell (p := ⟨g, k * 3 + 2, none⟩) hg).trans k2⟩
    have HK2 := Lib.hid HK
    rw [hn]
    obtain ⟨z0, z1, -, -⟩ := HR0.out.cells
    clear h hp hn hx HK
    go_enter Tryz.func22, Tryz.ntmps22
    go_wp2_with fail
    refine hfind.mono ?_
    rintro e w1 ⟨rfl, hb1⟩
    have hI1 := HI0.out.below hb1 HI0.out.lt
    obtain ⟨r0, r1, -, -⟩ := (HR0.out.below hb1 HR0.out.lt).cells
    obtain ⟨⟨c0, c1, c2⟩, f0, f1, f2⟩ := hI1.cells
    obtain ⟨⟨g0, g1, g2⟩, -⟩ := (hI1.set ⟨i, ww, lag⟩).cells
    simp only at c0 c1 c2 g0 g1 g2
    obtain ⟨q0, q1, q2⟩ := HK2.out w1 (HB0.out.trans (hb1.mono (by omega)))
    have HG0 := Lib.hid g0
    have HG1 := Lib.hid g1
    have HG2 := Lib.hid g2
    have HB1 := Lib.hid hb1
    clear g0 g1 g2 hI1 hb1 k0 k1 k2
    go_wp2_with fail
    exact bodyPost_ret (v := .tuple #[.agg #[.int .i64 i, .int .i64 ww, .int .i64 lag], .bool true]) (by simp [results, Tryz.results22, go_sem, HG0.out, HG1.out, HG2.out]) rfl ⟨rfl, (((HB0.out.trans (HB1.out.mono (by omega))).setCell (by simp) _).setCell (by simp) _).setCell (by simp) _⟩

end Go.Proofs.YtoiajjobecinpaaGreat
