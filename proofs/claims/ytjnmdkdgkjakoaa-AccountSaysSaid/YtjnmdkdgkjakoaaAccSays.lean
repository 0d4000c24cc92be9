/- The law AccountSays, walked: it returns true at any account and any numbers. -/
import Derived.Test.YtjnmdkdgkjakoaaAccT
import Derived.Deep.RegionHeld3
namespace Go.Proofs.Ytjnmdkdgkjakoaa
open Go.RowKit
set_option linter.unusedVariables false
set_option linter.unusedSimpArgs false

/-- Block b, of type T, holds these four numbers. -/
def AtT (T : TypeId) (w : World) (b : Nat) (q p l f : Int) : Prop := w.heap[b]? = some (.cells #[.int .i64 q, .int .i64 p, .int .i64 l, .int .i64 f] T (0, 0))

theorem AtT.cells {T : TypeId} {w : World} {b : Nat} {q p l f : Int} (h : AtT T w b q p l f) :
    w.cell? ⟨b, 0, none⟩ = some (.int .i64 q) ∧ w.cell? ⟨b, 1, none⟩ = some (.int .i64 p) ∧ w.cell? ⟨b, 2, none⟩ = some (.int .i64 l) ∧ w.cell? ⟨b, 3, none⟩ = some (.int .i64 f) := cells4 h
theorem AtT.new (T : TypeId) (w : World) (q p l f : Int) : AtT T (w.alloc (.cells #[.int .i64 q, .int .i64 p, .int .i64 l, .int .i64 f] T)) w.heap.size q p l f := heap_alloc_new w _
theorem AtT.kept {T : TypeId} {W w1 : World} {b : Nat} {q p l f : Int} (h : AtT T W b q p l f) (hb : Below W.heap.size W w1) : AtT T w1 b q p l f := kept_row hb h
theorem AtT.alloc {T : TypeId} {w : World} {b : Nat} {q p l f : Int} (h : AtT T w b q p l f) (o : Obj) : AtT T (w.alloc o) b q p l f :=
  (Below.heap_alloc _ _ _ (Array.getElem?_eq_some_iff.1 h).1).trans h

abbrev S8 (w : World) (ba bw bx by_ bu bv bp bq : Nat) (q p l f n1 n2 n3 n4 u1 u2 u3 u4 t1 t2 t3 t4 : Int) (W : World) : Prop :=
  Below w.heap.size w W ∧ AtT 32 W ba q p l f ∧ AtT 54 W bw q p l f ∧ AtT 32 W bx n1 n2 n3 n4 ∧ AtT 54 W by_ n1 n2 n3 n4 ∧ AtT 32 W bu u1 u2 u3 u4 ∧ AtT 54 W bv u1 u2 u3 u4 ∧ AtT 32 W bp t1 t2 t3 t4 ∧ AtT 54 W bq t1 t2 t3 t4 ∧ W.cell? ⟨ba, 0, none⟩ = some (.int .i64 q) ∧ W.cell? ⟨ba, 1, none⟩ = some (.int .i64 p) ∧ W.cell? ⟨ba, 2, none⟩ = some (.int .i64 l) ∧ W.cell? ⟨ba, 3, none⟩ = some (.int .i64 f) ∧ W.cell? ⟨bw, 0, none⟩ = some (.int .i64 q) ∧ W.cell? ⟨bw, 1, none⟩ = some (.int .i64 p) ∧ W.cell? ⟨bw, 2, none⟩ = some (.int .i64 l) ∧ W.cell? ⟨bw, 3, none⟩ = some (.int .i64 f) ∧ W.cell? ⟨bx, 0, none⟩ = some (.int .i64 n1) ∧ W.cell? ⟨bx, 1, none⟩ = some (.int .i64 n2) ∧ W.cell? ⟨bx, 2, none⟩ = some (.int .i64 n3) ∧ W.cell? ⟨bx, 3, none⟩ = some (.int .i64 n4) ∧ W.cell? ⟨by_, 0, none⟩ = some (.int .i64 n1) ∧ W.cell? ⟨by_, 1, none⟩ = some (.int .i64 n2) ∧ W.cell? ⟨by_, 2, none⟩ = some (.int .i64 n3) ∧ W.cell? ⟨by_, 3, none⟩ = some (.int .i64 n4) ∧ W.cell? ⟨bu, 0, none⟩ = some (.int .i64 u1) ∧ W.cell? ⟨bu, 1, none⟩ = some (.int .i64 u2) ∧ W.cell? ⟨bu, 2, none⟩ = some (.int .i64 u3) ∧ W.cell? ⟨bu, 3, none⟩ = some (.int .i64 u4) ∧ W.cell? ⟨bv, 0, none⟩ = some (.int .i64 u1) ∧ W.cell? ⟨bv, 1, none⟩ = some (.int .i64 u2) ∧ W.cell? ⟨bv, 2, none⟩ = some (.int .i64 u3) ∧ W.cell? ⟨bv, 3, none⟩ = some (.int .i64 u4) ∧ W.cell? ⟨bp, 0, none⟩ = some (.int .i64 t1) ∧ W.cell? ⟨bp, 1, none⟩ = some (.int .i64 t2) ∧ W.cell? ⟨bp, 2, none⟩ = some (.int .i64 t3) ∧ W.cell? ⟨bp, 3, none⟩ = some (.int .i64 t4) ∧ W.cell? ⟨bq, 0, none⟩ = some (.int .i64 t1) ∧ W.cell? ⟨bq, 1, none⟩ = some (.int .i64 t2) ∧ W.cell? ⟨bq, 2, none⟩ = some (.int .i64 t3) ∧ W.cell? ⟨bq, 3, none⟩ = some (.int .i64 t4)

theorem S8.make {w W : World} {ba bw bx by_ bu bv bp bq : Nat} {q p l f n1 n2 n3 n4 u1 u2 u3 u4 t1 t2 t3 t4 : Int} (hb : Below w.heap.size w W) (ha : AtT 32 W ba q p l f) (hw : AtT 54 W bw q p l f) (hx : AtT 32 W bx n1 n2 n3 n4) (hy : AtT 54 W by_ n1 n2 n3 n4) (hu : AtT 32 W bu u1 u2 u3 u4) (hv : AtT 54 W bv u1 u2 u3 u4) (hp : AtT 32 W bp t1 t2 t3 t4) (hq : AtT 54 W bq t1 t2 t3 t4) :
    S8 w ba bw bx by_ bu bv bp bq q p l f n1 n2 n3 n4 u1 u2 u3 u4 t1 t2 t3 t4 W :=
  ⟨hb, ha, hw, hx, hy, hu, hv, hp, hq, ha.cells.1, ha.cells.2.1, ha.cells.2.2.1, ha.cells.2.2.2, hw.cells.1, hw.cells.2.1, hw.cells.2.2.1, hw.cells.2.2.2, hx.cells.1, hx.cells.2.1, hx.cells.2.2.1, hx.cells.2.2.2, hy.cells.1, hy.cells.2.1, hy.cells.2.2.1, hy.cells.2.2.2, hu.cells.1, hu.cells.2.1, hu.cells.2.2.1, hu.cells.2.2.2, hv.cells.1, hv.cells.2.1, hv.cells.2.2.1, hv.cells.2.2.2, hp.cells.1, hp.cells.2.1, hp.cells.2.2.1, hp.cells.2.2.2, hq.cells.1, hq.cells.2.1, hq.cells.2.2.1, hq.cells.2.2.2⟩

theorem S8.step {w W w1 : World} {ba bw bx by_ bu bv bp bq : Nat} {q p l f n1 n2 n3 n4 u1 u2 u3 u4 t1 t2 t3 t4 : Int} (h : S8 w ba bw bx by_ bu bv bp bq q p l f n1 n2 n3 n4 u1 u2 u3 u4 t1 t2 t3 t4 W) (hbx : Below W.heap.size W w1) : S8 w ba bw bx by_ bu bv bp bq q p l f n1 n2 n3 n4 u1 u2 u3 u4 t1 t2 t3 t4 w1 :=
  S8.make (h.1.trans (hbx.mono h.1.size)) (h.2.1.kept hbx) (h.2.2.1.kept hbx) (h.2.2.2.1.kept hbx) (h.2.2.2.2.1.kept hbx) (h.2.2.2.2.2.1.kept hbx) (h.2.2.2.2.2.2.1.kept hbx) (h.2.2.2.2.2.2.2.1.kept hbx) (h.2.2.2.2.2.2.2.2.1.kept hbx)

theorem S8.drew {w W : World} {ba bw bx by_ bu bv bp bq : Nat} {q p l f n1 n2 n3 n4 u1 u2 u3 u4 t1 t2 t3 t4 : Int} (h : S8 w ba bw bx by_ bu bv bp bq q p l f n1 n2 n3 n4 u1 u2 u3 u4 t1 t2 t3 t4 W) : S8 w ba bw bx by_ bu bv bp bq q p l f n1 n2 n3 n4 u1 u2 u3 u4 t1 t2 t3 t4 W.drew :=
  S8.make (W := W.drew) h.1.drew h.2.1 h.2.2.1 h.2.2.2.1 h.2.2.2.2.1 h.2.2.2.2.2.1 h.2.2.2.2.2.2.1 h.2.2.2.2.2.2.2.1 h.2.2.2.2.2.2.2.2.1

set_option maxHeartbeats 8000000 in
set_option maxRecDepth 100000 in
theorem accountSays_any (q p l f quota period n : Int) (w : World) (hl1 : -9223372036854775808 ≤ l) (hl2 : l ≤ 9223372036854775807) (hn1 : -9223372036854775808 ≤ n) (hn2 : n ≤ 9223372036854775807) :
    Calls Try.prog 11 #[acc q p l f, .int .i64 quota, .int .i64 period, .int .i64 n] w fun e w' => e = .returned (.bool true) ∧ Below w.heap.size w w' := by
  obtain ⟨⟨⟨n1, n2, n3, n4⟩, ne⟩, HN⟩ : ∃ r, Hid (newP quota period = r) := ⟨_, Lib.hid rfl⟩
  obtain ⟨⟨⟨u1, u2, u3, u4⟩, ue⟩, HU⟩ : ∃ r, Hid (useP q p l f = r) := ⟨_, Lib.hid rfl⟩
  obtain ⟨⟨⟨t1, t2, t3, t4⟩, tb⟩, HT⟩ : ∃ r, Hid (tickP q p l f n = r) := ⟨_, Lib.hid rfl⟩
  have hgood := agood_any q p l f
  have hgood2 := rgood_any q p l f
  have hspent := aspent_any q p l f
  have hspent2 := rspent_any q p l f
  have hnext := anext_any q p l f
  have hnext2 := rnext_any q p l f
  generalize goodB q p l f = gb at hgood hgood2
  generalize spentB q p l f = sb at hspent hspent2
  generalize nextI q p l f = ni at hnext hnext2
  have HG := Lib.hid hgood; have HG2 := Lib.hid hgood2; have HS := Lib.hid hspent; have HS2 := Lib.hid hspent2; have HX := Lib.hid hnext; have HX2 := Lib.hid hnext2
  clear hgood hgood2 hspent hspent2 hnext hnext2
  go_enter Try.func11, Try.ntmps11
  go_wp2_with fail
  refine (awake8_any _).mono ?_
  rintro e w0 ⟨rfl, hb0⟩
  have ha : AtT 32 w0 w.heap.size q p l f := (AtT.new 32 w q p l f).kept hb0
  have hb := below_step _ hb0
  clear hb0
  obtain ⟨k0, k1, k2, k3⟩ := ha.cells
  go_wp2_with fail
  clear k0 k1 k2 k3
  refine (own_any q p l f _).mono ?_
  rintro e w1 ⟨rfl, hb1⟩
  replace ha := ha.kept hb1
  replace hb := hb.trans (hb1.mono hb.size)
  have hw := AtT.new 54 w1 q p l f
  replace ha := ha.alloc (.cells #[.int .i64 q, .int .i64 p, .int .i64 l, .int .i64 f] 54)
  have hs1 := hb.size
  replace hb := hb.alloc hs1 (.cells #[.int .i64 q, .int .i64 p, .int .i64 l, .int .i64 f] 54)
  go_wp2_with fail
  refine (anew_any quota period _).mono ?_
  rw [HN.out]
  rintro e w2 ⟨rfl, hb2⟩
  replace ha := ha.kept hb2
  replace hw := hw.kept hb2
  replace hb := hb.trans (hb2.mono hb.size)
  have hx := AtT.new 32 w2 n1 n2 n3 n4
  replace ha := ha.alloc (.cells #[.int .i64 n1, .int .i64 n2, .int .i64 n3, .int .i64 n4] 32)
  replace hw := hw.alloc (.cells #[.int .i64 n1, .int .i64 n2, .int .i64 n3, .int .i64 n4] 32)
  have hs2 := hb.size
  replace hb := hb.alloc hs2 (.cells #[.int .i64 n1, .int .i64 n2, .int .i64 n3, .int .i64 n4] 32)
  go_wp2_with fail
  refine (rnew_any quota period _).mono ?_
  rw [HN.out]
  rintro e w3 ⟨rfl, hb3⟩
  replace ha := ha.kept hb3
  replace hw := hw.kept hb3
  replace hx := hx.kept hb3
  replace hb := hb.trans (hb3.mono hb.size)
  have hy := AtT.new 54 w3 n1 n2 n3 n4
  replace ha := ha.alloc (.cells #[.int .i64 n1, .int .i64 n2, .int .i64 n3, .int .i64 n4] 54)
  replace hw := hw.alloc (.cells #[.int .i64 n1, .int .i64 n2, .int .i64 n3, .int .i64 n4] 54)
  replace hx := hx.alloc (.cells #[.int .i64 n1, .int .i64 n2, .int .i64 n3, .int .i64 n4] 54)
  have hs3 := hb.size
  replace hb := hb.alloc hs3 (.cells #[.int .i64 n1, .int .i64 n2, .int .i64 n3, .int .i64 n4] 54)
  obtain ⟨k0, k1, k2, k3⟩ := ha.cells
  go_wp2_with fail
  clear k0 k1 k2 k3
  refine (ause_any q p l f _ hl1 hl2).mono ?_
  rw [HU.out]
  rintro e w4 ⟨rfl, hb4⟩
  replace ha := ha.kept hb4
  replace hw := hw.kept hb4
  replace hx := hx.kept hb4
  replace hy := hy.kept hb4
  replace hb := hb.trans (hb4.mono hb.size)
  have hu := AtT.new 32 w4 u1 u2 u3 u4
  replace ha := ha.alloc (.cells #[.int .i64 u1, .int .i64 u2, .int .i64 u3, .int .i64 u4] 32)
  replace hw := hw.alloc (.cells #[.int .i64 u1, .int .i64 u2, .int .i64 u3, .int .i64 u4] 32)
  replace hx := hx.alloc (.cells #[.int .i64 u1, .int .i64 u2, .int .i64 u3, .int .i64 u4] 32)
  replace hy := hy.alloc (.cells #[.int .i64 u1, .int .i64 u2, .int .i64 u3, .int .i64 u4] 32)
  have hs4 := hb.size
  replace hb := hb.alloc hs4 (.cells #[.int .i64 u1, .int .i64 u2, .int .i64 u3, .int .i64 u4] 32)
  obtain ⟨k0, k1, k2, k3⟩ := hw.cells
  go_wp2_with fail
  clear k0 k1 k2 k3
  refine (ruse_any q p l f _).mono ?_
  rw [HU.out]
  rintro e w5 ⟨rfl, hb5⟩
  replace ha := ha.kept hb5
  replace hw := hw.kept hb5
  replace hx := hx.kept hb5
  replace hy := hy.kept hb5
  replace hu := hu.kept hb5
  replace hb := hb.trans (hb5.mono hb.size)
  have hv := AtT.new 54 w5 u1 u2 u3 u4
  replace ha := ha.alloc (.cells #[.int .i64 u1, .int .i64 u2, .int .i64 u3, .int .i64 u4] 54)
  replace hw := hw.alloc (.cells #[.int .i64 u1, .int .i64 u2, .int .i64 u3, .int .i64 u4] 54)
  replace hx := hx.alloc (.cells #[.int .i64 u1, .int .i64 u2, .int .i64 u3, .int .i64 u4] 54)
  replace hy := hy.alloc (.cells #[.int .i64 u1, .int .i64 u2, .int .i64 u3, .int .i64 u4] 54)
  replace hu := hu.alloc (.cells #[.int .i64 u1, .int .i64 u2, .int .i64 u3, .int .i64 u4] 54)
  have hs5 := hb.size
  replace hb := hb.alloc hs5 (.cells #[.int .i64 u1, .int .i64 u2, .int .i64 u3, .int .i64 u4] 54)
  obtain ⟨k0, k1, k2, k3⟩ := ha.cells
  go_wp2_with fail
  clear k0 k1 k2 k3
  refine (atick_any q p l f n _ hn1 hn2).mono ?_
  rw [HT.out]
  rintro e w6 ⟨rfl, hb6⟩
  replace ha := ha.kept hb6
  replace hw := hw.kept hb6
  replace hx := hx.kept hb6
  replace hy := hy.kept hb6
  replace hu := hu.kept hb6
  replace hv := hv.kept hb6
  replace hb := hb.trans (hb6.mono hb.size)
  have hp := AtT.new 32 w6 t1 t2 t3 t4
  replace ha := ha.alloc (.cells #[.int .i64 t1, .int .i64 t2, .int .i64 t3, .int .i64 t4] 32)
  replace hw := hw.alloc (.cells #[.int .i64 t1, .int .i64 t2, .int .i64 t3, .int .i64 t4] 32)
  replace hx := hx.alloc (.cells #[.int .i64 t1, .int .i64 t2, .int .i64 t3, .int .i64 t4] 32)
  replace hy := hy.alloc (.cells #[.int .i64 t1, .int .i64 t2, .int .i64 t3, .int .i64 t4] 32)
  replace hu := hu.alloc (.cells #[.int .i64 t1, .int .i64 t2, .int .i64 t3, .int .i64 t4] 32)
  replace hv := hv.alloc (.cells #[.int .i64 t1, .int .i64 t2, .int .i64 t3, .int .i64 t4] 32)
  have hs6 := hb.size
  replace hb := hb.alloc hs6 (.cells #[.int .i64 t1, .int .i64 t2, .int .i64 t3, .int .i64 t4] 32)
  obtain ⟨k0, k1, k2, k3⟩ := hw.cells
  go_wp2_with fail
  clear k0 k1 k2 k3
  refine (rtick_any q p l f n _ hn1 hn2).mono ?_
  rw [HT.out]
  rintro e w7 ⟨rfl, hb7⟩
  replace ha := ha.kept hb7
  replace hw := hw.kept hb7
  replace hx := hx.kept hb7
  replace hy := hy.kept hb7
  replace hu := hu.kept hb7
  replace hv := hv.kept hb7
  replace hp := hp.kept hb7
  replace hb := hb.trans (hb7.mono hb.size)
  have hq := AtT.new 54 w7 t1 t2 t3 t4
  replace ha := ha.alloc (.cells #[.int .i64 t1, .int .i64 t2, .int .i64 t3, .int .i64 t4] 54)
  replace hw := hw.alloc (.cells #[.int .i64 t1, .int .i64 t2, .int .i64 t3, .int .i64 t4] 54)
  replace hx := hx.alloc (.cells #[.int .i64 t1, .int .i64 t2, .int .i64 t3, .int .i64 t4] 54)
  replace hy := hy.alloc (.cells #[.int .i64 t1, .int .i64 t2, .int .i64 t3, .int .i64 t4] 54)
  replace hu := hu.alloc (.cells #[.int .i64 t1, .int .i64 t2, .int .i64 t3, .int .i64 t4] 54)
  replace hv := hv.alloc (.cells #[.int .i64 t1, .int .i64 t2, .int .i64 t3, .int .i64 t4] 54)
  replace hp := hp.alloc (.cells #[.int .i64 t1, .int .i64 t2, .int .i64 t3, .int .i64 t4] 54)
  have hs7 := hb.size
  replace hb := hb.alloc hs7 (.cells #[.int .i64 t1, .int .i64 t2, .int .i64 t3, .int .i64 t4] 54)
  go_wp2_with fail
  clear hb1 hb2 hb3 hb4 hb5 hb6 hb7 hs1 hs2 hs3 hs4 hs5 hs6 hs7
  generalize w1.heap.size = bw at hw ⊢
  generalize w2.heap.size = bx at hx ⊢
  generalize w3.heap.size = by_ at hy ⊢
  generalize w4.heap.size = bu at hu ⊢
  generalize w5.heap.size = bv at hv ⊢
  generalize w6.heap.size = bp at hp ⊢
  generalize w7.heap.size = bq at hq ⊢
  have hD : S8 w w.heap.size bw bx by_ bu bv bp bq q p l f n1 n2 n3 n4 u1 u2 u3 u4 t1 t2 t3 t4 _ := S8.make hb ha hw hx hy hu hv hp hq
  generalize hW : (w7.alloc (.cells #[.int .i64 t1, .int .i64 t2, .int .i64 t3, .int .i64 t4] 54)) = W at hD ⊢
  clear hW hb ha hw hx hy hu hv hp hq
  have hE : S8 w w.heap.size bw bx by_ bu bv bp bq q p l f n1 n2 n3 n4 u1 u2 u3 u4 t1 t2 t3 t4 W.drew := hD.drew
  obtain ⟨hb, ha, hw, hx, hy, hu, hv, hp, hq, -⟩ := hE
  clear hD
  go_region_held3 (fun W' => S8 w w.heap.size bw bx by_ bu bv bp bq q p l f n1 n2 n3 n4 u1 u2 u3 u4 t1 t2 t3 t4 W') (first | exact S8.make hb ha hw hx hy hu hv hp hq | exact S8.make hb ha hw hx hy hu hv hp hq) (first | (go_at_call 41; first | (with_reducible refine (own_any n1 n2 n3 n4 _).mono ?_; rintro e w9 ⟨rfl, hbx⟩; have hS9 := S8.step (S8.make hb ha hw hx hy hu hv hp hq) hbx; obtain ⟨hb, ha, hw, hx, hy, hu, hv, hp, hq, g0, g1, g2, g3, g4, g5, g6, g7, g8, g9, g10, g11, g12, g13, g14, g15, g16, g17, g18, g19, g20, g21, g22, g23, g24, g25, g26, g27, g28, g29, g30, g31⟩ := hS9) | (with_reducible refine (own_any u1 u2 u3 u4 _).mono ?_; rintro e w9 ⟨rfl, hbx⟩; have hS9 := S8.step (S8.make hb ha hw hx hy hu hv hp hq) hbx; obtain ⟨hb, ha, hw, hx, hy, hu, hv, hp, hq, g0, g1, g2, g3, g4, g5, g6, g7, g8, g9, g10, g11, g12, g13, g14, g15, g16, g17, g18, g19, g20, g21, g22, g23, g24, g25, g26, g27, g28, g29, g30, g31⟩ := hS9) | (with_reducible refine (own_any t1 t2 t3 t4 _).mono ?_; rintro e w9 ⟨rfl, hbx⟩; have hS9 := S8.step (S8.make hb ha hw hx hy hu hv hp hq) hbx; obtain ⟨hb, ha, hw, hx, hy, hu, hv, hp, hq, g0, g1, g2, g3, g4, g5, g6, g7, g8, g9, g10, g11, g12, g13, g14, g15, g16, g17, g18, g19, g20, g21, g22, g23, g24, g25, g26, g27, g28, g29, g30, g31⟩ := hS9)) | (go_at_call 40; with_reducible refine (HG.out _).mono ?_; rintro e w9 ⟨rfl, hbx⟩; have hS9 := S8.step (S8.make hb ha hw hx hy hu hv hp hq) hbx; obtain ⟨hb, ha, hw, hx, hy, hu, hv, hp, hq, g0, g1, g2, g3, g4, g5, g6, g7, g8, g9, g10, g11, g12, g13, g14, g15, g16, g17, g18, g19, g20, g21, g22, g23, g24, g25, g26, g27, g28, g29, g30, g31⟩ := hS9) | (go_at_call 45; with_reducible refine (HG2.out _).mono ?_; rintro e w9 ⟨rfl, hbx⟩; have hS9 := S8.step (S8.make hb ha hw hx hy hu hv hp hq) hbx; obtain ⟨hb, ha, hw, hx, hy, hu, hv, hp, hq, g0, g1, g2, g3, g4, g5, g6, g7, g8, g9, g10, g11, g12, g13, g14, g15, g16, g17, g18, g19, g20, g21, g22, g23, g24, g25, g26, g27, g28, g29, g30, g31⟩ := hS9) | (go_at_call 38; with_reducible refine (HS.out _).mono ?_; rintro e w9 ⟨rfl, hbx⟩; have hS9 := S8.step (S8.make hb ha hw hx hy hu hv hp hq) hbx; obtain ⟨hb, ha, hw, hx, hy, hu, hv, hp, hq, g0, g1, g2, g3, g4, g5, g6, g7, g8, g9, g10, g11, g12, g13, g14, g15, g16, g17, g18, g19, g20, g21, g22, g23, g24, g25, g26, g27, g28, g29, g30, g31⟩ := hS9) | (go_at_call 46; with_reducible refine (HS2.out _).mono ?_; rintro e w9 ⟨rfl, hbx⟩; have hS9 := S8.step (S8.make hb ha hw hx hy hu hv hp hq) hbx; obtain ⟨hb, ha, hw, hx, hy, hu, hv, hp, hq, g0, g1, g2, g3, g4, g5, g6, g7, g8, g9, g10, g11, g12, g13, g14, g15, g16, g17, g18, g19, g20, g21, g22, g23, g24, g25, g26, g27, g28, g29, g30, g31⟩ := hS9) | (go_at_call 39; with_reducible refine (HX.out _).mono ?_; rintro e w9 ⟨rfl, hbx⟩; have hS9 := S8.step (S8.make hb ha hw hx hy hu hv hp hq) hbx; obtain ⟨hb, ha, hw, hx, hy, hu, hv, hp, hq, g0, g1, g2, g3, g4, g5, g6, g7, g8, g9, g10, g11, g12, g13, g14, g15, g16, g17, g18, g19, g20, g21, g22, g23, g24, g25, g26, g27, g28, g29, g30, g31⟩ := hS9) | (go_at_call 47; with_reducible refine (HX2.out _).mono ?_; rintro e w9 ⟨rfl, hbx⟩; have hS9 := S8.step (S8.make hb ha hw hx hy hu hv hp hq) hbx; obtain ⟨hb, ha, hw, hx, hy, hu, hv, hp, hq, g0, g1, g2, g3, g4, g5, g6, g7, g8, g9, g10, g11, g12, g13, g14, g15, g16, g17, g18, g19, g20, g21, g22, g23, g24, g25, g26, g27, g28, g29, g30, g31⟩ := hS9))
  go_wp2_with fail
  go_ret
  exact ⟨rfl, by with_reducible assumption⟩

end Go.Proofs.Ytjnmdkdgkjakoaa
