/- The law AccountUses, walked: it returns true at any three numbers. -/
import Derived.Test.YtjnmdkdgkjakoaaAccE
import Derived.Deep.RegionHeld3
import Derived.Deep.DeepCutAuto
namespace Go.Proofs.Ytjnmdkdgkjakoaa
open Go.RowKit
set_option linter.unusedVariables false
set_option linter.unusedSimpArgs false

/-- The account at s, and all that lay below: what each step of a region keeps. -/
abbrev SW (w : World) (s : Nat) (q p l f : Int) (W : World) : Prop :=
  AccAt W s q p l f ∧ Below w.heap.size w W ∧ W.cell? ⟨s, 0, none⟩ = some (.int .i64 q) ∧ W.cell? ⟨s, 1, none⟩ = some (.int .i64 p) ∧ W.cell? ⟨s, 2, none⟩ = some (.int .i64 l) ∧ W.cell? ⟨s, 3, none⟩ = some (.int .i64 f)

theorem SW.make {w W : World} {s : Nat} {q p l f : Int} (h : AccAt W s q p l f) (hb : Below w.heap.size w W) : SW w s q p l f W := by
  obtain ⟨k0, k1, k2, k3⟩ := h.cells
  exact ⟨h, hb, k0, k1, k2, k3⟩

theorem SW.step {w W w1 : World} {s : Nat} {q p l f : Int} (h : SW w s q p l f W) (hbx : Below W.heap.size W w1) : SW w s q p l f w1 :=
  SW.make (h.1.kept hbx) (h.2.1.trans (hbx.mono h.2.1.size))

/-- The like, with a second account kept. -/
abbrev SX (w : World) (s : Nat) (q p l f : Int) (b : Nat) (q' p' l' f' : Int) (W : World) : Prop := SW w s q p l f W ∧ AccAt W b q' p' l' f'

theorem SX.make {w W : World} {s b : Nat} {q p l f q' p' l' f' : Int} (h : AccAt W s q p l f) (hb : Below w.heap.size w W) (hc : AccAt W b q' p' l' f') : SX w s q p l f b q' p' l' f' W := ⟨SW.make h hb, hc⟩

theorem SX.step {w W w1 : World} {s b : Nat} {q p l f q' p' l' f' : Int} (h : SX w s q p l f b q' p' l' f' W) (hbx : Below W.heap.size W w1) : SX w s q p l f b q' p' l' f' w1 :=
  ⟨SW.step h.1 hbx, h.2.kept hbx⟩

theorem newP_full {q p : Int} (h : FullA q p q 0) : newP q p = ((q, p, q, 0), 0) := by unfold newP; rw [if_pos (full_good h)]

set_option maxHeartbeats 1000000 in
theorem uses_refused (q p n : Int) (w : World) (h : goodB q p q 0 = false) :
    Calls Try.prog 12 #[.int .i64 q, .int .i64 p, .int .i64 n] w fun e w' => e = .returned (.bool true) ∧ Below w.heap.size w w' := by
  have e : newP q p = ((0, 0, 0, 0), 1) := by unfold newP; rw [if_neg (by rw [h]; decide)]
  have HE := Lib.hid e
  clear h e
  go_enter Try.func12, Try.ntmps12
  go_wp2_with fail
  refine (awake8_any _).mono ?_
  rintro e w1 ⟨rfl, hb⟩
  go_wp2_with fail
  refine (anew_any q p _).mono ?_
  rw [HE.out]
  rintro e w2 ⟨rfl, hb2⟩
  replace hb := hb.trans (hb2.mono hb.size)
  have hs := hb.size
  go_wp2
  go_ret
  exact ⟨rfl, hb.alloc hs _⟩

set_option maxHeartbeats 1000000 in
theorem uses_out (q p n : Int) (w : World) (h : newP q p = ((q, p, q, 0), 0)) (hn : n < 0 ∨ 400 < n) :
    Calls Try.prog 12 #[.int .i64 q, .int .i64 p, .int .i64 n] w fun e w' => e = .returned (.bool true) ∧ Below w.heap.size w w' := by
  have HE := Lib.hid h
  clear h
  by_cases c1 : n < 0
  · clear hn
    go_enter Try.func12, Try.ntmps12
    go_wp2_with fail
    refine (awake8_any _).mono ?_
    rintro e w1 ⟨rfl, hb⟩
    go_wp2_with fail
    refine (anew_any q p _).mono ?_
    rw [HE.out]
    rintro e w2 ⟨rfl, hb2⟩
    replace hb := hb.trans (hb2.mono hb.size)
    have hs := hb.size
    go_wp2
    go_ret
    exact ⟨rfl, hb.alloc hs _⟩
  · have c2 : 400 < n := by omega
    clear hn
    go_enter Try.func12, Try.ntmps12
    go_wp2_with fail
    refine (awake8_any _).mono ?_
    rintro e w1 ⟨rfl, hb⟩
    go_wp2_with fail
    refine (anew_any q p _).mono ?_
    rw [HE.out]
    rintro e w2 ⟨rfl, hb2⟩
    replace hb := hb.trans (hb2.mono hb.size)
    have hs := hb.size
    go_wp2
    go_ret
    exact ⟨rfl, hb.alloc hs _⟩

set_option maxHeartbeats 4000000 in
set_option maxRecDepth 100000 in
theorem uses_free (n : Nat) (w : World) (hn : n ≤ 400) :
    Calls Try.prog 12 #[.int .i64 0, .int .i64 0, .int .i64 n] w fun e w' => e = .returned (.bool true) ∧ Below w.heap.size w w' := by
  go_enter Try.func12, Try.ntmps12
  go_wp2_with fail
  refine (awake8_any _).mono ?_
  rintro e w1 ⟨rfl, hb⟩
  go_wp2_with fail
  refine (anew_any 0 0 _).mono ?_
  rw [show newP 0 0 = ((0, 0, 0, 0), 0) from by decide]
  rintro e w2 ⟨rfl, hb2⟩
  replace hb := hb.trans (hb2.mono hb.size)
  have hs := hb.size
  have ha := AccAt.new w2 0 0 0 0
  replace hb := hb.alloc hs (.cells #[.int .i64 0, .int .i64 0, .int .i64 0, .int .i64 0] 32)
  obtain ⟨s, HS⟩ : ∃ s, Hid (w2.heap.size = s) := ⟨_, Lib.hid rfl⟩
  have hB : w.heap.size ≤ s := by rw [← HS.out]; exact hs
  have g1 : decide ((n : Int) < 0) = false := decide_eq_false (by omega)
  have g2 : decide (400 < (n : Int)) = false := decide_eq_false (by omega)
  go_wp2_with fail
  rw [HS.out] at ha ⊢
  go_loopw [9, 10, 11] (fun x9 _ _ wr => ∃ k : Nat, k ≤ n ∧ x9 = .int .i64 k ∧ AccAt wr s 0 0 0 0 ∧ Below w.heap.size w wr) (fun x9 _ _ _ => n - (intOf x9).toNat)
  case atStart => exact ⟨0, by omega, rfl, ha, hb⟩
  case round =>
    obtain ⟨k, hk, rfl, ha', hb'⟩ := hrel
    clear ha hb
    by_cases hkn : k < n
    · obtain ⟨k0, k1, k2, k3⟩ := ha'.cells
      go_wp2_with fail
      clear k0 k1 k2 k3
      refine (ause_any 0 0 0 0 _ (by omega) (by omega)).mono ?_
      rw [show useP 0 0 0 0 = ((0, 0, 0, 0), 0) from by decide]
      rintro e w5 ⟨rfl, hb5⟩
      replace hb' := hb'.trans (hb5.mono hb'.size)
      have hs := hb'.size
      replace ha' := (ha'.kept hb5).alloc (.cells #[.int .i64 0, .int .i64 0, .int .i64 0, .int .i64 0] 32)
      obtain ⟨k0, k1, k2, k3⟩ := ha'.cells
      go_wp2
      go_roundw
      case rel => exact ⟨k + 1, by omega, by go_num, ha', hb'.alloc hs _⟩
      case measure => simp [intOf]; omega
    · obtain rfl : k = n := by omega
      go_upto_region 19 with fail
      go_cut [12, 13] (fun c t W => ∃ b : Nat, c = .pointer (some ⟨b, 0, none⟩) ∧ t = .bool false ∧ s ≠ b ∧ AccAt W s 0 0 0 0 ∧ AccAt W b 0 0 0 0 ∧ Below w.heap.size w W)
      case first =>
        have HN := anext_any 0 0 0 0
        rw [show nextI 0 0 0 0 = 0 from by decide] at HN
        have HT : ∀ W, Calls Try.prog 21 #[acc 0 0 0 0, .int .i64 (IntKind.i64.wrap (-1))] W fun e w' => e = .returned (.tuple #[accT (0, 0, 0, 0), .bool false]) ∧ Below W.heap.size W w' := by
          intro W
          have := atick_any 0 0 0 0 (-1) W (by omega) (by omega)
          rw [show tickP 0 0 0 0 (-1) = ((0, 0, 0, 0), false) from by decide] at this
          rw [show (IntKind.i64.wrap (-1)) = (-1) from by decide]
          exact this
        have hda : AccAt wr.drew s 0 0 0 0 := ha'
        have hdb : Below w.heap.size w wr.drew := hb'.drew
        have hneS : s ≠ wr.heap.size := Nat.ne_of_lt hda.lt
        have hleS : w.heap.size ≤ wr.heap.size := hdb.size
        have HK2 : ∀ o, SW w s 0 0 0 0 (wr.alloc o).drew := fun o => SW.make (AccAt.alloc (w := wr) hda o) ((Below.alloc (w := wr.drew) hdb hleS o))
        have HN2 : AccAt (wr.alloc (.cells #[.int .i64 0, .int .i64 0, .int .i64 0, .int .i64 0] 32)).drew wr.heap.size 0 0 0 0 := AccAt.new wr 0 0 0 0
        obtain ⟨k0, k1, k2, k3⟩ := ha'.cells
        go_wp2_with fail
        clear ha' hb' k0 k1 k2 k3
        have hne9 : True := trivial
        have hle9 : True := trivial
        have hn9 : True := trivial
        go_region_held3 (fun W => SW w s 0 0 0 0 W) (first | (with_reducible exact SW.make hda hdb) | (with_reducible exact SW.make (hda.alloc _) (hdb.alloc hdb.size _)) | (with_reducible exact HK2 _) | (with_reducible exact SW.make (hda.apart hne9 _ _ _ _) (below_put hdb hle9 _ _ _ _)) | fail) (first | (go_at_call 39; with_reducible refine (HN _).mono ?_; rintro e w9 ⟨rfl, hbx⟩; (first | (have hS9 : SW w s 0 0 0 0 w9 := (by with_reducible exact SW.step (SW.make hda hdb) hbx); (try (have hn9 := (by with_reducible exact AccAt.kept hn9 hbx); obtain ⟨m0, m1, m2, m3⟩ := hn9.cells; have mf := hn9.free)); obtain ⟨hda, hdb, g0, g1, g2, g3⟩ := hS9) | (have hne9 := Nat.ne_of_lt hda.lt; have hle9 := hdb.size; have hS9 : SW w s 0 0 0 0 w9 := (by with_reducible exact SW.step (SW.make (hda.alloc _) (hdb.alloc hdb.size _)) hbx); have hn9 := (by with_reducible exact AccAt.kept (AccAt.new _ 0 0 0 0) hbx); obtain ⟨hda, hdb, g0, g1, g2, g3⟩ := hS9; obtain ⟨m0, m1, m2, m3⟩ := hn9.cells; have mf := hn9.free) | (have hne9 := hneS; have hle9 := hleS; have hS9 : SW w s 0 0 0 0 w9 := (by with_reducible exact SW.step (HK2 _) hbx); have hn9 := (by with_reducible exact AccAt.kept HN2 hbx); obtain ⟨hda, hdb, g0, g1, g2, g3⟩ := hS9; obtain ⟨m0, m1, m2, m3⟩ := hn9.cells; have mf := hn9.free) | fail)) | (go_at_call 21; with_reducible refine (HT _).mono ?_; rintro e w9 ⟨rfl, hbx⟩; (first | (have hS9 : SW w s 0 0 0 0 w9 := (by with_reducible exact SW.step (SW.make hda hdb) hbx); (try (have hn9 := (by with_reducible exact AccAt.kept hn9 hbx); obtain ⟨m0, m1, m2, m3⟩ := hn9.cells; have mf := hn9.free)); obtain ⟨hda, hdb, g0, g1, g2, g3⟩ := hS9) | (have hne9 := Nat.ne_of_lt hda.lt; have hle9 := hdb.size; have hS9 : SW w s 0 0 0 0 w9 := (by with_reducible exact SW.step (SW.make (hda.alloc _) (hdb.alloc hdb.size _)) hbx); have hn9 := (by with_reducible exact AccAt.kept (AccAt.new _ 0 0 0 0) hbx); obtain ⟨hda, hdb, g0, g1, g2, g3⟩ := hS9; obtain ⟨m0, m1, m2, m3⟩ := hn9.cells; have mf := hn9.free) | (have hne9 := hneS; have hle9 := hleS; have hS9 : SW w s 0 0 0 0 w9 := (by with_reducible exact SW.step (HK2 _) hbx); have hn9 := (by with_reducible exact AccAt.kept HN2 hbx); obtain ⟨hda, hdb, g0, g1, g2, g3⟩ := hS9; obtain ⟨m0, m1, m2, m3⟩ := hn9.cells; have mf := hn9.free) | fail)) | fail)
        all_goals (go_wp2_with fail; go_meet; first | exact ⟨_, rfl, rfl, Nat.ne_of_lt hda.lt, hda.alloc _, AccAt.new _ 0 0 0 0, hdb.alloc hdb.size _⟩ | exact ⟨_, rfl, rfl, hne9, hda.apart hne9 _ _ _ _, hn9.put _ _ _ _, below_put hdb hle9 _ _ _ _⟩ | fail)
      case rest =>
        obtain ⟨b, rfl, rfl, hsb, hsA, hbA, hbB⟩ := hcut
        clear ha' hb'
        go_upto_region 20 with fail
        go_cut [14, 15] (fun c t W => ∃ d : Nat, c = .pointer (some ⟨d, 0, none⟩) ∧ t = .bool false ∧ AccAt W s 0 0 0 0 ∧ AccAt W b 0 0 0 0 ∧ AccAt W d 0 0 0 0 ∧ Below w.heap.size w W)
        case first =>
          have HN := anext_any 0 0 0 0
          rw [show nextI 0 0 0 0 = 0 from by decide] at HN
          have HT : ∀ W, Calls Try.prog 21 #[acc 0 0 0 0, .int .i64 0] W fun e w' => e = .returned (.tuple #[accT (0, 0, 0, 0), .bool false]) ∧ Below W.heap.size W w' := by
            intro W
            have := atick_any 0 0 0 0 0 W (by omega) (by omega)
            rw [show tickP 0 0 0 0 0 = ((0, 0, 0, 0), false) from by decide] at this
            exact this
          have hda : AccAt wc.drew s 0 0 0 0 := hsA
          have hcb : AccAt wc.drew b 0 0 0 0 := hbA
          have hdb : Below w.heap.size w wc.drew := hbB.drew
          have hneS : s ≠ wc.heap.size := Nat.ne_of_lt hda.lt
          have hneB : b ≠ wc.heap.size := Nat.ne_of_lt hcb.lt
          have hleS : w.heap.size ≤ wc.heap.size := hdb.size
          have HK2 : ∀ o, SX w s 0 0 0 0 b 0 0 0 0 (wc.alloc o).drew := fun o => SX.make (AccAt.alloc (w := wc) hda o) ((Below.alloc (w := wc.drew) hdb hleS o)) (AccAt.alloc (w := wc) hcb o)
          have HN2 : AccAt (wc.alloc (.cells #[.int .i64 0, .int .i64 0, .int .i64 0, .int .i64 0] 32)).drew wc.heap.size 0 0 0 0 := AccAt.new wc 0 0 0 0
          obtain ⟨k0, k1, k2, k3⟩ := hsA.cells
          go_wp2_with fail
          clear hsA hbA hbB hsb k0 k1 k2 k3
          have hne9 : True := trivial
          have hnb9 : True := trivial
          have hle9 : True := trivial
          have hn9 : True := trivial
          go_region_held3 (fun W => SX w s 0 0 0 0 b 0 0 0 0 W) (first | (with_reducible exact SX.make hda hdb hcb) | (with_reducible exact SX.make (hda.alloc _) (hdb.alloc hdb.size _) (hcb.alloc _)) | (with_reducible exact HK2 _) | (with_reducible exact SX.make (hda.apart hne9 _ _ _ _) (below_put hdb hle9 _ _ _ _) (hcb.apart hnb9 _ _ _ _)) | fail) (first | (go_at_call 39; with_reducible refine (HN _).mono ?_; rintro e w9 ⟨rfl, hbx⟩; (first | (have hS9 : SX w s 0 0 0 0 b 0 0 0 0 w9 := (by with_reducible exact SX.step (SX.make hda hdb hcb) hbx); (try (have hn9 := (by with_reducible exact AccAt.kept hn9 hbx); obtain ⟨m0, m1, m2, m3⟩ := hn9.cells; have mf := hn9.free)); obtain ⟨⟨hda, hdb, g0, g1, g2, g3⟩, hcb⟩ := hS9) | (have hne9 := Nat.ne_of_lt hda.lt; have hnb9 := Nat.ne_of_lt hcb.lt; have hle9 := hdb.size; have hS9 : SX w s 0 0 0 0 b 0 0 0 0 w9 := (by with_reducible exact SX.step (SX.make (hda.alloc _) (hdb.alloc hdb.size _) (hcb.alloc _)) hbx); have hn9 := (by with_reducible exact AccAt.kept (AccAt.new _ 0 0 0 0) hbx); obtain ⟨⟨hda, hdb, g0, g1, g2, g3⟩, hcb⟩ := hS9; obtain ⟨m0, m1, m2, m3⟩ := hn9.cells; have mf := hn9.free) | (have hne9 := hneS; have hnb9 := hneB; have hle9 := hleS; have hS9 : SX w s 0 0 0 0 b 0 0 0 0 w9 := (by with_reducible exact SX.step (HK2 _) hbx); have hn9 := (by with_reducible exact AccAt.kept HN2 hbx); obtain ⟨⟨hda, hdb, g0, g1, g2, g3⟩, hcb⟩ := hS9; obtain ⟨m0, m1, m2, m3⟩ := hn9.cells; have mf := hn9.free) | fail)) | (go_at_call 21; with_reducible refine (HT _).mono ?_; rintro e w9 ⟨rfl, hbx⟩; (first | (have hS9 : SX w s 0 0 0 0 b 0 0 0 0 w9 := (by with_reducible exact SX.step (SX.make hda hdb hcb) hbx); (try (have hn9 := (by with_reducible exact AccAt.kept hn9 hbx); obtain ⟨m0, m1, m2, m3⟩ := hn9.cells; have mf := hn9.free)); obtain ⟨⟨hda, hdb, g0, g1, g2, g3⟩, hcb⟩ := hS9) | (have hne9 := Nat.ne_of_lt hda.lt; have hnb9 := Nat.ne_of_lt hcb.lt; have hle9 := hdb.size; have hS9 : SX w s 0 0 0 0 b 0 0 0 0 w9 := (by with_reducible exact SX.step (SX.make (hda.alloc _) (hdb.alloc hdb.size _) (hcb.alloc _)) hbx); have hn9 := (by with_reducible exact AccAt.kept (AccAt.new _ 0 0 0 0) hbx); obtain ⟨⟨hda, hdb, g0, g1, g2, g3⟩, hcb⟩ := hS9; obtain ⟨m0, m1, m2, m3⟩ := hn9.cells; have mf := hn9.free) | (have hne9 := hneS; have hnb9 := hneB; have hle9 := hleS; have hS9 : SX w s 0 0 0 0 b 0 0 0 0 w9 := (by with_reducible exact SX.step (HK2 _) hbx); have hn9 := (by with_reducible exact AccAt.kept HN2 hbx); obtain ⟨⟨hda, hdb, g0, g1, g2, g3⟩, hcb⟩ := hS9; obtain ⟨m0, m1, m2, m3⟩ := hn9.cells; have mf := hn9.free) | fail)) | fail)
          all_goals (go_wp2_with fail; go_meet; first | exact ⟨_, rfl, rfl, hda.apart hne9 _ _ _ _, hcb.apart hnb9 _ _ _ _, hn9.put _ _ _ _, below_put hdb hle9 _ _ _ _⟩ | exact ⟨_, rfl, rfl, hda.alloc _, hcb.alloc _, AccAt.new _ 0 0 0 0, hdb.alloc hdb.size _⟩ | fail)
        case rest =>
          obtain ⟨d, rfl, rfl, hsA, hbA, hdA, hbB⟩ := hcut
          obtain ⟨k0, k1, k2, k3⟩ := hsA.cells
          obtain ⟨m0, m1, m2, m3⟩ := hbA.cells
          obtain ⟨n0, n1, n2, n3⟩ := hdA.cells
          go_wp2
          go_ret
          exact ⟨rfl, hbB⟩

end Go.Proofs.Ytjnmdkdgkjakoaa
