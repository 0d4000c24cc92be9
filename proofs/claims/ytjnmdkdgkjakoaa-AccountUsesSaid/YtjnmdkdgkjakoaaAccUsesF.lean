/- The law AccountUses, walked at an account with bounds. -/
import Derived.Test.YtjnmdkdgkjakoaaAccUses
namespace Go.Proofs.Ytjnmdkdgkjakoaa
open Go.RowKit
set_option linter.unusedVariables false
set_option linter.unusedSimpArgs false

/-- What is left after k uses. -/
def leftAt (q : Int) (k : Nat) : Int := if (k : Int) < q then q - k else 0

theorem use_more {q p : Int} {k : Nat} (h : FullA q p q 0) (hk : (k : Int) < q) : useP q p (leftAt q k) 0 = ((q, p, q - k - 1, 0), 0) := by
  unfold useP leftAt
  unfold FullA at h
  rw [if_pos hk, if_pos (by unfold FullA; omega), if_neg (by omega)]

theorem use_none {q p : Int} {k : Nat} (h : FullA q p q 0) (hk : ¬ (k : Int) < q) : useP q p (leftAt q k) 0 = ((0, 0, 0, 0), 14) := by
  unfold useP leftAt
  unfold FullA at h
  rw [if_neg hk, if_pos (by unfold FullA; omega), if_pos rfl]

theorem left_step {q : Int} {k : Nat} (hk : (k : Int) < q) : leftAt q (k + 1) = q - k - 1 := by
  unfold leftAt
  split <;> omega

theorem left_stay {q : Int} {k : Nat} (hk : ¬ (k : Int) < q) : leftAt q k = 0 := if_neg hk

theorem left_full {q p : Int} {k : Nat} (h : FullA q p q 0) : FullA q p (leftAt q k) 0 := by
  unfold leftAt
  unfold FullA at *
  split <;> omega

theorem tick_less {q p L : Int} (h : FullA q p L 0) : ∃ fc, tickP q p L 0 (p - 1) = ((q, p, L, fc), false) := by
  unfold tickP
  by_cases hc : FullA q p L 0 ∧ 0 < p - 1
  · rw [if_pos hc, if_neg (by omega)]
    exact ⟨_, rfl⟩
  · rw [if_neg hc]
    exact ⟨_, rfl⟩

theorem tick_last {q p L : Int} (h : FullA q p L 0) : tickP q p L 0 p = ((q, p, q, 0), true) := by
  unfold tickP
  have h' := h
  unfold FullA at h'
  rw [if_pos ⟨h, by omega⟩, if_pos (by omega)]
  simp

theorem next_full {q p L : Int} (h : FullA q p L 0) : nextI q p L 0 = p := by
  unfold nextI
  rw [if_pos h]
  omega

set_option maxHeartbeats 4000000 in
set_option maxRecDepth 100000 in
theorem uses_full (q p : Int) (n : Nat) (w : World) (h : FullA q p q 0) (hn : n ≤ 400) :
    Calls Try.prog 12 #[.int .i64 q, .int .i64 p, .int .i64 n] w fun e w' => e = .returned (.bool true) ∧ Below w.heap.size w w' := by
  have H := Lib.hid h
  have b1 : 1 ≤ q := h.1
  have b2 : q ≤ 1073741824 := h.2.1
  have b3 : 1 ≤ p := h.2.2.1
  have b4 : p ≤ 1073741824 := h.2.2.2.1
  clear h
  go_enter Try.func12, Try.ntmps12
  go_wp2_with fail
  refine (awake8_any _).mono ?_
  rintro e w1 ⟨rfl, hb⟩
  go_wp2_with fail
  refine (anew_any q p _).mono ?_
  rw [newP_full H.out]
  rintro e w2 ⟨rfl, hb2⟩
  replace hb := hb.trans (hb2.mono hb.size)
  have hs := hb.size
  have ha := AccAt.new w2 q p q 0
  replace hb := hb.alloc hs (.cells #[.int .i64 q, .int .i64 p, .int .i64 q, .int .i64 0] 32)
  obtain ⟨s, HS⟩ : ∃ s, Hid (w2.heap.size = s) := ⟨_, Lib.hid rfl⟩
  have hB : w.heap.size ≤ s := by rw [← HS.out]; exact hs
  have g1 : decide ((n : Int) < 0) = false := decide_eq_false (by omega)
  have g2 : decide (400 < (n : Int)) = false := decide_eq_false (by omega)
  have gq : decide (q = 0) = false := decide_eq_false (by omega)
  have gq2 : (q == 0) = false := by simp; omega
  go_wp2_with fail
  rw [HS.out] at ha ⊢
  go_loopw [9, 10, 11] (fun x9 _ _ wr => ∃ k : Nat, k ≤ n ∧ x9 = .int .i64 k ∧ AccAt wr s q p (leftAt q k) 0 ∧ Below w.heap.size w wr) (fun x9 _ _ _ => n - (intOf x9).toNat)
  case atStart =>
    refine ⟨0, by omega, rfl, ?_, hb⟩
    rw [show leftAt q 0 = q from by unfold leftAt; split <;> omega]
    exact ha
  case round =>
    obtain ⟨k, hk, rfl, ha', hb'⟩ := hrel
    clear ha hb
    by_cases hkn : k < n
    · obtain ⟨k0, k1, k2, k3⟩ := ha'.cells
      have hl1 : -9223372036854775808 ≤ leftAt q k := by unfold leftAt; split <;> omega
      have hl2 : leftAt q k ≤ 9223372036854775807 := by unfold leftAt; split <;> omega
      go_wp2_with fail
      clear k0 k1 k2 k3
      refine (ause_any q p (leftAt q k) 0 _ hl1 hl2).mono ?_
      clear hl1 hl2
      by_cases hkq : (k : Int) < q
      · have gk : decide ((k : Int) < q) = true := decide_eq_true hkq
        rw [use_more H.out hkq]
        rintro e w5 ⟨rfl, hb5⟩
        replace hb' := hb'.trans (hb5.mono hb'.size)
        have hs := hb'.size
        replace ha' := (ha'.kept hb5).alloc (.cells #[.int .i64 q, .int .i64 p, .int .i64 (q - k - 1), .int .i64 0] 32)
        have hf := ha'.free
        obtain ⟨k0, k1, k2, k3⟩ := ha'.cells
        go_wp2
        go_roundw
        case rel => exact ⟨k + 1, by omega, by go_num, by rw [left_step hkq]; exact ha'.put _ _ _ _, below_put (hb'.alloc hs _) hB _ _ _ _⟩
        case measure => simp [intOf]; omega
      · have gk : decide ((k : Int) < q) = false := decide_eq_false hkq
        rw [use_none H.out hkq]
        rintro e w5 ⟨rfl, hb5⟩
        replace hb' := hb'.trans (hb5.mono hb'.size)
        have hs := hb'.size
        replace ha' := (ha'.kept hb5).alloc (.cells #[.int .i64 0, .int .i64 0, .int .i64 0, .int .i64 0] 32)
        rw [left_stay hkq] at ha'
        obtain ⟨k0, k1, k2, k3⟩ := ha'.cells
        go_wp2_with fail
        clear k0 k1 k2 k3
        refine (aspent_any q p 0 0 _).mono ?_
        rw [show spentB q p 0 0 = true from decide_eq_true ⟨(by have := H.out; unfold FullA at *; omega), rfl⟩]
        rintro e w6 ⟨rfl, hb6⟩
        have hs6 := (hb'.alloc hs (.cells #[.int .i64 0, .int .i64 0, .int .i64 0, .int .i64 0] 32)).size
        replace hb' := (hb'.alloc hs (.cells #[.int .i64 0, .int .i64 0, .int .i64 0, .int .i64 0] 32)).trans (hb6.mono hs6)
        replace ha' := ha'.kept hb6
        go_wp2
        go_roundw
        case rel => exact ⟨k + 1, by omega, by go_num, by rw [left_stay (by omega)]; exact ha', hb'⟩
        case measure => simp [intOf]; omega
    · obtain rfl : k = n := by omega
      have HL := Lib.hid (left_full (k := k) H.out)
      generalize leftAt q k = L at ha' HL
      obtain ⟨fc, HC⟩ : ∃ fc, Hid (tickP q p L 0 (p - 1) = ((q, p, L, fc), false)) := by
        obtain ⟨fc, e⟩ := tick_less HL.out
        exact ⟨fc, Lib.hid e⟩
      go_upto_region 19 with fail
      go_cut [12, 13] (fun c t W => ∃ b : Nat, c = .pointer (some ⟨b, 0, none⟩) ∧ t = .bool false ∧ s ≠ b ∧ AccAt W s q p L 0 ∧ AccAt W b q p L fc ∧ Below w.heap.size w W)
      case first =>
        have HN := anext_any q p L 0
        rw [next_full HL.out] at HN
        have HT : ∀ W, Calls Try.prog 21 #[acc q p L 0, .int .i64 (IntKind.i64.wrap (p - 1))] W fun e w' => e = .returned (.tuple #[accT (q, p, L, fc), .bool false]) ∧ Below W.heap.size W w' := by
          intro W
          have := atick_any q p L 0 (p - 1) W (by omega) (by omega)
          rw [HC.out] at this
          rw [show IntKind.i64.wrap (p - 1) = p - 1 from by rw [IntKind.wrap_i64]; omega]
          exact this
        have hda : AccAt wr.drew s q p L 0 := ha'
        have hdb : Below w.heap.size w wr.drew := hb'.drew
        have hneS : s ≠ wr.heap.size := Nat.ne_of_lt hda.lt
        have hleS : w.heap.size ≤ wr.heap.size := hdb.size
        have HK2 : ∀ o, SW w s q p L 0 (wr.alloc o).drew := fun o => SW.make (AccAt.alloc (w := wr) hda o) ((Below.alloc (w := wr.drew) hdb hleS o))
        have HN2 : AccAt (wr.alloc (.cells #[.int .i64 0, .int .i64 0, .int .i64 0, .int .i64 0] 32)).drew wr.heap.size 0 0 0 0 := AccAt.new wr 0 0 0 0
        obtain ⟨k0, k1, k2, k3⟩ := ha'.cells
        go_wp2_with fail
        clear ha' hb' k0 k1 k2 k3
        have hne9 : True := trivial
        have hle9 : True := trivial
        have hn9 : True := trivial
        go_region_held3 (fun W => SW w s q p L 0 W) (first | (with_reducible exact SW.make hda hdb) | (with_reducible exact SW.make (hda.alloc _) (hdb.alloc hdb.size _)) | (with_reducible exact HK2 _) | (with_reducible exact SW.make (hda.apart hne9 _ _ _ _) (below_put hdb hle9 _ _ _ _)) | fail) (first | (go_at_call 39; with_reducible refine (HN _).mono ?_; rintro e w9 ⟨rfl, hbx⟩; (first | (have hS9 : SW w s q p L 0 w9 := (by with_reducible exact SW.step (SW.make hda hdb) hbx); (try (have hn9 := (by with_reducible exact AccAt.kept hn9 hbx); obtain ⟨m0, m1, m2, m3⟩ := hn9.cells; have mf := hn9.free)); obtain ⟨hda, hdb, g0, g1, g2, g3⟩ := hS9) | (have hne9 := Nat.ne_of_lt hda.lt; have hle9 := hdb.size; have hS9 : SW w s q p L 0 w9 := (by with_reducible exact SW.step (SW.make (hda.alloc _) (hdb.alloc hdb.size _)) hbx); have hn9 := (by with_reducible exact AccAt.kept (AccAt.new _ 0 0 0 0) hbx); obtain ⟨hda, hdb, g0, g1, g2, g3⟩ := hS9; obtain ⟨m0, m1, m2, m3⟩ := hn9.cells; have mf := hn9.free) | (have hne9 := hneS; have hle9 := hleS; have hS9 : SW w s q p L 0 w9 := (by with_reducible exact SW.step (HK2 _) hbx); have hn9 := (by with_reducible exact AccAt.kept HN2 hbx); obtain ⟨hda, hdb, g0, g1, g2, g3⟩ := hS9; obtain ⟨m0, m1, m2, m3⟩ := hn9.cells; have mf := hn9.free) | fail)) | (go_at_call 21; with_reducible refine (HT _).mono ?_; rintro e w9 ⟨rfl, hbx⟩; (first | (have hS9 : SW w s q p L 0 w9 := (by with_reducible exact SW.step (SW.make hda hdb) hbx); (try (have hn9 := (by with_reducible exact AccAt.kept hn9 hbx); obtain ⟨m0, m1, m2, m3⟩ := hn9.cells; have mf := hn9.free)); obtain ⟨hda, hdb, g0, g1, g2, g3⟩ := hS9) | (have hne9 := Nat.ne_of_lt hda.lt; have hle9 := hdb.size; have hS9 : SW w s q p L 0 w9 := (by with_reducible exact SW.step (SW.make (hda.alloc _) (hdb.alloc hdb.size _)) hbx); have hn9 := (by with_reducible exact AccAt.kept (AccAt.new _ 0 0 0 0) hbx); obtain ⟨hda, hdb, g0, g1, g2, g3⟩ := hS9; obtain ⟨m0, m1, m2, m3⟩ := hn9.cells; have mf := hn9.free) | (have hne9 := hneS; have hle9 := hleS; have hS9 : SW w s q p L 0 w9 := (by with_reducible exact SW.step (HK2 _) hbx); have hn9 := (by with_reducible exact AccAt.kept HN2 hbx); obtain ⟨hda, hdb, g0, g1, g2, g3⟩ := hS9; obtain ⟨m0, m1, m2, m3⟩ := hn9.cells; have mf := hn9.free) | fail)) | fail)
        all_goals (go_wp2_with fail; go_meet; first | exact ⟨_, rfl, rfl, Nat.ne_of_lt hda.lt, hda.alloc _, AccAt.new _ q p L fc, hdb.alloc hdb.size _⟩ | exact ⟨_, rfl, rfl, hne9, hda.apart hne9 _ _ _ _, hn9.put _ _ _ _, below_put hdb hle9 _ _ _ _⟩ | fail)
      case rest =>
        obtain ⟨b, rfl, rfl, hsb, hsA, hbA, hbB⟩ := hcut
        clear ha' hb'
        go_upto_region 20 with fail
        go_cut [14, 15] (fun c t W => ∃ d : Nat, c = .pointer (some ⟨d, 0, none⟩) ∧ t = .bool true ∧ AccAt W s q p L 0 ∧ AccAt W b q p L fc ∧ AccAt W d q p q 0 ∧ Below w.heap.size w W)
        case first =>
          have HN := anext_any q p L 0
          rw [next_full HL.out] at HN
          have HT : ∀ W, Calls Try.prog 21 #[acc q p L 0, .int .i64 p] W fun e w' => e = .returned (.tuple #[accT (q, p, q, 0), .bool true]) ∧ Below W.heap.size W w' := by
            intro W
            have := atick_any q p L 0 p W (by omega) (by omega)
            rw [tick_last HL.out] at this
            exact this
          have hda : AccAt wc.drew s q p L 0 := hsA
          have hcb : AccAt wc.drew b q p L fc := hbA
          have hdb : Below w.heap.size w wc.drew := hbB.drew
          have hneS : s ≠ wc.heap.size := Nat.ne_of_lt hda.lt
          have hneB : b ≠ wc.heap.size := Nat.ne_of_lt hcb.lt
          have hleS : w.heap.size ≤ wc.heap.size := hdb.size
          have HK2 : ∀ o, SX w s q p L 0 b q p L fc (wc.alloc o).drew := fun o => SX.make (AccAt.alloc (w := wc) hda o) ((Below.alloc (w := wc.drew) hdb hleS o)) (AccAt.alloc (w := wc) hcb o)
          have HN2 : AccAt (wc.alloc (.cells #[.int .i64 0, .int .i64 0, .int .i64 0, .int .i64 0] 32)).drew wc.heap.size 0 0 0 0 := AccAt.new wc 0 0 0 0
          obtain ⟨k0, k1, k2, k3⟩ := hsA.cells
          go_wp2_with fail
          clear hsA hbA hbB hsb k0 k1 k2 k3
          have hne9 : True := trivial
          have hnb9 : True := trivial
          have hle9 : True := trivial
          have hn9 : True := trivial
          go_region_held3 (fun W => SX w s q p L 0 b q p L fc W) (first | (with_reducible exact SX.make hda hdb hcb) | (with_reducible exact SX.make (hda.alloc _) (hdb.alloc hdb.size _) (hcb.alloc _)) | (with_reducible exact HK2 _) | (with_reducible exact SX.make (hda.apart hne9 _ _ _ _) (below_put hdb hle9 _ _ _ _) (hcb.apart hnb9 _ _ _ _)) | fail) (first | (go_at_call 39; with_reducible refine (HN _).mono ?_; rintro e w9 ⟨rfl, hbx⟩; (first | (have hS9 : SX w s q p L 0 b q p L fc w9 := (by with_reducible exact SX.step (SX.make hda hdb hcb) hbx); (try (have hn9 := (by with_reducible exact AccAt.kept hn9 hbx); obtain ⟨m0, m1, m2, m3⟩ := hn9.cells; have mf := hn9.free)); obtain ⟨⟨hda, hdb, g0, g1, g2, g3⟩, hcb⟩ := hS9) | (have hne9 := Nat.ne_of_lt hda.lt; have hnb9 := Nat.ne_of_lt hcb.lt; have hle9 := hdb.size; have hS9 : SX w s q p L 0 b q p L fc w9 := (by with_reducible exact SX.step (SX.make (hda.alloc _) (hdb.alloc hdb.size _) (hcb.alloc _)) hbx); have hn9 := (by with_reducible exact AccAt.kept (AccAt.new _ 0 0 0 0) hbx); obtain ⟨⟨hda, hdb, g0, g1, g2, g3⟩, hcb⟩ := hS9; obtain ⟨m0, m1, m2, m3⟩ := hn9.cells; have mf := hn9.free) | (have hne9 := hneS; have hnb9 := hneB; have hle9 := hleS; have hS9 : SX w s q p L 0 b q p L fc w9 := (by with_reducible exact SX.step (HK2 _) hbx); have hn9 := (by with_reducible exact AccAt.kept HN2 hbx); obtain ⟨⟨hda, hdb, g0, g1, g2, g3⟩, hcb⟩ := hS9; obtain ⟨m0, m1, m2, m3⟩ := hn9.cells; have mf := hn9.free) | fail)) | (go_at_call 21; with_reducible refine (HT _).mono ?_; rintro e w9 ⟨rfl, hbx⟩; (first | (have hS9 : SX w s q p L 0 b q p L fc w9 := (by with_reducible exact SX.step (SX.make hda hdb hcb) hbx); (try (have hn9 := (by with_reducible exact AccAt.kept hn9 hbx); obtain ⟨m0, m1, m2, m3⟩ := hn9.cells; have mf := hn9.free)); obtain ⟨⟨hda, hdb, g0, g1, g2, g3⟩, hcb⟩ := hS9) | (have hne9 := Nat.ne_of_lt hda.lt; have hnb9 := Nat.ne_of_lt hcb.lt; have hle9 := hdb.size; have hS9 : SX w s q p L 0 b q p L fc w9 := (by with_reducible exact SX.step (SX.make (hda.alloc _) (hdb.alloc hdb.size _) (hcb.alloc _)) hbx); have hn9 := (by with_reducible exact AccAt.kept (AccAt.new _ 0 0 0 0) hbx); obtain ⟨⟨hda, hdb, g0, g1, g2, g3⟩, hcb⟩ := hS9; obtain ⟨m0, m1, m2, m3⟩ := hn9.cells; have mf := hn9.free) | (have hne9 := hneS; have hnb9 := hneB; have hle9 := hleS; have hS9 : SX w s q p L 0 b q p L fc w9 := (by with_reducible exact SX.step (HK2 _) hbx); have hn9 := (by with_reducible exact AccAt.kept HN2 hbx); obtain ⟨⟨hda, hdb, g0, g1, g2, g3⟩, hcb⟩ := hS9; obtain ⟨m0, m1, m2, m3⟩ := hn9.cells; have mf := hn9.free) | fail)) | fail)
          all_goals (go_wp2_with fail; go_meet; first | exact ⟨_, rfl, rfl, hda.apart hne9 _ _ _ _, hcb.apart hnb9 _ _ _ _, hn9.put _ _ _ _, below_put hdb hle9 _ _ _ _⟩ | exact ⟨_, rfl, rfl, hda.alloc _, hcb.alloc _, AccAt.new _ q p q 0, hdb.alloc hdb.size _⟩ | fail)
        case rest =>
          obtain ⟨d, rfl, rfl, hsA, hbA, hdA, hbB⟩ := hcut
          obtain ⟨k0, k1, k2, k3⟩ := hsA.cells
          obtain ⟨m0, m1, m2, m3⟩ := hbA.cells
          obtain ⟨n0, n1, n2, n3⟩ := hdA.cells
          go_wp2
          go_ret
          exact ⟨rfl, hbB⟩

end Go.Proofs.Ytjnmdkdgkjakoaa
