/- The law SlotsPlays, walked: it returns true for every room and every list. -/
import Derived.Test.YtjnmdkdgkjakoaaSlotsR
import Derived.Test.YtjnmdkdgkjakoaaLifeReach
import Derived.Deep.RegionHeld3
import Derived.Deep.DeepCutAuto
namespace Go.Proofs.Ytjnmdkdgkjakoaa
open Go.RowKit
set_option linter.unusedVariables false
set_option linter.unusedSimpArgs false

set_option maxHeartbeats 2000000 in
theorem plays_long (m : Int) (n cap : Nat) (a : Option Addr) (w : World) (h : 200 < n) :
    Calls Try.prog 8 #[.int .i64 m, .slice a n cap] w fun e w' => e = .returned (.bool true) ∧ Below w.heap.size w w' := by
  have h' : (200 : Int) < n := by omega
  go_enter Try.func8, Try.ntmps8
  go_wp2_with fail
  refine (awake_any _).mono ?_
  rintro e w0 ⟨rfl, hb0⟩
  go_wp2
  go_ret
  exact ⟨rfl, hb0⟩

/-- What a step of a drawn region keeps: the list's number in its cell. -/
abbrev SP (w : World) (lb j : Nat) (x : Int) (W : World) : Prop := Below w.heap.size w W ∧ W.cell? ⟨lb, j, none⟩ = some (.int .i64 x)

theorem SP.of {w W : World} {lb j : Nat} {x : Int} (hc : Hid (w.cell? ⟨lb, j, none⟩ = some (.int .i64 x))) (hb : Below w.heap.size w W) : SP w lb j x W := ⟨hb, cell_later hb hc.out⟩

theorem Reads.form {W : World} {v : Value} {xs : List Int} (h : Reads W v xs) : ∃ A c, v = .slice A xs.length c := by
  rcases h with ⟨rfl, rfl⟩ | ⟨g, cap, rfl, _⟩
  · exact ⟨_, _, rfl⟩
  · exact ⟨_, _, rfl⟩

theorem pl_list2 {w0 W : World} {b a b' a' c' g n : Nat} {ps qs : List (Int × Bool)} {D : DataW Unit} (h : Play w0 b a b' a' c' g n ps qs D W) (hz : Sized ps) :
    Calls Try.prog 29 #[.pointer (some ⟨b, 0, none⟩)] W fun e w' => ∃ A c, e = .returned (.slice A (nm ps ps.length).length c) ∧ Reads w' (.slice A (nm ps ps.length).length c) (nm ps ps.length) ∧ Below W.heap.size W w' ∧ Play w0 b a b' a' c' g n ps qs D w' := by
  refine (pl_list h hz).mono ?_
  rintro e w' ⟨v, rfl, k1, k2, k3⟩
  obtain ⟨A, c, rfl⟩ := k1.form
  exact ⟨A, c, rfl, k1, k2, k3⟩

theorem pl_all2 {w0 W : World} {b a b' a' c' g n : Nat} {ps qs : List (Int × Bool)} {D : DataW Unit} (h : Play w0 b a b' a' c' g n ps qs D W) (hz : Sized qs) :
    Calls Try.prog 34 #[.pointer (some ⟨b', 0, none⟩)] W fun e w' => ∃ A c, e = .returned (.slice A (nm qs qs.length).length c) ∧ Reads w' (.slice A (nm qs qs.length).length c) (nm qs qs.length) ∧ Below W.heap.size W w' ∧ Play w0 b a b' a' c' g n ps qs D w' := by
  refine (pl_all h hz).mono ?_
  rintro e w' ⟨v, rfl, k1, k2, k3⟩
  obtain ⟨A, c, rfl⟩ := k1.form
  exact ⟨A, c, rfl, k1, k2, k3⟩

theorem upto_fresh (m k : Nat) (h : m ≤ 64) : Upto (fresh m) k := ⟨by rw [fresh_length]; exact h, fun j _ => by rw [fresh_get]; simp⟩

theorem untold_none (ps : List (Int × Bool)) : Untold ps (.map []) := fun _ _ _ _ => rfl

set_option maxHeartbeats 4000000 in
set_option maxRecDepth 100000 in
theorem plays_short (m : Int) (n cap : Nat) (a : Option Addr) (xs : List Int) (w : World) (h : n ≤ 200) (hx : RowAt w a n xs) (hr : ∀ j, j < n → -9223372036854775808 ≤ xs.getD j 0 ∧ xs.getD j 0 ≤ 9223372036854775807) (hm1 : -9223372036854775808 ≤ m) (hm2 : m ≤ 9223372036854775807) :
    Calls Try.prog 8 #[.int .i64 m, .slice a n cap] w fun e w' => e = .returned (.bool true) ∧ Below w.heap.size w w' := by
  have HX := Lib.hid hx
  have HR := Lib.hid hr
  clear hx hr
  go_enter Try.func8, Try.ntmps8
  go_wp2_with fail
  refine (awake_any _).mono ?_
  rintro e w0 ⟨rfl, hb0⟩
  have h' : (n : Int) ≤ 200 := by omega
  go_wp2_with fail
  refine (new_any m w0 hm1 hm2).mono ?_
  rintro e w1 ⟨rfl, hs1, hz1, hb1⟩
  have hb := hb0.trans (hb1.mono hb0.size)
  have HZ := Lib.hid hz1
  clear hz1 hb1
  go_wp2_with fail
  refine (rnew_any6 m w1).mono ?_
  rintro e w2 ⟨b', a', c', rfl, hn2, i1, i2, i3, hb2⟩
  have hs2 := hs1.below hb2 hs1.lt.1 hs1.lt.2
  replace hb := hb.trans (hb2.mono hb.size)
  have hmp : (w2.alloc (.map #[] 0)).ownsMap Try.prog 3 (plainElem (H := Unit) Try.prog 4) w2.heap.size 0 (.map []) := World.ownsMap_made w2 _ _ _
  have hP : Play w (w0.heap.size + 1) w0.heap.size b' a' c' w2.heap.size 0 (fresh (room m)) (fresh (room m)) (.map []) (w2.alloc (.map #[] 0)) :=
    ⟨hs2.below ((Below.refl _ _).alloc (Nat.le_refl _) _) hs2.lt.1 hs2.lt.2, hn2.below ((Below.refl _ _).alloc (Nat.le_refl _) _) hn2.lt.1 hn2.lt.2.1 hn2.lt.2.2, hmp, hb.alloc hb.size _⟩
  have L : Lies w.heap.size (w0.heap.size + 1) w0.heap.size b' a' c' w2.heap.size w1.heap.size w2.heap.size := by
    have := hb0.size
    have := HZ.out
    have := hn2.lt
    exact ⟨by omega, by omega, by omega, by omega, i1, i2, i3, this.1, this.2.1, this.2.2, Nat.le_refl _⟩
  have HU := Lib.hid (upto_fresh (room m) 0 (room_le m))
  have HO := Lib.hid (untold_none (fresh (room m)))
  obtain ⟨b, HB⟩ : ∃ b, Hid (w0.heap.size + 1 = b) := ⟨_, Lib.hid rfl⟩
  obtain ⟨s, HS⟩ : ∃ s, Hid (w0.heap.size = s) := ⟨_, Lib.hid rfl⟩
  obtain ⟨g, HG⟩ : ∃ g, Hid (w2.heap.size = g) := ⟨_, Lib.hid rfl⟩
  generalize w1.heap.size = N at L
  rw [HB.out, HS.out, HG.out] at hP L
  clear hb hmp hs2 hn2 hs1 hb2 i1 i2 i3 HZ
  rw [HB.out]
  have hmk := run_makeMap (P := Try.prog) 47 w2
  go_wp2_with fail
  rw [HG.out]
  generalize fresh (room m) = ps0 at hP HU HO
  go_loopw [8, 9, 10, 11, 12, 13, 14] (fun x8 _ _ _ _ _ _ wr => ∃ (k d : Nat) (ps : List (Int × Bool)) (D : DataW Unit), k ≤ n ∧ d ≤ k ∧ x8 = .int .i64 k ∧ Upto ps k ∧ Untold ps D ∧ Play w b s b' a' c' g d ps ps D wr) (fun x8 _ _ _ _ _ _ _ => n - (intOf x8).toNat)
  case atStart => exact ⟨0, 0, ps0, _, by omega, by omega, rfl, HU.out, HO.out, hP⟩
  case round =>
    obtain ⟨k, d, ps, D, hk, hd, rfl, hu, ho, hP'⟩ := hrel
    clear hP HU HO
    have HU := Lib.hid hu
    have HO := Lib.hid ho
    clear hu ho
    by_cases hkn : k < n
    · rcases HX.out with h0 | ⟨lb, off, rfl, hc⟩
      · omega
      · have hc0 := hc k hkn
        have hcell := cell_later hP'.hb hc0
        have hxr := HR.out k hkn
        have b1 : (k : Int) < (n : Int) := by omega
        have b2 : 0 ≤ (k : Int) := by omega
        clear hc
        generalize xs.getD k 0 = x at hcell hxr hc0
        have HC0 := Lib.hid hc0
        clear hc0
        obtain ⟨hx1, hx2⟩ := hxr
        have hz : Sized ps := HU.out.sized (by omega)
        have HZ := Lib.hid hz
        clear hz
        go_upto_if 35 with fail
        go_cut [] (fun W => ∃ (d' : Nat) (ps' : List (Int × Bool)) (D' : DataW Unit), d' ≤ k + 1 ∧ Upto ps' (k + 1) ∧ Untold ps' D' ∧ Play w b s b' a' c' g d' ps' ps' D' W)
        case first =>
          by_cases hneg : x < 0
          · have gneg : decide (x < 0) = true := decide_eq_true hneg
            rcases takeP_cases ps with e0 | ⟨i, hi, e0⟩
            · have HT := Lib.hid e0
              clear e0
              go_wp2_with fail
              refine (pl_take L hP' HZ.out).mono ?_
              rw [HT.out]
              rintro e w5 ⟨rfl, hP5⟩
              go_wp2_with fail
              refine (pl_rtake L hP5 HZ.out).mono ?_
              rw [HT.out]
              rintro e w6 ⟨rfl, hP6⟩
              go_wp2_with fail
              go_meet
              exact ⟨d, ps, D, by omega, HU.out.more, HO.out, hP6⟩
            · obtain ⟨id, HI⟩ : ∃ id, Hid ((i : Int) + 64 * (ps.getD i default).1 = id) := ⟨_, Lib.hid rfl⟩
              have hl := untold_name HU.out HO.out hi
              have hp := untold_put HU.out HO.out hi (.lit (.bool true))
              have hid : 0 ≤ id ∧ id ≤ 9223372036854775807 := by
                have h1 := HI.out
                have h2 := HU.out.1
                have h3 := HU.out.2 i hi
                omega
              rw [HI.out] at e0 hl hp
              have HT := Lib.hid e0
              have HL := Lib.hid hl
              have HP := Lib.hid hp
              have HV := Lib.hid (HU.out.set hi)
              clear e0 hl hp
              generalize ps.set i ((ps.getD i default).1 + 1, true) = rs at HT HP HV
              go_wp2_with fail
              refine (pl_take L hP' HZ.out).mono ?_
              rw [HT.out]
              rintro e w5 ⟨rfl, hP5⟩
              go_wp2_with fail
              refine (pl_rtake L hP5 HZ.out).mono ?_
              rw [HT.out]
              rintro e w6 ⟨rfl, hP6⟩
              have hlook := pl_look hP6 hid.1 hid.2 HL.out
              obtain ⟨w7, hstore, hP7⟩ := pl_store L hP6 (by omega) hid.1 hid.2
              go_wp2_with fail
              go_meet
              exact ⟨d + 1, rs, _, by omega, HV.out, HP.out, hP7⟩
          · have gneg : decide (x < 0) = false := decide_eq_false hneg
            go_upto_region 17 with fail
            go_cut [79] (fun c W => c = .bool false ∧ Play w b s b' a' c' g d (freeP ps x).2 (freeP ps x).2 D W)
            case first =>
              have hq := hP'.drew
              have hS := SP.of HC0 hq.hb
              go_wp2_with fail
              obtain ⟨-, hcell⟩ := hS
              go_region_held3 (fun W => SP w lb (off + k) x W) (first | (with_reducible exact SP.of HC0 hq.hb) | fail) (first | (go_at_call 25; with_reducible refine (pl_free L hq HZ.out x hx2).mono ?_; rintro e w9 ⟨rfl, hq⟩; have hS := SP.of HC0 hq.hb; obtain ⟨-, hcell⟩ := hS) | (go_at_call 33; with_reducible refine (pl_rfree L hq HZ.out x hx2).mono ?_; rintro e w9 ⟨rfl, hq⟩; have hS := SP.of HC0 hq.hb; obtain ⟨-, hcell⟩ := hS) | fail)
              all_goals (go_wp2_with fail; go_meet; exact ⟨rfl, hq⟩)
            case rest =>
              obtain ⟨rfl, hP5⟩ := hcut
              go_wp2_with fail
              go_meet
              exact ⟨d, _, D, by omega, (HU.out.free x).more, HO.out.free x, hP5⟩
        case rest =>
          obtain ⟨d', ps', D', hd', hu', ho', hP5⟩ := hcut
          have HZ2 := Lib.hid (hu'.sized (show k + 1 ≤ 1000000 by omega))
          have HU2 := Lib.hid hu'
          have HO2 := Lib.hid ho'
          have hle : (nm ps' ps'.length).length ≤ 1000 := by
            have := nm_length ps' ps'.length
            have := hu'.1
            omega
          clear hu' ho' hP' HU HO HZ hcell
          go_upto_region 19 with fail
          go_cut [108] (fun c W => c = .bool false ∧ Play w b s b' a' c' g d' ps' ps' D' W)
          case first =>
            have hq := hP5.drew
            have hS := SP.of HC0 hq.hb
            go_wp2_with fail
            clear hP5
            obtain ⟨-, hcell⟩ := hS
            go_region_held3 (fun W => SP w lb (off + k) x W) (first | (with_reducible exact SP.of HC0 hq.hb) | fail) (first | (go_at_call 29; with_reducible refine (pl_list2 hq HZ2.out).mono ?_; rintro e w9 ⟨A1, c1, rfl, hv1, hbx, hq⟩; have hS := SP.of HC0 hq.hb; obtain ⟨-, hcell⟩ := hS) | (go_at_call 34; with_reducible refine (pl_all2 hq HZ2.out).mono ?_; rintro e w9 ⟨A2, c2, rfl, hv2, hbx, hq⟩; (try (have hv1 := Reads.kept hv1 hbx)); have hS := SP.of HC0 hq.hb; obtain ⟨-, hcell⟩ := hS) | (go_at_call 28; with_reducible refine (ints_same _ _ _ _ hle hv1 hv2).mono ?_; rintro e w9 ⟨rfl, hbx⟩; have hq := hq.kept hbx; have hv1 := Reads.kept hv1 hbx; have hS := SP.of HC0 hq.hb; obtain ⟨-, hcell⟩ := hS) | (go_at_call 30; with_reducible refine (pl_len hq HZ2.out).mono ?_; rintro e w9 ⟨rfl, hq'⟩; have hbx := hq'; have hq := hq'; have hS := SP.of HC0 hq.hb; obtain ⟨-, hcell⟩ := hS) | (go_at_call 27; with_reducible refine (pl_has hq HZ2.out x hx2).mono ?_; rintro e w9 ⟨rfl, hq⟩; have hS := SP.of HC0 hq.hb; obtain ⟨-, hcell⟩ := hS) | (go_at_call 35; with_reducible refine (pl_rhas hq HZ2.out x hx2).mono ?_; rintro e w9 ⟨rfl, hq⟩; have hS := SP.of HC0 hq.hb; obtain ⟨-, hcell⟩ := hS) | fail)
            all_goals (go_wp2_with fail; go_meet; exact ⟨rfl, hq⟩)
          case rest =>
            obtain ⟨rfl, hP6⟩ := hcut
            clear hP5
            have hcell := cell_later hP6.hb HC0.out
            by_cases hneg : x < 0
            · have gneg : decide (x < 0) = true := decide_eq_true hneg
              have gneg2 : decide (0 ≤ x) = false := decide_eq_false (by omega)
              go_wp2_with fail
              refine (place_neg x _ hneg).mono ?_
              rintro e w9 ⟨rfl, rfl⟩
              go_wp2
              go_roundw
              case rel => exact ⟨k + 1, d', ps', D', by omega, by omega, by go_num, HU2.out, HO2.out, hP6⟩
              case measure => simp [intOf]; omega
            · have gneg : decide (x < 0) = false := decide_eq_false hneg
              have gneg2 : decide (0 ≤ x) = true := decide_eq_true (by omega)
              go_wp2_with fail
              refine (place_any x _ (by omega) hx2).mono ?_
              rintro e w9 ⟨rfl, rfl⟩
              have hsum : x % 64 + 64 * (x / 64) = x := by omega
              go_wp2
              go_roundw
              case rel => exact ⟨k + 1, d', ps', D', by omega, by omega, by go_num, HU2.out, HO2.out, hP6⟩
              case measure => simp [intOf]; omega
    · obtain rfl : k = n := by omega
      go_wp2
      go_ret
      exact ⟨rfl, hP'.hb⟩

end Go.Proofs.Ytjnmdkdgkjakoaa
