/- The law SlotsRoom, walked: at any number it returns true, and nothing that was there is touched. -/
import Derived.Test.YtjnmdkdgkjakoaaSlotsE
namespace Go.Proofs.Ytjnmdkdgkjakoaa
open Go.RowKit
set_option linter.unusedVariables false
set_option linter.unusedSimpArgs false

/-- m places, the first i of them as (t1, d1), the others as (t0, d0). -/
def parted (m i : Nat) (t1 : Int) (d1 : Bool) (t0 : Int) (d0 : Bool) : List (Int × Bool) :=
  (List.range m).map fun j => if j < i then (t1, d1) else (t0, d0)

theorem parted_length (m i : Nat) (t1 : Int) (d1 : Bool) (t0 : Int) (d0 : Bool) : (parted m i t1 d1 t0 d0).length = m := by simp [parted]

theorem parted_get (m i j : Nat) (t1 : Int) (d1 : Bool) (t0 : Int) (d0 : Bool) (h : j < m) :
    (parted m i t1 d1 t0 d0).getD j default = if j < i then (t1, d1) else (t0, d0) := by
  simp [parted, List.getD_eq_getElem?_getD, h]

theorem parted_set (m i : Nat) (t1 : Int) (d1 : Bool) (t0 : Int) (d0 : Bool) :
    (parted m i t1 d1 t0 d0).set i (t1, d1) = parted m (i + 1) t1 d1 t0 d0 := by
  apply List.ext_getElem?
  intro j
  rw [List.getElem?_set]
  simp only [parted, List.getElem?_map, List.length_map, List.length_range]
  by_cases h : j < m
  · rw [List.getElem?_range h]
    by_cases e : i = j
    · subst e; simp [h]
    · rw [if_neg e]
      simp only [Option.map_some]
      congr 1
      by_cases hj : j < i
      · rw [if_pos hj, if_pos (by omega)]
      · rw [if_neg hj, if_neg (by omega)]
  · rw [List.getElem?_eq_none (by simp; omega)]
    split <;> simp <;> omega

theorem parted_all (m : Nat) (t1 : Int) (d1 : Bool) (t0 : Int) (d0 : Bool) (u : Int) (d : Bool) : parted m m t1 d1 t0 d0 = parted m 0 u d t1 d1 := by
  unfold parted
  apply List.map_congr_left
  intro j hj
  rw [List.mem_range] at hj
  simp [hj]

theorem fresh_parted (m : Nat) (u : Int) (d : Bool) : fresh m = parted m 0 u d 0 false := by
  simp [fresh, parted, List.map_const']

theorem parted_sized (m i : Nat) (t1 : Int) (d1 : Bool) (t0 : Int) (d0 : Bool) (hm : m ≤ 64) (h1 : 0 ≤ t1) (h2 : t1 ≤ 1000) (h3 : 0 ≤ t0) (h4 : t0 ≤ 1000) : Sized (parted m i t1 d1 t0 d0) := by
  refine ⟨by rw [parted_length]; exact hm, fun j hj => ?_⟩
  rw [parted_length] at hj
  rw [parted_get _ _ _ _ _ _ _ hj]
  split <;> exact ⟨by simp only; omega, by simp only; omega⟩

theorem takeP_parted (m i : Nat) (t : Int) (h : i < m) :
    takeP (parted m i (t + 1) true t false) = ((i : Int) + 64 * t, 0, parted m (i + 1) (t + 1) true t false) := by
  have hf : (parted m i (t + 1) true t false).findIdx? (fun p => !p.2) = some i := by
    rw [List.findIdx?_eq_some_iff_getElem]
    refine ⟨by rw [parted_length]; exact h, ?_, ?_⟩
    · rw [← getD_of, parted_get _ _ _ _ _ _ _ h, if_neg (by omega)]; rfl
    · intro j hj
      rw [← getD_of, parted_get _ _ _ _ _ _ _ (by omega), if_pos hj]; simp
  unfold takeP
  rw [hf]
  simp only [parted_get _ _ _ _ _ _ _ h, if_neg (Nat.lt_irrefl i), parted_set]

theorem takeP_full (m : Nat) (t : Int) (u : Int) (d : Bool) : takeP (parted m m t true u d) = (0, 3, parted m m t true u d) := by
  have hf : (parted m m t true u d).findIdx? (fun p => !p.2) = none := by
    rw [List.findIdx?_eq_none_iff]
    intro x hx
    simp only [parted, List.mem_map, List.mem_range] at hx
    obtain ⟨j, hj, rfl⟩ := hx
    simp [hj]
  unfold takeP
  rw [hf]

theorem freeP_parted (m i : Nat) (t : Int) (h : i < m) (hm : m ≤ 64) (ht : 0 ≤ t) :
    freeP (parted m i (t + 1) false (t + 1) true) (i + 64 * t) = (0, parted m (i + 1) (t + 1) false (t + 1) true) := by
  have e1 : ((i : Int) + 64 * t) % 64 = i := by omega
  have e2 : ((i : Int) + 64 * t) / 64 = t := by omega
  have hh : hasB (parted m i (t + 1) false (t + 1) true) (i + 64 * t) = true := by
    unfold hasB
    rw [e1, e2, Int.toNat_natCast, parted_get _ _ _ _ _ _ _ h, if_neg (Nat.lt_irrefl i), parted_length, decide_eq_true h, decide_eq_true (by omega)]
    simp
  unfold freeP
  rw [if_pos hh, e1, Int.toNat_natCast, parted_get _ _ _ _ _ _ _ h, if_neg (Nat.lt_irrefl i), parted_set]

theorem nm_full (m k : Nat) (t u : Int) (d : Bool) (hk : k ≤ m) : (nm (parted m m t true u d) k).length = k := by
  unfold nm
  rw [List.length_map, List.filter_eq_self.2, List.length_range]
  intro j hj
  rw [List.mem_range] at hj
  rw [parted_get _ _ _ _ _ _ _ (by omega), if_pos (by omega)]

theorem nm_none (m k : Nat) (t u : Int) (d : Bool) (hk : k ≤ m) : (nm (parted m m t false u d) k).length = 0 := by
  unfold nm
  rw [List.length_map, List.length_eq_zero_iff, List.filter_eq_nil_iff]
  intro j hj
  rw [List.mem_range] at hj
  rw [parted_get _ _ _ _ _ _ _ (by omega), if_pos (by omega)]
  simp

theorem room_in (n : Int) (h1 : 1 ≤ n) (h2 : n ≤ 64) : room n = n.toNat := by unfold room; rw [if_neg (by omega), if_neg (by omega)]

set_option maxHeartbeats 400000 in
theorem slotsRoom_out (n : Int) (w : World) (h : n < 1 ∨ 64 < n) :
    Calls Try.prog 9 #[.int .i64 n] w fun e w' => e = .returned (.bool true) ∧ Below w.heap.size w w' := by
  by_cases c : n < 1
  · clear h
    go_enter Try.func9, Try.ntmps9
    go_wp2_with (go_at_call 22; refine (awake_any _).mono ?_; rintro e w' ⟨rfl, hb⟩)
    go_ret
    exact ⟨rfl, hb⟩
  · have c' : 64 < n := by omega
    clear h
    go_enter Try.func9, Try.ntmps9
    go_wp2_with (go_at_call 22; refine (awake_any _).mono ?_; rintro e w' ⟨rfl, hb⟩)
    go_ret
    exact ⟨rfl, hb⟩

set_option maxHeartbeats 1000000 in
set_option maxRecDepth 100000 in
theorem slotsRoom_in (m : Nat) (w : World) (h1 : 1 ≤ m) (h2 : m ≤ 64) :
    Calls Try.prog 9 #[.int .i64 m] w fun e w' => e = .returned (.bool true) ∧ Below w.heap.size w w' := by
  go_enter Try.func9, Try.ntmps9
  go_wp2_with fail
  refine (awake_any _).mono ?_
  rintro e w0 ⟨rfl, hb0⟩
  go_wp2_with fail
  refine (new_any m w0 (by omega) (by omega)).mono ?_
  rintro e w1 ⟨rfl, hs1, hz1, hb1⟩
  have hb01 := hb0.trans (hb1.mono hb0.size)
  rw [room_in m (by omega) (by omega), Int.toNat_natCast, fresh_parted m 1 true] at hs1
  obtain ⟨a, HA⟩ : ∃ a, Hid (w0.heap.size = a) := ⟨_, Lib.hid rfl⟩
  have hB : w.heap.size ≤ a := by rw [← HA.out]; exact hb0.size
  rw [HA.out] at hs1 ⊢
  clear hz1 hb1
  go_wp2_with fail
  go_loopw [4, 5, 6, 7, 8, 9, 10, 11, 12] (fun x4 _ _ _ _ _ _ _ _ wr => ∃ t : Nat, t ≤ 3 ∧ x4 = .int .i64 t ∧ SlotsAt wr (a + 1) a (parted m 0 ((t : Int) + 1) true t false) ∧ Below w.heap.size w wr) (fun x4 _ _ _ _ _ _ _ _ _ => 3 - (intOf x4).toNat)
  case atStart => exact ⟨0, by omega, rfl, hs1, hb01⟩
  case round =>
    obtain ⟨t, ht, rfl, hs, hbel⟩ := hrel
    obtain ⟨wo, rfl⟩ : ∃ wo : World, wo = wr := ⟨_, rfl⟩
    clear hs1 hb01 hb0
    by_cases htt : t < 3
    · have hd : decide ((t : Int) < 3) = true := decide_eq_true (by omega)
      go_wp2_with fail
      go_loopw [5, 6, 7, 8, 9] (fun x5 _ _ _ _ wr => ∃ k : Nat, k ≤ m ∧ x5 = .int .i64 k ∧ SlotsAt wr (a + 1) a (parted m k ((t : Int) + 1) true t false) ∧ Below w.heap.size w wr) (fun x5 _ _ _ _ _ => m - (intOf x5).toNat)
      case atStart => exact ⟨0, by omega, rfl, hs, hbel⟩
      case round =>
        obtain ⟨k, hk, rfl, hs', hbel'⟩ := hrel
        clear hs hbel
        by_cases hkm : k < m
        · go_wp2_with fail
          refine (take_w _ _ wr _ hs' (parted_sized _ _ _ _ _ _ h2 (by omega) (by omega) (by omega) (by omega)) w.heap.size hB).mono ?_
          rw [takeP_parted m k t hkm]
          rintro e w3 ⟨rfl, hs3, hz3, hb3⟩
          go_wp2_with fail
          refine (place_any _ _ (by omega) (by omega)).mono ?_
          rw [show ((k : Int) + 64 * (t : Int)) % 64 = k from by omega, show ((k : Int) + 64 * (t : Int)) / 64 = t from by omega]
          rintro e w' ⟨rfl, rfl⟩
          go_wp2
          go_roundw
          case rel => exact ⟨k + 1, by omega, by go_num, hs3, hbel'.trans hb3⟩
          case measure => simp [intOf]; omega
        · obtain rfl : k = m := by omega
          go_wp2_with fail
          refine (take_w _ _ wr _ hs' (parted_sized _ _ _ _ _ _ h2 (by omega) (by omega) (by omega) (by omega)) w.heap.size hB).mono ?_
          rw [takeP_full]
          rintro e w3 ⟨rfl, hs3, hz3, hb3⟩
          go_wp2_with fail
          refine (len_w _ _ _ _ hs3 (parted_sized _ _ _ _ _ _ h2 (by omega) (by omega) (by omega) (by omega)) w.heap.size (by rw [hz3]; exact hbel'.size)).mono ?_
          rw [parted_length, nm_full _ _ _ _ _ (Nat.le_refl _)]
          rintro e w4 ⟨rfl, hs4, hb4⟩
          rw [parted_all k ((t : Int) + 1) true t false ((t : Int) + 1) false] at hs4
          have hbel4 := (hbel'.trans hb3).trans hb4
          clear hs' hbel' hs3 hb3 hb4 hz3
          go_wp2_with fail
          go_loopw [12] (fun x12 wr => ∃ j : Nat, j ≤ k ∧ x12 = .int .i64 j ∧ SlotsAt wr (a + 1) a (parted k j ((t : Int) + 1) false ((t : Int) + 1) true) ∧ Below w.heap.size w wr) (fun x12 _ => k - (intOf x12).toNat)
          case atStart => exact ⟨0, by omega, rfl, hs4, hbel4⟩
          case round =>
            obtain ⟨j, hj, rfl, hs5, hbel5⟩ := hrel
            clear hs4 hbel4
            by_cases hjk : j < k
            · go_wp2_with fail
              refine (free_w _ _ _ _ _ hs5 (parted_sized _ _ _ _ _ _ h2 (by omega) (by omega) (by omega) (by omega)) w.heap.size hB (by omega)).mono ?_
              rw [freeP_parted k j t hjk h2 (by omega)]
              rintro e w6 ⟨rfl, hs6, hz6, hb6⟩
              go_wp2
              go_roundw
              case rel => exact ⟨j + 1, by omega, by go_num, hs6, hbel5.trans hb6⟩
              case measure => simp [intOf]; omega
            · obtain rfl : j = k := by omega
              rw [parted_all j ((t : Int) + 1) false ((t : Int) + 1) true ((t : Int) + 1 + 1) true] at hs5
              go_wp2
              go_roundw
              case rel => exact ⟨t + 1, by omega, by go_num, hs5, hbel5⟩
              case measure => simp [intOf]; omega
    · obtain rfl : t = 3 := by omega
      go_wp2_with fail
      refine (len_w _ _ _ _ hs (parted_sized _ _ _ _ _ _ h2 (by omega) (by omega) (by omega) (by omega)) w.heap.size hbel.size).mono ?_
      rw [parted_length, ← parted_all m ((3 : Nat) : Int) false 0 false, nm_none _ _ _ _ _ (Nat.le_refl _)]
      rintro e w4 ⟨rfl, hs4, hb4⟩
      go_wp2
      go_ret
      exact ⟨by simp, hbel.trans hb4⟩

theorem slotsRoom_any (n : Int) (w : World) :
    Calls Try.prog 9 #[.int .i64 n] w fun e w' => e = .returned (.bool true) ∧ Below w.heap.size w w' := by
  by_cases h : n < 1 ∨ 64 < n
  · exact slotsRoom_out n w h
  · obtain ⟨m, rfl⟩ := Int.eq_ofNat_of_zero_le (show 0 ≤ n by omega)
    exact slotsRoom_in m w (by omega) (by omega)

end Go.Proofs.Ytjnmdkdgkjakoaa
