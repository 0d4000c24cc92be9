/- The law SlotsKnown, walked: it returns true. -/
import Derived.Test.YtjnmdkdgkjakoaaSlotsE
namespace Go.Proofs.Ytjnmdkdgkjakoaa
open Go.RowKit
set_option linter.unusedVariables false
set_option linter.unusedSimpArgs false

set_option maxHeartbeats 1000000 in
set_option maxRecDepth 100000 in
theorem slotsKnown_any (w : World) : Calls Try.prog 7 #[] w fun e w' => e = .returned (.bool true) ∧ Below w.heap.size w w' := by
  go_enter Try.func7, Try.ntmps7
  go_wp2_with fail
  refine (awake_any _).mono ?_
  rintro e w0 ⟨rfl, hb0⟩
  go_wp2_with fail
  refine (new_any 2 w0 (by omega) (by omega)).mono ?_
  rintro e w1 ⟨rfl, hs1, hz1, hb1⟩
  have hb := hb0.trans (hb1.mono hb0.size)
  replace hs1 : SlotsAt w1 (w0.heap.size + 1) w0.heap.size [(0, false), (0, false)] := hs1
  obtain ⟨a, HA⟩ : ∃ a, Hid (w0.heap.size = a) := ⟨_, Lib.hid rfl⟩
  have hB : w.heap.size ≤ a := by rw [← HA.out]; exact hb0.size
  rw [HA.out] at hs1 ⊢
  have ha1 := hs1.lt.1
  clear hz1 hb1 hb0
  go_wp2_with fail
  refine (take_w _ _ w1 _ hs1 (sized_of _ (by decide)) w.heap.size hB).mono ?_
  rw [show takeP [(0, false), (0, false)] = (0, 0, [(1, true), (0, false)]) from rfl]
  rintro e w2 ⟨rfl, hs2, hz2, hb2⟩
  replace hb := hb.trans hb2
  clear hs1 hb2
  go_wp2_with fail
  refine (take_w _ _ w2 _ hs2 (sized_of _ (by decide)) w.heap.size hB).mono ?_
  rw [show takeP [(1, true), (0, false)] = (1, 0, [(1, true), (1, true)]) from rfl]
  rintro e w3 ⟨rfl, hs3, hz3, hb3⟩
  replace hb := hb.trans hb3
  clear hs2 hb3
  go_wp2_with fail
  refine (take_w _ _ w3 _ hs3 (sized_of _ (by decide)) w.heap.size hB).mono ?_
  rw [show takeP [(1, true), (1, true)] = (0, 3, [(1, true), (1, true)]) from rfl]
  rintro e w4 ⟨rfl, hs4, hz4, hb4⟩
  replace hb := hb.trans hb4
  clear hs3 hb4
  go_wp2_with fail
  refine (free_w _ _ 2 w4 _ hs4 (sized_of _ (by decide)) w.heap.size hB (by omega)).mono ?_
  rw [show freeP [(1, true), (1, true)] 2 = (2, [(1, true), (1, true)]) from rfl]
  rintro e w5 ⟨rfl, hs5, hz5, hb5⟩
  replace hb := hb.trans hb5
  clear hs4 hb5
  go_wp2_with fail
  refine (free_w _ _ (-1) w5 _ hs5 (sized_of _ (by decide)) w.heap.size hB (by omega)).mono ?_
  rw [show freeP [(1, true), (1, true)] (-1) = (2, [(1, true), (1, true)]) from rfl]
  rintro e w6 ⟨rfl, hs6, hz6, hb6⟩
  replace hb := hb.trans hb6
  clear hs5 hb6
  go_wp2_with fail
  refine (free_w _ _ 1 w6 _ hs6 (sized_of _ (by decide)) w.heap.size hB (by omega)).mono ?_
  rw [show freeP [(1, true), (1, true)] 1 = (0, [(1, true), (1, false)]) from rfl]
  rintro e w7 ⟨rfl, hs7, hz7, hb7⟩
  replace hb := hb.trans hb7
  clear hs6 hb7
  go_wp2_with fail
  refine (free_w _ _ 1 w7 _ hs7 (sized_of _ (by decide)) w.heap.size hB (by omega)).mono ?_
  rw [show freeP [(1, true), (1, false)] 1 = (2, [(1, true), (1, false)]) from rfl]
  rintro e w8 ⟨rfl, hs8, hz8, hb8⟩
  replace hb := hb.trans hb8
  clear hs7 hb8
  go_wp2_with fail
  refine (take_w _ _ w8 _ hs8 (sized_of _ (by decide)) w.heap.size hB).mono ?_
  rw [show takeP [(1, true), (1, false)] = (65, 0, [(1, true), (2, true)]) from rfl]
  rintro e w9 ⟨rfl, hs9, hz9, hb9⟩
  replace hb := hb.trans hb9
  clear hs8 hb9
  go_wp2_with fail
  refine (new_any 0 w9 (by omega) (by omega)).mono ?_
  rintro e w10 ⟨rfl, hs10, hz10, hb10⟩
  replace hs10 : SlotsAt w10 (w9.heap.size + 1) w9.heap.size [(0, false)] := hs10
  replace hs9 := hs9.below hb10 hs9.lt.1 hs9.lt.2
  replace hb := hb.trans (hb10.mono hb.size)
  obtain ⟨c, HC⟩ : ∃ c, Hid (w9.heap.size = c) := ⟨_, Lib.hid rfl⟩
  have hc1 : a + 1 < c := by rw [← HC.out]; omega
  rw [HC.out] at hs10 ⊢
  clear hz10 hb10
  go_wp2_with fail
  refine (take_w _ _ w10 _ hs10 (sized_of _ (by decide)) c (Nat.le_refl _)).mono ?_
  rw [show takeP [(0, false)] = (0, 0, [(1, true)]) from rfl]
  rintro e w11 ⟨rfl, hs11, hz11, hb11⟩
  replace hs9 := hs9.below hb11 hc1 (by omega)
  replace hb := hb.trans (hb11.mono (by omega))
  clear hs10 hb11
  go_wp2_with fail
  refine (take_w _ _ w11 _ hs11 (sized_of _ (by decide)) c (Nat.le_refl _)).mono ?_
  rw [show takeP [(1, true)] = (0, 3, [(1, true)]) from rfl]
  rintro e w12 ⟨rfl, hs12, hz12, hb12⟩
  replace hs9 := hs9.below hb12 hc1 (by omega)
  replace hb := hb.trans (hb12.mono (by omega))
  clear hs11 hb12 hs12
  go_wp2_with fail
  refine (place_any 65 _ (by omega) (by omega)).mono ?_
  rintro e w' ⟨rfl, rfl⟩
  go_wp2_with fail
  refine (place_neg (-1) _ (by omega)).mono ?_
  rintro e w' ⟨rfl, rfl⟩
  have hz := sized_of [(1, true), (2, true)] (by decide)
  go_wp2_with fail
  refine (has_w _ _ 1 w12 _ hs9 hz (by omega)).mono ?_
  rw [show hasB [(1, true), (2, true)] 1 = false from rfl]
  rintro e w' ⟨rfl, rfl⟩
  go_wp2_with fail
  refine (has_w _ _ 65 w12 _ hs9 hz (by omega)).mono ?_
  rw [show hasB [(1, true), (2, true)] 65 = true from rfl]
  rintro e w' ⟨rfl, rfl⟩
  go_wp2_with fail
  refine (has_w _ _ (-64) w12 _ hs9 hz (by omega)).mono ?_
  rw [show hasB [(1, true), (2, true)] (-64) = false from rfl]
  rintro e w' ⟨rfl, rfl⟩
  go_wp2_with fail
  refine (list_any _ _ w12 _ hz.1 hs9 hz.2).mono ?_
  rw [show nm [(1, true), (2, true)] [((1 : Int), true), (2, true)].length = [0, 65] from rfl]
  rintro e w13 ⟨v, rfl, hv, hb13⟩
  replace hs9 := hs9.below hb13 hs9.lt.1 hs9.lt.2
  replace hb := hb.trans (hb13.mono hb.size)
  clear hb13
  have hr : Reads (w13.alloc (.cells #[.int .i64 0, .int .i64 65] 3)) v [0, 65] := Owns.reads (B := w12.heap.size) (World.ownsRow.alloc hv _)
  have hr2 : Reads (w13.alloc (.cells #[.int .i64 0, .int .i64 65] 3)) (.slice (some ⟨w13.heap.size, 0, none⟩) 2 2) [0, 65] := by
    refine .inr ⟨w13.heap.size, 2, rfl, fun i hi => ?_⟩
    rw [World.cell?_alloc_new]
    match i, hi with
    | 0, _ => rfl
    | 1, _ => rfl
  clear hv
  go_wp2_with fail
  refine (ints_same _ [0, 65] _ _ (by decide) hr hr2).mono ?_
  rintro e w14 ⟨rfl, hb14⟩
  have hb14' : Below w13.heap.size w13 w14 := ((Below.refl _ _).alloc (Nat.le_refl _) _).trans (hb14.mono (by simp))
  replace hs9 := hs9.below hb14' hs9.lt.1 hs9.lt.2
  replace hb := hb.trans (hb14'.mono hb.size)
  clear hb14 hb14' hr hr2
  go_wp2_with fail
  refine (len_w _ _ w14 _ hs9 hz w.heap.size hb.size).mono ?_
  rw [show nm [(1, true), (2, true)] [((1 : Int), true), (2, true)].length = [0, 65] from rfl]
  rintro e w15 ⟨rfl, hs15, hb15⟩
  go_wp2
  go_ret
  exact ⟨rfl, hb.trans hb15⟩

end Go.Proofs.Ytjnmdkdgkjakoaa
