/- The law AccountKnown, walked: it returns true. -/
import Derived.Test.YtjnmdkdgkjakoaaAccD
namespace Go.Proofs.Ytjnmdkdgkjakoaa
open Go.RowKit
set_option linter.unusedVariables false
set_option linter.unusedSimpArgs false

set_option maxHeartbeats 4000000 in
set_option maxRecDepth 100000 in
theorem accountKnown_any (w : World) : Calls Try.prog 10 #[] w fun e w' => e = .returned (.bool true) ∧ Below w.heap.size w w' := by
  go_enter Try.func10, Try.ntmps10
  go_wp2_with fail
  refine (awake8_any _).mono ?_
  rintro e w0 ⟨rfl, hb⟩
  go_wp2_with fail
  refine (anew_any 0 5 _).mono ?_
  rw [show newP 0 5 = ((0, 0, 0, 0), 1) from by decide]
  rintro e w1 ⟨rfl, hb1⟩
  replace hb := hb.trans (hb1.mono hb.size)
  have hA := AccAt.new w1 0 0 0 0
  have hs1 := hb.size
  replace hb := hb.alloc hs1 (.cells #[.int .i64 0, .int .i64 0, .int .i64 0, .int .i64 0] 32)
  go_wp2_with fail
  refine (anew_any 5 0 _).mono ?_
  rw [show newP 5 0 = ((0, 0, 0, 0), 1) from by decide]
  rintro e w2 ⟨rfl, hb2⟩
  replace hA := hA.kept hb2
  replace hb := hb.trans (hb2.mono hb.size)
  have hB := AccAt.new w2 0 0 0 0
  replace hA := hA.alloc (.cells #[.int .i64 0, .int .i64 0, .int .i64 0, .int .i64 0] 32)
  have hs2 := hb.size
  replace hb := hb.alloc hs2 (.cells #[.int .i64 0, .int .i64 0, .int .i64 0, .int .i64 0] 32)
  go_wp2_with fail
  refine (anew_any 1073741825 5 _).mono ?_
  rw [show newP 1073741825 5 = ((0, 0, 0, 0), 1) from by decide]
  rintro e w3 ⟨rfl, hb3⟩
  replace hA := hA.kept hb3
  replace hB := hB.kept hb3
  replace hb := hb.trans (hb3.mono hb.size)
  have hC := AccAt.new w3 0 0 0 0
  replace hA := hA.alloc (.cells #[.int .i64 0, .int .i64 0, .int .i64 0, .int .i64 0] 32)
  replace hB := hB.alloc (.cells #[.int .i64 0, .int .i64 0, .int .i64 0, .int .i64 0] 32)
  have hs3 := hb.size
  replace hb := hb.alloc hs3 (.cells #[.int .i64 0, .int .i64 0, .int .i64 0, .int .i64 0] 32)
  go_wp2_with fail
  refine (anew_any 0 0 _).mono ?_
  rw [show newP 0 0 = ((0, 0, 0, 0), 0) from by decide]
  rintro e w4 ⟨rfl, hb4⟩
  replace hA := hA.kept hb4
  replace hB := hB.kept hb4
  replace hC := hC.kept hb4
  replace hb := hb.trans (hb4.mono hb.size)
  have hF := AccAt.new w4 0 0 0 0
  replace hA := hA.alloc (.cells #[.int .i64 0, .int .i64 0, .int .i64 0, .int .i64 0] 32)
  replace hB := hB.alloc (.cells #[.int .i64 0, .int .i64 0, .int .i64 0, .int .i64 0] 32)
  replace hC := hC.alloc (.cells #[.int .i64 0, .int .i64 0, .int .i64 0, .int .i64 0] 32)
  have hs4 := hb.size
  replace hb := hb.alloc hs4 (.cells #[.int .i64 0, .int .i64 0, .int .i64 0, .int .i64 0] 32)
  obtain ⟨k00, k01, k02, k03⟩ := hF.cells
  go_wp2_with fail
  clear k00 k01 k02 k03
  refine (ause_any 0 0 0 0 _ (by omega) (by omega)).mono ?_
  rw [show useP 0 0 0 0 = ((0, 0, 0, 0), 0) from by decide]
  rintro e w5 ⟨rfl, hb5⟩
  replace hA := hA.kept hb5
  replace hB := hB.kept hb5
  replace hC := hC.kept hb5
  replace hF := hF.kept hb5
  replace hb := hb.trans (hb5.mono hb.size)
  have hS := AccAt.new w5 0 0 0 0
  replace hA := hA.alloc (.cells #[.int .i64 0, .int .i64 0, .int .i64 0, .int .i64 0] 32)
  replace hB := hB.alloc (.cells #[.int .i64 0, .int .i64 0, .int .i64 0, .int .i64 0] 32)
  replace hC := hC.alloc (.cells #[.int .i64 0, .int .i64 0, .int .i64 0, .int .i64 0] 32)
  replace hF := hF.alloc (.cells #[.int .i64 0, .int .i64 0, .int .i64 0, .int .i64 0] 32)
  have hs5 := hb.size
  replace hb := hb.alloc hs5 (.cells #[.int .i64 0, .int .i64 0, .int .i64 0, .int .i64 0] 32)
  go_wp2_with fail
  refine (anew_any 3 10 _).mono ?_
  rw [show newP 3 10 = ((3, 10, 3, 0), 0) from by decide]
  rintro e w6 ⟨rfl, hb6⟩
  replace hA := hA.kept hb6
  replace hB := hB.kept hb6
  replace hC := hC.kept hb6
  replace hF := hF.kept hb6
  replace hS := hS.kept hb6
  replace hb := hb.trans (hb6.mono hb.size)
  have hX := AccAt.new w6 3 10 3 0
  replace hA := hA.alloc (.cells #[.int .i64 3, .int .i64 10, .int .i64 3, .int .i64 0] 32)
  replace hB := hB.alloc (.cells #[.int .i64 3, .int .i64 10, .int .i64 3, .int .i64 0] 32)
  replace hC := hC.alloc (.cells #[.int .i64 3, .int .i64 10, .int .i64 3, .int .i64 0] 32)
  replace hF := hF.alloc (.cells #[.int .i64 3, .int .i64 10, .int .i64 3, .int .i64 0] 32)
  replace hS := hS.alloc (.cells #[.int .i64 3, .int .i64 10, .int .i64 3, .int .i64 0] 32)
  have hs6 := hb.size
  replace hb := hb.alloc hs6 (.cells #[.int .i64 3, .int .i64 10, .int .i64 3, .int .i64 0] 32)
  obtain ⟨k00, k01, k02, k03⟩ := hX.cells
  go_wp2_with fail
  clear k00 k01 k02 k03
  refine (atick_any 3 10 3 0 4 _ (by omega) (by omega)).mono ?_
  rw [show tickP 3 10 3 0 4 = ((3, 10, 3, 4), false) from by decide]
  rintro e w7 ⟨rfl, hb7⟩
  replace hA := hA.kept hb7
  replace hB := hB.kept hb7
  replace hC := hC.kept hb7
  replace hF := hF.kept hb7
  replace hS := hS.kept hb7
  replace hX := hX.kept hb7
  replace hb := hb.trans (hb7.mono hb.size)
  have hY := AccAt.new w7 3 10 3 4
  replace hA := hA.alloc (.cells #[.int .i64 3, .int .i64 10, .int .i64 3, .int .i64 4] 32)
  replace hB := hB.alloc (.cells #[.int .i64 3, .int .i64 10, .int .i64 3, .int .i64 4] 32)
  replace hC := hC.alloc (.cells #[.int .i64 3, .int .i64 10, .int .i64 3, .int .i64 4] 32)
  replace hF := hF.alloc (.cells #[.int .i64 3, .int .i64 10, .int .i64 3, .int .i64 4] 32)
  replace hS := hS.alloc (.cells #[.int .i64 3, .int .i64 10, .int .i64 3, .int .i64 4] 32)
  replace hX := hX.alloc (.cells #[.int .i64 3, .int .i64 10, .int .i64 3, .int .i64 4] 32)
  have hs7 := hb.size
  replace hb := hb.alloc hs7 (.cells #[.int .i64 3, .int .i64 10, .int .i64 3, .int .i64 4] 32)
  obtain ⟨k00, k01, k02, k03⟩ := hY.cells
  go_wp2_with fail
  clear k00 k01 k02 k03
  refine (atick_any 3 10 3 4 4611686018427387904 _ (by omega) (by omega)).mono ?_
  rw [show tickP 3 10 3 4 4611686018427387904 = ((3, 10, 3, 8), true) from by decide]
  rintro e w8 ⟨rfl, hb8⟩
  replace hA := hA.kept hb8
  replace hB := hB.kept hb8
  replace hC := hC.kept hb8
  replace hF := hF.kept hb8
  replace hS := hS.kept hb8
  replace hX := hX.kept hb8
  replace hY := hY.kept hb8
  replace hb := hb.trans (hb8.mono hb.size)
  have hZ := AccAt.new w8 3 10 3 8
  replace hA := hA.alloc (.cells #[.int .i64 3, .int .i64 10, .int .i64 3, .int .i64 8] 32)
  replace hB := hB.alloc (.cells #[.int .i64 3, .int .i64 10, .int .i64 3, .int .i64 8] 32)
  replace hC := hC.alloc (.cells #[.int .i64 3, .int .i64 10, .int .i64 3, .int .i64 8] 32)
  replace hF := hF.alloc (.cells #[.int .i64 3, .int .i64 10, .int .i64 3, .int .i64 8] 32)
  replace hS := hS.alloc (.cells #[.int .i64 3, .int .i64 10, .int .i64 3, .int .i64 8] 32)
  replace hX := hX.alloc (.cells #[.int .i64 3, .int .i64 10, .int .i64 3, .int .i64 8] 32)
  replace hY := hY.alloc (.cells #[.int .i64 3, .int .i64 10, .int .i64 3, .int .i64 8] 32)
  have hs8 := hb.size
  replace hb := hb.alloc hs8 (.cells #[.int .i64 3, .int .i64 10, .int .i64 3, .int .i64 8] 32)
  obtain ⟨k00, k01, k02, k03⟩ := hY.cells
  go_wp2_with fail
  clear k00 k01 k02 k03
  refine (atick_any 3 10 3 4 (-5) _ (by omega) (by omega)).mono ?_
  rw [show tickP 3 10 3 4 (-5) = ((3, 10, 3, 4), false) from by decide]
  rintro e w9 ⟨rfl, hb9⟩
  replace hA := hA.kept hb9
  replace hB := hB.kept hb9
  replace hC := hC.kept hb9
  replace hF := hF.kept hb9
  replace hS := hS.kept hb9
  replace hX := hX.kept hb9
  replace hY := hY.kept hb9
  replace hZ := hZ.kept hb9
  replace hb := hb.trans (hb9.mono hb.size)
  have hW := AccAt.new w9 3 10 3 4
  replace hA := hA.alloc (.cells #[.int .i64 3, .int .i64 10, .int .i64 3, .int .i64 4] 32)
  replace hB := hB.alloc (.cells #[.int .i64 3, .int .i64 10, .int .i64 3, .int .i64 4] 32)
  replace hC := hC.alloc (.cells #[.int .i64 3, .int .i64 10, .int .i64 3, .int .i64 4] 32)
  replace hF := hF.alloc (.cells #[.int .i64 3, .int .i64 10, .int .i64 3, .int .i64 4] 32)
  replace hS := hS.alloc (.cells #[.int .i64 3, .int .i64 10, .int .i64 3, .int .i64 4] 32)
  replace hX := hX.alloc (.cells #[.int .i64 3, .int .i64 10, .int .i64 3, .int .i64 4] 32)
  replace hY := hY.alloc (.cells #[.int .i64 3, .int .i64 10, .int .i64 3, .int .i64 4] 32)
  replace hZ := hZ.alloc (.cells #[.int .i64 3, .int .i64 10, .int .i64 3, .int .i64 4] 32)
  have hs9 := hb.size
  replace hb := hb.alloc hs9 (.cells #[.int .i64 3, .int .i64 10, .int .i64 3, .int .i64 4] 32)
  have hP := AccAt.new (w9.alloc (.cells #[.int .i64 3, .int .i64 10, .int .i64 3, .int .i64 4] 32)) 3 10 0 0
  rw [World.size_alloc] at hP
  replace hA := hA.alloc (.cells #[.int .i64 3, .int .i64 10, .int .i64 0, .int .i64 0] 32)
  replace hB := hB.alloc (.cells #[.int .i64 3, .int .i64 10, .int .i64 0, .int .i64 0] 32)
  replace hC := hC.alloc (.cells #[.int .i64 3, .int .i64 10, .int .i64 0, .int .i64 0] 32)
  replace hF := hF.alloc (.cells #[.int .i64 3, .int .i64 10, .int .i64 0, .int .i64 0] 32)
  replace hS := hS.alloc (.cells #[.int .i64 3, .int .i64 10, .int .i64 0, .int .i64 0] 32)
  replace hX := hX.alloc (.cells #[.int .i64 3, .int .i64 10, .int .i64 0, .int .i64 0] 32)
  replace hY := hY.alloc (.cells #[.int .i64 3, .int .i64 10, .int .i64 0, .int .i64 0] 32)
  replace hZ := hZ.alloc (.cells #[.int .i64 3, .int .i64 10, .int .i64 0, .int .i64 0] 32)
  replace hW := hW.alloc (.cells #[.int .i64 3, .int .i64 10, .int .i64 0, .int .i64 0] 32)
  have hs10 := hb.size
  replace hb := hb.alloc hs10 (.cells #[.int .i64 3, .int .i64 10, .int .i64 0, .int .i64 0] 32)
  obtain ⟨k00, k01, k02, k03⟩ := hP.cells
  go_wp2_with fail
  clear k00 k01 k02 k03
  refine (ause_any 3 10 0 0 _ (by omega) (by omega)).mono ?_
  rw [show useP 3 10 0 0 = ((0, 0, 0, 0), 14) from by decide]
  rintro e w11 ⟨rfl, hb11⟩
  replace hA := hA.kept hb11
  replace hB := hB.kept hb11
  replace hC := hC.kept hb11
  replace hF := hF.kept hb11
  replace hS := hS.kept hb11
  replace hX := hX.kept hb11
  replace hY := hY.kept hb11
  replace hZ := hZ.kept hb11
  replace hW := hW.kept hb11
  replace hP := hP.kept hb11
  replace hb := hb.trans (hb11.mono hb.size)
  have hI := AccAt.new w11 0 0 0 0
  replace hA := hA.alloc (.cells #[.int .i64 0, .int .i64 0, .int .i64 0, .int .i64 0] 32)
  replace hB := hB.alloc (.cells #[.int .i64 0, .int .i64 0, .int .i64 0, .int .i64 0] 32)
  replace hC := hC.alloc (.cells #[.int .i64 0, .int .i64 0, .int .i64 0, .int .i64 0] 32)
  replace hF := hF.alloc (.cells #[.int .i64 0, .int .i64 0, .int .i64 0, .int .i64 0] 32)
  replace hS := hS.alloc (.cells #[.int .i64 0, .int .i64 0, .int .i64 0, .int .i64 0] 32)
  replace hX := hX.alloc (.cells #[.int .i64 0, .int .i64 0, .int .i64 0, .int .i64 0] 32)
  replace hY := hY.alloc (.cells #[.int .i64 0, .int .i64 0, .int .i64 0, .int .i64 0] 32)
  replace hZ := hZ.alloc (.cells #[.int .i64 0, .int .i64 0, .int .i64 0, .int .i64 0] 32)
  replace hW := hW.alloc (.cells #[.int .i64 0, .int .i64 0, .int .i64 0, .int .i64 0] 32)
  replace hP := hP.alloc (.cells #[.int .i64 0, .int .i64 0, .int .i64 0, .int .i64 0] 32)
  have hs11 := hb.size
  replace hb := hb.alloc hs11 (.cells #[.int .i64 0, .int .i64 0, .int .i64 0, .int .i64 0] 32)
  have hD := AccAt.new (w11.alloc (.cells #[.int .i64 0, .int .i64 0, .int .i64 0, .int .i64 0] 32)) 3 10 4 0
  rw [World.size_alloc] at hD
  replace hA := hA.alloc (.cells #[.int .i64 3, .int .i64 10, .int .i64 4, .int .i64 0] 32)
  replace hB := hB.alloc (.cells #[.int .i64 3, .int .i64 10, .int .i64 4, .int .i64 0] 32)
  replace hC := hC.alloc (.cells #[.int .i64 3, .int .i64 10, .int .i64 4, .int .i64 0] 32)
  replace hF := hF.alloc (.cells #[.int .i64 3, .int .i64 10, .int .i64 4, .int .i64 0] 32)
  replace hS := hS.alloc (.cells #[.int .i64 3, .int .i64 10, .int .i64 4, .int .i64 0] 32)
  replace hX := hX.alloc (.cells #[.int .i64 3, .int .i64 10, .int .i64 4, .int .i64 0] 32)
  replace hY := hY.alloc (.cells #[.int .i64 3, .int .i64 10, .int .i64 4, .int .i64 0] 32)
  replace hZ := hZ.alloc (.cells #[.int .i64 3, .int .i64 10, .int .i64 4, .int .i64 0] 32)
  replace hW := hW.alloc (.cells #[.int .i64 3, .int .i64 10, .int .i64 4, .int .i64 0] 32)
  replace hP := hP.alloc (.cells #[.int .i64 3, .int .i64 10, .int .i64 4, .int .i64 0] 32)
  replace hI := hI.alloc (.cells #[.int .i64 3, .int .i64 10, .int .i64 4, .int .i64 0] 32)
  have hs12 := hb.size
  replace hb := hb.alloc hs12 (.cells #[.int .i64 3, .int .i64 10, .int .i64 4, .int .i64 0] 32)
  obtain ⟨k00, k01, k02, k03⟩ := hD.cells
  go_wp2_with fail
  clear k00 k01 k02 k03
  refine (ause_any 3 10 4 0 _ (by omega) (by omega)).mono ?_
  rw [show useP 3 10 4 0 = ((0, 0, 0, 0), 1) from by decide]
  rintro e w13 ⟨rfl, hb13⟩
  replace hA := hA.kept hb13
  replace hB := hB.kept hb13
  replace hC := hC.kept hb13
  replace hF := hF.kept hb13
  replace hS := hS.kept hb13
  replace hX := hX.kept hb13
  replace hY := hY.kept hb13
  replace hZ := hZ.kept hb13
  replace hW := hW.kept hb13
  replace hP := hP.kept hb13
  replace hI := hI.kept hb13
  replace hD := hD.kept hb13
  replace hb := hb.trans (hb13.mono hb.size)
  have hJ := AccAt.new w13 0 0 0 0
  replace hA := hA.alloc (.cells #[.int .i64 0, .int .i64 0, .int .i64 0, .int .i64 0] 32)
  replace hB := hB.alloc (.cells #[.int .i64 0, .int .i64 0, .int .i64 0, .int .i64 0] 32)
  replace hC := hC.alloc (.cells #[.int .i64 0, .int .i64 0, .int .i64 0, .int .i64 0] 32)
  replace hF := hF.alloc (.cells #[.int .i64 0, .int .i64 0, .int .i64 0, .int .i64 0] 32)
  replace hS := hS.alloc (.cells #[.int .i64 0, .int .i64 0, .int .i64 0, .int .i64 0] 32)
  replace hX := hX.alloc (.cells #[.int .i64 0, .int .i64 0, .int .i64 0, .int .i64 0] 32)
  replace hY := hY.alloc (.cells #[.int .i64 0, .int .i64 0, .int .i64 0, .int .i64 0] 32)
  replace hZ := hZ.alloc (.cells #[.int .i64 0, .int .i64 0, .int .i64 0, .int .i64 0] 32)
  replace hW := hW.alloc (.cells #[.int .i64 0, .int .i64 0, .int .i64 0, .int .i64 0] 32)
  replace hP := hP.alloc (.cells #[.int .i64 0, .int .i64 0, .int .i64 0, .int .i64 0] 32)
  replace hI := hI.alloc (.cells #[.int .i64 0, .int .i64 0, .int .i64 0, .int .i64 0] 32)
  replace hD := hD.alloc (.cells #[.int .i64 0, .int .i64 0, .int .i64 0, .int .i64 0] 32)
  have hs13 := hb.size
  replace hb := hb.alloc hs13 (.cells #[.int .i64 0, .int .i64 0, .int .i64 0, .int .i64 0] 32)
  obtain ⟨k00, k01, k02, k03⟩ := hD.cells
  go_wp2_with fail
  clear k00 k01 k02 k03
  refine (atick_any 3 10 4 0 100 _ (by omega) (by omega)).mono ?_
  rw [show tickP 3 10 4 0 100 = ((3, 10, 4, 0), false) from by decide]
  rintro e w14 ⟨rfl, hb14⟩
  replace hA := hA.kept hb14
  replace hB := hB.kept hb14
  replace hC := hC.kept hb14
  replace hF := hF.kept hb14
  replace hS := hS.kept hb14
  replace hX := hX.kept hb14
  replace hY := hY.kept hb14
  replace hZ := hZ.kept hb14
  replace hW := hW.kept hb14
  replace hP := hP.kept hb14
  replace hI := hI.kept hb14
  replace hD := hD.kept hb14
  replace hJ := hJ.kept hb14
  replace hb := hb.trans (hb14.mono hb.size)
  have hV := AccAt.new w14 3 10 4 0
  replace hA := hA.alloc (.cells #[.int .i64 3, .int .i64 10, .int .i64 4, .int .i64 0] 32)
  replace hB := hB.alloc (.cells #[.int .i64 3, .int .i64 10, .int .i64 4, .int .i64 0] 32)
  replace hC := hC.alloc (.cells #[.int .i64 3, .int .i64 10, .int .i64 4, .int .i64 0] 32)
  replace hF := hF.alloc (.cells #[.int .i64 3, .int .i64 10, .int .i64 4, .int .i64 0] 32)
  replace hS := hS.alloc (.cells #[.int .i64 3, .int .i64 10, .int .i64 4, .int .i64 0] 32)
  replace hX := hX.alloc (.cells #[.int .i64 3, .int .i64 10, .int .i64 4, .int .i64 0] 32)
  replace hY := hY.alloc (.cells #[.int .i64 3, .int .i64 10, .int .i64 4, .int .i64 0] 32)
  replace hZ := hZ.alloc (.cells #[.int .i64 3, .int .i64 10, .int .i64 4, .int .i64 0] 32)
  replace hW := hW.alloc (.cells #[.int .i64 3, .int .i64 10, .int .i64 4, .int .i64 0] 32)
  replace hP := hP.alloc (.cells #[.int .i64 3, .int .i64 10, .int .i64 4, .int .i64 0] 32)
  replace hI := hI.alloc (.cells #[.int .i64 3, .int .i64 10, .int .i64 4, .int .i64 0] 32)
  replace hD := hD.alloc (.cells #[.int .i64 3, .int .i64 10, .int .i64 4, .int .i64 0] 32)
  replace hJ := hJ.alloc (.cells #[.int .i64 3, .int .i64 10, .int .i64 4, .int .i64 0] 32)
  have hs14 := hb.size
  replace hb := hb.alloc hs14 (.cells #[.int .i64 3, .int .i64 10, .int .i64 4, .int .i64 0] 32)
  obtain ⟨k00, k01, k02, k03⟩ := hF.cells
  obtain ⟨k10, k11, k12, k13⟩ := hS.cells
  go_wp2_with fail
  clear k00 k01 k02 k03 k10 k11 k12 k13
  refine (aspent_any 0 0 0 0 _).mono ?_
  rw [show spentB 0 0 0 0 = false from by decide]
  rintro e w15 ⟨rfl, hb15⟩
  replace hA := hA.kept hb15
  replace hB := hB.kept hb15
  replace hC := hC.kept hb15
  replace hF := hF.kept hb15
  replace hS := hS.kept hb15
  replace hX := hX.kept hb15
  replace hY := hY.kept hb15
  replace hZ := hZ.kept hb15
  replace hW := hW.kept hb15
  replace hP := hP.kept hb15
  replace hI := hI.kept hb15
  replace hD := hD.kept hb15
  replace hJ := hJ.kept hb15
  replace hV := hV.kept hb15
  replace hb := hb.trans (hb15.mono hb.size)
  obtain ⟨k00, k01, k02, k03⟩ := hF.cells
  go_wp2_with fail
  clear k00 k01 k02 k03
  refine (anext_any 0 0 0 0 _).mono ?_
  rw [show nextI 0 0 0 0 = 0 from by decide]
  rintro e w16 ⟨rfl, hb16⟩
  replace hA := hA.kept hb16
  replace hB := hB.kept hb16
  replace hC := hC.kept hb16
  replace hF := hF.kept hb16
  replace hS := hS.kept hb16
  replace hX := hX.kept hb16
  replace hY := hY.kept hb16
  replace hZ := hZ.kept hb16
  replace hW := hW.kept hb16
  replace hP := hP.kept hb16
  replace hI := hI.kept hb16
  replace hD := hD.kept hb16
  replace hJ := hJ.kept hb16
  replace hV := hV.kept hb16
  replace hb := hb.trans (hb16.mono hb.size)
  obtain ⟨k00, k01, k02, k03⟩ := hY.cells
  go_wp2_with fail
  clear k00 k01 k02 k03
  refine (anext_any 3 10 3 4 _).mono ?_
  rw [show nextI 3 10 3 4 = 6 from by decide]
  rintro e w17 ⟨rfl, hb17⟩
  replace hA := hA.kept hb17
  replace hB := hB.kept hb17
  replace hC := hC.kept hb17
  replace hF := hF.kept hb17
  replace hS := hS.kept hb17
  replace hX := hX.kept hb17
  replace hY := hY.kept hb17
  replace hZ := hZ.kept hb17
  replace hW := hW.kept hb17
  replace hP := hP.kept hb17
  replace hI := hI.kept hb17
  replace hD := hD.kept hb17
  replace hJ := hJ.kept hb17
  replace hV := hV.kept hb17
  replace hb := hb.trans (hb17.mono hb.size)
  obtain ⟨k00, k01, k02, k03⟩ := hY.cells
  obtain ⟨k10, k11, k12, k13⟩ := hZ.cells
  obtain ⟨k20, k21, k22, k23⟩ := hW.cells
  obtain ⟨k30, k31, k32, k33⟩ := hV.cells
  obtain ⟨k40, k41, k42, k43⟩ := hD.cells
  go_wp2_with fail
  clear k00 k01 k02 k03 k10 k11 k12 k13 k20 k21 k22 k23 k30 k31 k32 k33 k40 k41 k42 k43
  refine (agood_any 3 10 4 0 _).mono ?_
  rw [show goodB 3 10 4 0 = false from by decide]
  rintro e w18 ⟨rfl, hb18⟩
  replace hA := hA.kept hb18
  replace hB := hB.kept hb18
  replace hC := hC.kept hb18
  replace hF := hF.kept hb18
  replace hS := hS.kept hb18
  replace hX := hX.kept hb18
  replace hY := hY.kept hb18
  replace hZ := hZ.kept hb18
  replace hW := hW.kept hb18
  replace hP := hP.kept hb18
  replace hI := hI.kept hb18
  replace hD := hD.kept hb18
  replace hJ := hJ.kept hb18
  replace hV := hV.kept hb18
  replace hb := hb.trans (hb18.mono hb.size)
  obtain ⟨k00, k01, k02, k03⟩ := hP.cells
  go_wp2_with fail
  clear k00 k01 k02 k03
  refine (agood_any 3 10 0 0 _).mono ?_
  rw [show goodB 3 10 0 0 = true from by decide]
  rintro e w19 ⟨rfl, hb19⟩
  replace hA := hA.kept hb19
  replace hB := hB.kept hb19
  replace hC := hC.kept hb19
  replace hF := hF.kept hb19
  replace hS := hS.kept hb19
  replace hX := hX.kept hb19
  replace hY := hY.kept hb19
  replace hZ := hZ.kept hb19
  replace hW := hW.kept hb19
  replace hP := hP.kept hb19
  replace hI := hI.kept hb19
  replace hD := hD.kept hb19
  replace hJ := hJ.kept hb19
  replace hV := hV.kept hb19
  replace hb := hb.trans (hb19.mono hb.size)
  obtain ⟨k00, k01, k02, k03⟩ := hP.cells
  go_wp2_with fail
  clear k00 k01 k02 k03
  refine (aspent_any 3 10 0 0 _).mono ?_
  rw [show spentB 3 10 0 0 = true from by decide]
  rintro e w20 ⟨rfl, hb20⟩
  replace hA := hA.kept hb20
  replace hB := hB.kept hb20
  replace hC := hC.kept hb20
  replace hF := hF.kept hb20
  replace hS := hS.kept hb20
  replace hX := hX.kept hb20
  replace hY := hY.kept hb20
  replace hZ := hZ.kept hb20
  replace hW := hW.kept hb20
  replace hP := hP.kept hb20
  replace hI := hI.kept hb20
  replace hD := hD.kept hb20
  replace hJ := hJ.kept hb20
  replace hV := hV.kept hb20
  replace hb := hb.trans (hb20.mono hb.size)
  obtain ⟨k00, k01, k02, k03⟩ := hD.cells
  go_wp2_with fail
  clear k00 k01 k02 k03
  refine (aspent_any 3 10 4 0 _).mono ?_
  rw [show spentB 3 10 4 0 = false from by decide]
  rintro e w21 ⟨rfl, hb21⟩
  replace hA := hA.kept hb21
  replace hB := hB.kept hb21
  replace hC := hC.kept hb21
  replace hF := hF.kept hb21
  replace hS := hS.kept hb21
  replace hX := hX.kept hb21
  replace hY := hY.kept hb21
  replace hZ := hZ.kept hb21
  replace hW := hW.kept hb21
  replace hP := hP.kept hb21
  replace hI := hI.kept hb21
  replace hD := hD.kept hb21
  replace hJ := hJ.kept hb21
  replace hV := hV.kept hb21
  replace hb := hb.trans (hb21.mono hb.size)
  obtain ⟨k00, k01, k02, k03⟩ := hD.cells
  go_wp2_with fail
  clear k00 k01 k02 k03
  refine (anext_any 3 10 4 0 _).mono ?_
  rw [show nextI 3 10 4 0 = 0 from by decide]
  rintro e w22 ⟨rfl, hb22⟩
  replace hA := hA.kept hb22
  replace hB := hB.kept hb22
  replace hC := hC.kept hb22
  replace hF := hF.kept hb22
  replace hS := hS.kept hb22
  replace hX := hX.kept hb22
  replace hY := hY.kept hb22
  replace hZ := hZ.kept hb22
  replace hW := hW.kept hb22
  replace hP := hP.kept hb22
  replace hI := hI.kept hb22
  replace hD := hD.kept hb22
  replace hJ := hJ.kept hb22
  replace hV := hV.kept hb22
  replace hb := hb.trans (hb22.mono hb.size)
  go_wp2
  go_ret
  exact ⟨rfl, hb⟩

end Go.Proofs.Ytjnmdkdgkjakoaa
