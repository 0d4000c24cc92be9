/- awake: it returns true, and nothing that was there is touched. The law TopOne, walked: whatever it is given it returns true, and nothing that was there is touched. -/
import Derived.Sort.BigQuietIn
import Derived.BigQuiet
import Derived.StillTail
import Derived.Test.YtoiajjobecinpaaGreatRows
import Derived.WalkKit
import Derived.ProofKit
import Derived.Below
import Derived.Lib.Hide
import Derived.Laws.AppendOwn
import Derived.Shelf.SlicesQ.IndexFunc
import Derived.Ground.SlgfProg
import Derived.Deep.QuietTactic
import Derived.Deep.DeepCutAuto
import Derived.Deep.RegionHeld3
import Derived.Ground.SlsfProg
import Derived.Deep.AppendLies
import Derived.Deep.RegionLaw
import Derived.Lib.SlBy
import Derived.Shelf.Bits.Mul64
import Derived.Shelf.Spec.BitsCarry
import Derived.Shelf.Lay
import Derived.Ground.NamesProg
import Derived.Ground.Names7Prog
import Derived.Maps.Views
import Derived.Maps.OwnSet
import Derived.RangeFuncNested
import Derived.RangeFuncBound
import Derived.RangeFuncCalls
import Derived.RangeFuncLeaves
import Derived.RangeFuncFrom
import Derived.Shelf.Abstract
import Derived.Shelf.RegionOpen
import Derived.OwnWalkIn
import Derived.TacticsInMore
import Derived.LoopNIn
import Derived.LoopIn
import Derived.WalkSpells
import Derived.WalkLawsBesides
import Derived.WalkMore
import Derived.Lib.SliceRun
import Derived.Laws.BytesArg
import Derived.Shelf.Bytes.SlEqualAll
import Derived.WalkSmall
import Derived.OwnWalk
import Derived.Shelf.SlicesQ.Equal
import Derived.Laws.StructEq
import Derived.Ground.SlgqProg
import Derived.Test.YtoiajjobecinpaaGreatOne26

namespace Go.Proofs.YtoiajjobecinpaaGreat
open Go.RowKit Go.Shelf Go.Lib Go.Proofs
set_option linter.unusedVariables false
set_option linter.unusedSimpArgs false
attribute [local go_sem] Oper.semAt_some

theorem fld44 (a0 a1 a2 a3 a4 : Option Addr) (n0 n1 n2 n3 n4 c0 c1 c2 c3 c4 : Nat) (W : World) :
    Sem.run Tryz.prog (Instr.field 44 (Value.agg #[.slice a0 n0 c0, .slice a1 n1 c1, .slice a2 n2 c2, .slice a3 n3 c3, .slice a4 n4 c4]) 2) W = Result.ok (.slice a2 n2 c2) W := by kernel_rfl

theorem below_low {B B' : Nat} {W a b : World} (h : Below B W a) (hW : B ≤ W.heap.size) (hB : B ≤ B') (ht : Touch (fun k => ¬ k < B') a b) : Below B W b :=
  h.trans (ht.below (Nat.le_trans hW h.size) (fun k hk => by omega))

set_option maxRecDepth 100000 in
set_option maxHeartbeats 2000000 in
theorem awake_any (W : World) : Calls Tryz.prog 9 #[] W fun e w' => e = .returned (.bool true) ∧ Below W.heap.size W w' := by
  have hnew := beg_new (W.alloc (.cells #[.int .i64 0] 3)) W.heap.size 1 0 (cell_new_l W (.int .i64 0) 3).1 (by simp) (.inl rfl)
  have hB0 : Below W.heap.size W (W.alloc (.cells #[.int .i64 0] 3)) := (Below.refl _ W).alloc (Nat.le_refl _) _
  have HB0 := Lib.hid hB0
  clear hB0
  go_enter Tryz.func9, Tryz.ntmps9
  go_wp2_with fail
  refine hnew.mono ?_
  rintro e w1 ⟨ob, rfl, hW1, hb1⟩
  have hsp := beg_spawn w1 _ ob [] 1 0 0 (.slice none 0 0) hW1 (by omega) (by simp)
  unfold actV at hsp
  have HB1 := Lib.hid (HB0.out.trans (hb1.mono HB0.out.size))
  clear hW1 hb1 hnew
  go_wp2_with fail
  refine hsp.mono ?_
  rintro e w2 ⟨⟨x, y, rfl⟩, hW2, ht2⟩
  have hst := beg_start w2 _ ob [] 1 0 0 0 0 (.slice none 0 0) hW2
  unfold actV at hst
  have HB2 := Lib.hid (below_low HB1.out (Nat.le_refl _) HB0.out.size ht2)
  clear hW2 ht2 hsp
  go_wp2_with fail
  refine hst.mono ?_
  rintro e w3 ⟨⟨x3, y3, rfl⟩, hW3, ht3⟩
  have hW3' := hW3.sh (by simp)
  have hrun := sh_run w3 _ ob [1] _ 0 0 0 0 0 0 (.slice none 0 0) hW3' (by omega)
  unfold actV at hrun
  have HB3 := Lib.hid (below_low HB2.out (Nat.le_refl _) HB0.out.size ht3)
  clear hW3 hW3' ht3 hst
  go_wp2_with fail
  refine hrun.mono ?_
  rintro e w4 ⟨j, hj, rfl, hW4, ht4⟩
  obtain rfl : j = 0 := by simpa using hj
  have hstate := sh_state w4 _ ob [1] _ 1 0 hW4 (by omega)
  have HB4 := Lib.hid (below_low HB3.out (Nat.le_refl _) HB0.out.size ht4)
  clear hW4 ht4 hrun hj
  go_wp2_with fail
  refine hstate.mono ?_
  rintro e w5 ⟨g, c, a0, a1, a3, a4, n0, n1, n3, n4, c0, c1, c3, c4, l, rfl, hl, hcell, hb5⟩
  have HB5 := Lib.hid (HB4.out.trans (hb5.mono HB4.out.size))
  have hfld := fld44 a0 a1 (some ⟨g, 0, none⟩) a3 a4 n0 n1 1 n3 n4 c0 c1 c c3 c4 w5
  clear hstate hcell hl hb5
  go_wp2_with fail
  go_ret
  exact ⟨rfl, HB5.out⟩
end Go.Proofs.YtoiajjobecinpaaGreat

namespace Go.Proofs.YtoiajjobecinpaaGreat
open Go.RowKit Go.Shelf Go.Lib Go.Proofs
set_option linter.unusedVariables false
set_option linter.unusedSimpArgs false
attribute [local go_sem] Oper.semAt_some

/-- A slice of ints that can be read: nil, or a row of cells. -/
def ReadsI (W : World) (a : Option Addr) (n : Nat) (zs : List Int) : Prop :=
  n = 0 ∨ ∃ b off, a = some ⟨b, off, none⟩ ∧ b < W.heap.size ∧ ∀ j, j < n → W.cell? ⟨b, off + j, none⟩ = some (.int .i64 (zs.getD j 0))

theorem new_bad (W : World) (tb c : Nat) (tag : Int) (hc : W.cell? ⟨tb, 0, none⟩ = some (.int .i64 tag)) (htb : tb < W.heap.size) (htag : ¬ (tag = 0 ∨ tag = 1 ∨ tag = 2)) :
    Calls Tryz.prog 11 #[.slice (some ⟨tb, 0, none⟩) 1 c] W fun e w' => e = .returned (.tuple #[.pointer none, .int .i64 1]) ∧ Below W.heap.size W w' := by
  refine wnew_err W _ 1 c (ysnew_bad W tb 0 1 c [tag] rfl (by omega) (by omega) (fun k hk => ?_) htb 0 (by omega) ?_ (fun k hk => by omega))
  · obtain rfl : k = 0 := by omega
    simpa using hc
  · simp; omega

def OneI (N : Nat → Prop) (B : Nat) (W : World) (ob : Nat) (weight : Int) (k : Nat) (wr : World) : Prop :=
  ∃ G m, ShW wr N ob [weight] G k m ∧ m ≤ k ∧ Below B W wr

set_option maxRecDepth 100000 in
set_option maxHeartbeats 2000000 in
theorem one_any (tag weight n : Int) (ca : Option Addr) (cn cc : Nat) (zs : List Int) (W : World) (hn1 : -9223372036854775808 ≤ n) (hc : ReadsI W ca cn zs) :
    Calls Tryz.prog 8 #[.int .i64 tag, .int .i64 weight, .int .i64 n, .slice ca cn cc] W fun e w' => e = .returned (.bool true) ∧ Below W.heap.size W w' := by
  have haw := awake_any W
  by_cases hg : 1 ≤ weight ∧ weight ≤ 20 ∧ 0 ≤ n ∧ n ≤ 200 ∧ cn ≤ 20
  · obtain ⟨g1, g2, g3, g4, g5⟩ := hg
    have q1 : ¬ weight < 1 := by omega
    have q2 : ¬ 20 < weight := by omega
    have q3 : ¬ n < 0 := by omega
    have q4 : ¬ 200 < n := by omega
    have q5 : ¬ 20 < (cn : Int) := by omega
    have HC := Lib.hid hc
    have HG := Lib.hid (And.intro g1 (And.intro g2 (And.intro g3 (And.intro g4 g5))))
    clear hc g1 g2 g3 g4 g5
    by_cases htag : tag = 0 ∨ tag = 1 ∨ tag = 2
    · have HT := Lib.hid htag
      clear htag
      go_enter Tryz.func8, Tryz.ntmps8
      go_wp2_with fail
      refine haw.mono ?_
      rintro e w0 ⟨rfl, hb0⟩
      have hnew := beg_new (w0.alloc (.cells #[.int .i64 tag] 3)) w0.heap.size 1 tag (cell_new_l w0 (.int .i64 tag) 3).1 (by simp) HT.out
      have HB0 := Lib.hid hb0
      clear hb0 haw
      go_wp2_with fail
      refine hnew.mono ?_
      rintro e w1 ⟨ob, rfl, hW1, hb1⟩
      obtain ⟨B1, hB1⟩ : ∃ x, (w0.alloc (.cells #[.int .i64 tag] 3)).heap.size = x := ⟨_, rfl⟩
      rw [hB1] at hW1 hb1
      have hsz0 : W.heap.size ≤ B1 := by rw [← hB1]; have := HB0.out.size; simp; omega
      have hB01 : Below W.heap.size W w1 := (HB0.out.alloc HB0.out.size (.cells #[.int .i64 tag] 3)).trans (hb1.mono hsz0)
      have hsp := beg_spawn w1 _ ob [] weight 0 0 (.slice none 0 0) hW1 ⟨HG.out.1, HG.out.2.1⟩ (by simp)
      unfold actV at hsp
      have HB1 := Lib.hid hB01
      have HZ := Lib.hid hsz0
      clear hW1 hb1 hnew hB1 hB01 hsz0
      go_wp2_with fail
      refine hsp.mono ?_
      rintro e w2 ⟨⟨x, y, rfl⟩, hW2, ht2⟩
      have hst := beg_start w2 _ ob [] weight 0 0 0 0 (.slice none 0 0) hW2
      unfold actV at hst
      have HB2 := Lib.hid (below_low HB1.out (Nat.le_refl _) HZ.out ht2)
      clear hW2 ht2 hsp
      go_wp2_with fail
      refine hst.mono ?_
      rintro e w3 ⟨⟨x3, y3, rfl⟩, hW3, ht3⟩
      have HS := Lib.hid (hW3.sh (by simp))
      have HB3 := Lib.hid (below_low HB2.out (Nat.le_refl _) HZ.out ht3)
      clear hW3 ht3 hst
      go_wp2_with fail
      go_loopw [11] (fun x wr => ∃ k : Nat, (k : Int) ≤ n ∧ x = .int .i64 k ∧ Hid (OneI (fun k => k < B1) W.heap.size W ob weight k wr)) (fun x _ => (n - intOf x).toNat)
      case atStart => exact ⟨0, by omega, rfl, Lib.hid ⟨_, 0, HS.out, Nat.le_refl _, HB3.out⟩⟩
      case round =>
        obtain ⟨k, hk, rfl, HR⟩ := hrel
        obtain ⟨G, m, hR, hm, hb⟩ := HR.out
        have HBR := Lib.hid hb
        have hk0 : 0 ≤ (k : Int) := by omega
        by_cases hkn : (k : Int) < n
        · by_cases hkc : (k : Int) < (cn : Int)
          · obtain ⟨b, off, rfl, hbl, hcell⟩ : ∃ b off, ca = some ⟨b, off, none⟩ ∧ b < W.heap.size ∧ ∀ j, j < cn → W.cell? ⟨b, off + j, none⟩ = some (.int .i64 (zs.getD j 0)) := by
              rcases HC.out with h | h
              · omega
              · exact h
            have hcl := (hb.cell (p := ⟨b, off + k, none⟩) hbl).trans (hcell k (by omega))
            obtain ⟨z, hz⟩ : ∃ x, zs.getD k 0 = x := ⟨_, rfl⟩
            rw [hz] at hcl
            have hch := sh_change wr _ ob [weight] G k m z 0 0 0 hR (by omega) (by omega)
            unfold actV at hch
            clear hR hb hcell hz HR
            go_wp2_with fail
            refine hch.mono ?_
            rintro e w5 ⟨⟨x5, y5, rfl⟩, ⟨m5, hm5, hR5⟩, ht5⟩
            have hrun := sh_run w5 _ ob [weight] G k m5 0 0 0 0 (.slice none 0 0) hR5 (by omega)
            unfold actV at hrun
            have HB5 := Lib.hid (below_low HBR.out (Nat.le_refl _) HZ.out ht5)
            clear hR5 ht5 hch hcl
            go_wp2_with fail
            refine hrun.mono ?_
            rintro e w6 ⟨j, hj, rfl, hR6, ht6⟩
            obtain rfl : j = 0 := by simpa using hj
            have HB6 := Lib.hid (below_low HB5.out (Nat.le_refl _) HZ.out ht6)
            have HR6 := Lib.hid hR6
            clear hR6 ht6 hrun hj
            go_wp2_with fail
            go_roundw
            case rel => exact ⟨k + 1, by omega, by go_num, Lib.hid ⟨_, m5, HR6.out, by omega, HB6.out⟩⟩
            case measure => simp [intOf]; omega
          · have hrun := sh_run wr _ ob [weight] G k m 0 0 0 0 (.slice none 0 0) hR (by omega)
            unfold actV at hrun
            clear hR hb HR
            go_wp2_with fail
            refine hrun.mono ?_
            rintro e w6 ⟨j, hj, rfl, hR6, ht6⟩
            obtain rfl : j = 0 := by simpa using hj
            have HB6 := Lib.hid (below_low HBR.out (Nat.le_refl _) HZ.out ht6)
            have HR6 := Lib.hid hR6
            clear hR6 ht6 hrun hj
            go_wp2_with fail
            go_roundw
            case rel => exact ⟨k + 1, by omega, by go_num, Lib.hid ⟨_, m, HR6.out, by omega, HB6.out⟩⟩
            case measure => simp [intOf]; omega
        · obtain ⟨K, hK⟩ : ∃ x, n.toNat = x := ⟨_, rfl⟩
          have hstate := sh_state wr _ ob [weight] G k m hR (by omega)
          clear hR hb HR hm hK
          go_wp2_with fail
          refine hstate.mono ?_
          rintro e w5 ⟨g, c, a0, a1, a3, a4, n0, n1, n3, n4, c0, c1, c3, c4, l, rfl, hl, hcell, hb5⟩
          have hlag := hcell 0 (by simp)
          have hz : l.base - l.ps[0]!.v = 0 := by
            have h1 := hl.base
            obtain ⟨j, hj, e, -⟩ := hl.find _ (minP_mem l.ps hl.ne)
            have h2 := hl.len
            simp at h2
            have : j = 0 := by omega
            subst this
            rw [h1, ← e, getElem!_pos l.ps 0 hj]
            omega
          rw [hz] at hlag
          have HB5 := Lib.hid (HBR.out.trans (hb5.mono HBR.out.size))
          clear hstate hcell hl hb5 hz
          simp only [List.length_singleton, Nat.zero_mul, Nat.zero_add] at hlag ⊢
          have hlag2 := c2a (.cells #[.slice a0 n0 c0, .slice a1 n1 c1, .slice (some ⟨g, 0, none⟩) 1 c, .slice a3 n3 c3, .slice a4 n4 c4] 44) hlag
          go_wp2_with fail
          go_ret
          exact ⟨rfl, HB5.out.alloc HB5.out.size _⟩
    · have HT := Lib.hid htag
      clear htag
      go_enter Tryz.func8, Tryz.ntmps8
      go_wp2_with fail
      refine haw.mono ?_
      rintro e w0 ⟨rfl, hb0⟩
      have hnew := new_bad (w0.alloc (.cells #[.int .i64 tag] 3)) w0.heap.size 1 tag (cell_new_l w0 (.int .i64 tag) 3).1 (by simp) HT.out
      have HB0 := Lib.hid hb0
      clear hb0 haw
      go_wp2_with fail
      refine hnew.mono ?_
      rintro e w1 ⟨rfl, hb1⟩
      have HB1 := Lib.hid ((HB0.out.alloc HB0.out.size (.cells #[.int .i64 tag] 3)).trans (hb1.mono (by have := HB0.out.size; simp; omega)))
      clear hnew hb1
      go_wp2_with fail
      go_ret
      exact ⟨rfl, HB1.out⟩
  · have hg' : ¬ (((((1 ≤ weight) ∧ weight ≤ 20) ∧ 0 ≤ n) ∧ n ≤ 200) ∧ (cn : Int) ≤ 20) := by omega
    clear hg hc
    go_enter Tryz.func8, Tryz.ntmps8
    go_wp2_with fail
    refine haw.mono ?_
    rintro e w0 ⟨rfl, hb0⟩
    have HB0 := Lib.hid hb0
    clear hb0 haw
    go_wp2_with fail
    all_goals first | (exfalso; omega) | skip
    all_goals (go_ret; exact ⟨rfl, HB0.out⟩)
end Go.Proofs.YtoiajjobecinpaaGreat
