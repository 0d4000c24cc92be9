/- awake: it returns true, and nothing that was there is touched. The law TopOne, walked: whatever it is given it returns true, and nothing that was there is touched. The shares: who is never far from the others in what it ran by its weight is never far from its share. The law TopShares, walked: whatever it is given it returns true, and nothing that was there is touched. -/
import Derived.Sort.BigQuietIn
import Derived.BigQuiet
import Derived.StillTail
import Derived.Test.YtoiajjobecinpaaGreatRows
import Derived.WalkKit
import Derived.ProofKit
import Derived.Below
import Derived.Lib.Hide
import Derived.Laws.AppendOwn
import Derived.Shelf.SlicesQ.IndexFunc
import Derived.Ground.SlgfProg
import Derived.Deep.QuietTactic
import Derived.Deep.DeepCutAuto
import Derived.Deep.RegionHeld3
import Derived.Ground.SlsfProg
import Derived.Deep.AppendLies
import Derived.Deep.RegionLaw
import Derived.Lib.SlBy
import Derived.Shelf.Bits.Mul64
import Derived.Shelf.Spec.BitsCarry
import Derived.Shelf.Lay
import Derived.Ground.NamesProg
import Derived.Ground.Names7Prog
import Derived.Maps.Views
import Derived.Maps.OwnSet
import Derived.RangeFuncNested
import Derived.RangeFuncBound
import Derived.RangeFuncCalls
import Derived.RangeFuncLeaves
import Derived.RangeFuncFrom
import Derived.Shelf.Abstract
import Derived.Shelf.RegionOpen
import Derived.OwnWalkIn
import Derived.TacticsInMore
import Derived.LoopNIn
import Derived.LoopIn
import Derived.WalkSpells
import Derived.WalkLawsBesides
import Derived.WalkMore
import Derived.Lib.SliceRun
import Derived.Laws.BytesArg
import Derived.Shelf.Bytes.SlEqualAll
import Derived.WalkSmall
import Derived.OwnWalk
import Derived.Shelf.SlicesQ.Equal
import Derived.Laws.StructEq
import Derived.Ground.SlgqProg
import Derived.Test.YtoiajjobecinpaaGreatSh26

namespace Go.Proofs.YtoiajjobecinpaaGreat
open Go.RowKit Go.Shelf Go.Lib Go.Proofs
set_option linter.unusedVariables false
set_option linter.unusedSimpArgs false
attribute [local go_sem] Oper.semAt_some

theorem fld44 (a0 a1 a2 a3 a4 : Option Addr) (n0 n1 n2 n3 n4 c0 c1 c2 c3 c4 : Nat) (W : World) :
    Sem.run Tryz.prog (Instr.field 44 (Value.agg #[.slice a0 n0 c0, .slice a1 n1 c1, .slice a2 n2 c2, .slice a3 n3 c3, .slice a4 n4 c4]) 2) W = Result.ok (.slice a2 n2 c2) W := by kernel_rfl

theorem below_low {B B' : Nat} {W a b : World} (h : Below B W a) (hW : B ≤ W.heap.size) (hB : B ≤ B') (ht : Touch (fun k => ¬ k < B') a b) : Below B W b :=
  h.trans (ht.below (Nat.le_trans hW h.size) (fun k hk => by omega))

set_option maxRecDepth 100000 in
set_option maxHeartbeats 2000000 in
theorem awake_any (W : World) : Calls Tryz.prog 9 #[] W fun e w' => e = .returned (.bool true) ∧ Below W.heap.size W w' := by
  have hnew := beg_new (W.alloc (.cells #[.int .i64 0] 3)) W.heap.size 1 0 (cell_new_l W (.int .i64 0) 3).1 (by simp) (.inl rfl)
  have hB0 : Below W.heap.size W (W.alloc (.cells #[.int .i64 0] 3)) := (Below.refl _ W).alloc (Nat.le_refl _) _
  have HB0 := Lib.hid hB0
  clear hB0
  go_enter Tryz.func9, Tryz.ntmps9
  go_wp2_with fail
  refine hnew.mono ?_
  rintro e w1 ⟨ob, rfl, hW1, hb1⟩
  have hsp := beg_spawn w1 _ ob [] 1 0 0 (.slice none 0 0) hW1 (by omega) (by simp)
  unfold actV at hsp
  have HB1 := Lib.hid (HB0.out.trans (hb1.mono HB0.out.size))
  clear hW1 hb1 hnew
  go_wp2_with fail
  refine hsp.mono ?_
  rintro e w2 ⟨⟨x, y, rfl⟩, hW2, ht2⟩
  have hst := beg_start w2 _ ob [] 1 0 0 0 0 (.slice none 0 0) hW2
  unfold actV at hst
  have HB2 := Lib.hid (below_low HB1.out (Nat.le_refl _) HB0.out.size ht2)
  clear hW2 ht2 hsp
  go_wp2_with fail
  refine hst.mono ?_
  rintro e w3 ⟨⟨x3, y3, rfl⟩, hW3, ht3⟩
  have hW3' := hW3.sh (by simp)
  have hrun := sh_run w3 _ ob [1] _ 0 0 0 0 0 0 (.slice none 0 0) hW3' (by omega)
  unfold actV at hrun
  have HB3 := Lib.hid (below_low HB2.out (Nat.le_refl _) HB0.out.size ht3)
  clear hW3 hW3' ht3 hst
  go_wp2_with fail
  refine hrun.mono ?_
  rintro e w4 ⟨j, hj, rfl, hW4, ht4⟩
  obtain rfl : j = 0 := by simpa using hj
  have hstate := sh_state w4 _ ob [1] _ 1 0 hW4 (by omega)
  have HB4 := Lib.hid (below_low HB3.out (Nat.le_refl _) HB0.out.size ht4)
  clear hW4 ht4 hrun hj
  go_wp2_with fail
  refine hstate.mono ?_
  rintro e w5 ⟨g, c, a0, a1, a3, a4, n0, n1, n3, n4, c0, c1, c3, c4, l, rfl, hl, hcell, hb5⟩
  have HB5 := Lib.hid (HB4.out.trans (hb5.mono HB4.out.size))
  have hfld := fld44 a0 a1 (some ⟨g, 0, none⟩) a3 a4 n0 n1 1 n3 n4 c0 c1 c c3 c4 w5
  clear hstate hcell hl hb5
  go_wp2_with fail
  go_ret
  exact ⟨rfl, HB5.out⟩
end Go.Proofs.YtoiajjobecinpaaGreat

namespace Go.Proofs.YtoiajjobecinpaaGreat
open Go.RowKit Go.Shelf Go.Lib Go.Proofs
set_option linter.unusedVariables false
set_option linter.unusedSimpArgs false
attribute [local go_sem] Oper.semAt_some

/-- A slice of ints that can be read: nil, or a row of cells. -/
def ReadsI (W : World) (a : Option Addr) (n : Nat) (zs : List Int) : Prop :=
  n = 0 ∨ ∃ b off, a = some ⟨b, off, none⟩ ∧ b < W.heap.size ∧ ∀ j, j < n → W.cell? ⟨b, off + j, none⟩ = some (.int .i64 (zs.getD j 0))

theorem new_bad (W : World) (tb c : Nat) (tag : Int) (hc : W.cell? ⟨tb, 0, none⟩ = some (.int .i64 tag)) (htb : tb < W.heap.size) (htag : ¬ (tag = 0 ∨ tag = 1 ∨ tag = 2)) :
    Calls Tryz.prog 11 #[.slice (some ⟨tb, 0, none⟩) 1 c] W fun e w' => e = .returned (.tuple #[.pointer none, .int .i64 1]) ∧ Below W.heap.size W w' := by
  refine wnew_err W _ 1 c (ysnew_bad W tb 0 1 c [tag] rfl (by omega) (by omega) (fun k hk => ?_) htb 0 (by omega) ?_ (fun k hk => by omega))
  · obtain rfl : k = 0 := by omega
    simpa using hc
  · simp; omega

def OneI (N : Nat → Prop) (B : Nat) (W : World) (ob : Nat) (weight : Int) (k : Nat) (wr : World) : Prop :=
  ∃ G m, ShW wr N ob [weight] G k m ∧ m ≤ k ∧ Below B W wr

set_option maxRecDepth 100000 in
set_option maxHeartbeats 2000000 in
theorem one_any (tag weight n : Int) (ca : Option Addr) (cn cc : Nat) (zs : List Int) (W : World) (hn1 : -9223372036854775808 ≤ n) (hc : ReadsI W ca cn zs) :
    Calls Tryz.prog 8 #[.int .i64 tag, .int .i64 weight, .int .i64 n, .slice ca cn cc] W fun e w' => e = .returned (.bool true) ∧ Below W.heap.size W w' := by
  have haw := awake_any W
  by_cases hg : 1 ≤ weight ∧ weight ≤ 20 ∧ 0 ≤ n ∧ n ≤ 200 ∧ cn ≤ 20
  · obtain ⟨g1, g2, g3, g4, g5⟩ := hg
    have q1 : ¬ weight < 1 := by omega
    have q2 : ¬ 20 < weight := by omega
    have q3 : ¬ n < 0 := by omega
    have q4 : ¬ 200 < n := by omega
    have q5 : ¬ 20 < (cn : Int) := by omega
    have HC := Lib.hid hc
    have HG := Lib.hid (And.intro g1 (And.intro g2 (And.intro g3 (And.intro g4 g5))))
    clear hc g1 g2 g3 g4 g5
    by_cases htag : tag = 0 ∨ tag = 1 ∨ tag = 2
    · have HT := Lib.hid htag
      clear htag
      go_enter Tryz.func8, Tryz.ntmps8
      go_wp2_with fail
      refine haw.mono ?_
      rintro e w0 ⟨rfl, hb0⟩
      have hnew := beg_new (w0.alloc (.cells #[.int .i64 tag] 3)) w0.heap.size 1 tag (cell_new_l w0 (.int .i64 tag) 3).1 (by simp) HT.out
      have HB0 := Lib.hid hb0
      clear hb0 haw
      go_wp2_with fail
      refine hnew.mono ?_
      rintro e w1 ⟨ob, rfl, hW1, hb1⟩
      obtain ⟨B1, hB1⟩ : ∃ x, (w0.alloc (.cells #[.int .i64 tag] 3)).heap.size = x := ⟨_, rfl⟩
      rw [hB1] at hW1 hb1
      have hsz0 : W.heap.size ≤ B1 := by rw [← hB1]; have := HB0.out.size; simp; omega
      have hB01 : Below W.heap.size W w1 := (HB0.out.alloc HB0.out.size (.cells #[.int .i64 tag] 3)).trans (hb1.mono hsz0)
      have hsp := beg_spawn w1 _ ob [] weight 0 0 (.slice none 0 0) hW1 ⟨HG.out.1, HG.out.2.1⟩ (by simp)
      unfold actV at hsp
      have HB1 := Lib.hid hB01
      have HZ := Lib.hid hsz0
      clear hW1 hb1 hnew hB1 hB01 hsz0
      go_wp2_with fail
      refine hsp.mono ?_
      rintro e w2 ⟨⟨x, y, rfl⟩, hW2, ht2⟩
      have hst := beg_start w2 _ ob [] weight 0 0 0 0 (.slice none 0 0) hW2
      unfold actV at hst
      have HB2 := Lib.hid (below_low HB1.out (Nat.le_refl _) HZ.out ht2)
      clear hW2 ht2 hsp
      go_wp2_with fail
      refine hst.mono ?_
      rintro e w3 ⟨⟨x3, y3, rfl⟩, hW3, ht3⟩
      have HS := Lib.hid (hW3.sh (by simp))
      have HB3 := Lib.hid (below_low HB2.out (Nat.le_refl _) HZ.out ht3)
      clear hW3 ht3 hst
      go_wp2_with fail
      go_loopw [11] (fun x wr => ∃ k : Nat, (k : Int) ≤ n ∧ x = .int .i64 k ∧ Hid (OneI (fun k => k < B1) W.heap.size W ob weight k wr)) (fun x _ => (n - intOf x).toNat)
      case atStart => exact ⟨0, by omega, rfl, Lib.hid ⟨_, 0, HS.out, Nat.le_refl _, HB3.out⟩⟩
      case round =>
        obtain ⟨k, hk, rfl, HR⟩ := hrel
        obtain ⟨G, m, hR, hm, hb⟩ := HR.out
        have HBR := Lib.hid hb
        have hk0 : 0 ≤ (k : Int) := by omega
        by_cases hkn : (k : Int) < n
        · by_cases hkc : (k : Int) < (cn : Int)
          · obtain ⟨b, off, rfl, hbl, hcell⟩ : ∃ b off, ca = some ⟨b, off, none⟩ ∧ b < W.heap.size ∧ ∀ j, j < cn → W.cell? ⟨b, off + j, none⟩ = some (.int .i64 (zs.getD j 0)) := by
              rcases HC.out with h | h
              · omega
              · exact h
            have hcl := (hb.cell (p := ⟨b, off + k, none⟩) hbl).trans (hcell k (by omega))
            obtain ⟨z, hz⟩ : ∃ x, zs.getD k 0 = x := ⟨_, rfl⟩
            rw [hz] at hcl
            have hch := sh_change wr _ ob [weight] G k m z 0 0 0 hR (by omega) (by omega)
            unfold actV at hch
            clear hR hb hcell hz HR
            go_wp2_with fail
            refine hch.mono ?_
            rintro e w5 ⟨⟨x5, y5, rfl⟩, ⟨m5, hm5, hR5⟩, ht5⟩
            have hrun := sh_run w5 _ ob [weight] G k m5 0 0 0 0 (.slice none 0 0) hR5 (by omega)
            unfold actV at hrun
            have HB5 := Lib.hid (below_low HBR.out (Nat.le_refl _) HZ.out ht5)
            clear hR5 ht5 hch hcl
            go_wp2_with fail
            refine hrun.mono ?_
            rintro e w6 ⟨j, hj, rfl, hR6, ht6⟩
            obtain rfl : j = 0 := by simpa using hj
            have HB6 := Lib.hid (below_low HB5.out (Nat.le_refl _) HZ.out ht6)
            have HR6 := Lib.hid hR6
            clear hR6 ht6 hrun hj
            go_wp2_with fail
            go_roundw
            case rel => exact ⟨k + 1, by omega, by go_num, Lib.hid ⟨_, m5, HR6.out, by omega, HB6.out⟩⟩
            case measure => simp [intOf]; omega
          · have hrun := sh_run wr _ ob [weight] G k m 0 0 0 0 (.slice none 0 0) hR (by omega)
            unfold actV at hrun
            clear hR hb HR
            go_wp2_with fail
            refine hrun.mono ?_
            rintro e w6 ⟨j, hj, rfl, hR6, ht6⟩
            obtain rfl : j = 0 := by simpa using hj
            have HB6 := Lib.hid (below_low HBR.out (Nat.le_refl _) HZ.out ht6)
            have HR6 := Lib.hid hR6
            clear hR6 ht6 hrun hj
            go_wp2_with fail
            go_roundw
            case rel => exact ⟨k + 1, by omega, by go_num, Lib.hid ⟨_, m, HR6.out, by omega, HB6.out⟩⟩
            case measure => simp [intOf]; omega
        · obtain ⟨K, hK⟩ : ∃ x, n.toNat = x := ⟨_, rfl⟩
          have hstate := sh_state wr _ ob [weight] G k m hR (by omega)
          clear hR hb HR hm hK
          go_wp2_with fail
          refine hstate.mono ?_
          rintro e w5 ⟨g, c, a0, a1, a3, a4, n0, n1, n3, n4, c0, c1, c3, c4, l, rfl, hl, hcell, hb5⟩
          have hlag := hcell 0 (by simp)
          have hz : l.base - l.ps[0]!.v = 0 := by
            have h1 := hl.base
            obtain ⟨j, hj, e, -⟩ := hl.find _ (minP_mem l.ps hl.ne)
            have h2 := hl.len
            simp at h2
            have : j = 0 := by omega
            subst this
            rw [h1, ← e, getElem!_pos l.ps 0 hj]
            omega
          rw [hz] at hlag
          have HB5 := Lib.hid (HBR.out.trans (hb5.mono HBR.out.size))
          clear hstate hcell hl hb5 hz
          simp only [List.length_singleton, Nat.zero_mul, Nat.zero_add] at hlag ⊢
          have hlag2 := c2a (.cells #[.slice a0 n0 c0, .slice a1 n1 c1, .slice (some ⟨g, 0, none⟩) 1 c, .slice a3 n3 c3, .slice a4 n4 c4] 44) hlag
          go_wp2_with fail
          go_ret
          exact ⟨rfl, HB5.out.alloc HB5.out.size _⟩
    · have HT := Lib.hid htag
      clear htag
      go_enter Tryz.func8, Tryz.ntmps8
      go_wp2_with fail
      refine haw.mono ?_
      rintro e w0 ⟨rfl, hb0⟩
      have hnew := new_bad (w0.alloc (.cells #[.int .i64 tag] 3)) w0.heap.size 1 tag (cell_new_l w0 (.int .i64 tag) 3).1 (by simp) HT.out
      have HB0 := Lib.hid hb0
      clear hb0 haw
      go_wp2_with fail
      refine hnew.mono ?_
      rintro e w1 ⟨rfl, hb1⟩
      have HB1 := Lib.hid ((HB0.out.alloc HB0.out.size (.cells #[.int .i64 tag] 3)).trans (hb1.mono (by have := HB0.out.size; simp; omega)))
      clear hnew hb1
      go_wp2_with fail
      go_ret
      exact ⟨rfl, HB1.out⟩
  · have hg' : ¬ (((((1 ≤ weight) ∧ weight ≤ 20) ∧ 0 ≤ n) ∧ n ≤ 200) ∧ (cn : Int) ≤ 20) := by omega
    clear hg hc
    go_enter Tryz.func8, Tryz.ntmps8
    go_wp2_with fail
    refine haw.mono ?_
    rintro e w0 ⟨rfl, hb0⟩
    have HB0 := Lib.hid hb0
    clear hb0 haw
    go_wp2_with fail
    all_goals first | (exfalso; omega) | skip
    all_goals (go_ret; exact ⟨rfl, HB0.out⟩)
end Go.Proofs.YtoiajjobecinpaaGreat

namespace Go.Proofs.YtoiajjobecinpaaGreat
open Go.RowKit Go.Shelf Go.Lib Go.Proofs
set_option linter.unusedVariables false
set_option linter.unusedSimpArgs false

theorem sum_near (U D : Int) : ∀ (ws G : List Int), G.length = ws.length → (∀ w ∈ ws, 1 ≤ w ∧ w ≤ 20) →
    (∀ k, k < ws.length → U - D ≤ G.getD k 0 * stepI (ws.getD k 0) ∧ G.getD k 0 * stepI (ws.getD k 0) ≤ U + D) →
    ws.sum * (U - D) ≤ 232792560 * G.sum ∧ 232792560 * G.sum ≤ ws.sum * (U + D)
  | [], [], _, _, _ => by simp
  | [], _ :: _, h, _, _ => by simp at h
  | _ :: _, [], h, _, _ => by simp at h
  | w :: ws, g :: G, hl, hw, h => by
    have ih := sum_near U D ws G (by simpa using hl) (fun x hx => hw x (by simp [hx])) (fun k hk => by simpa using h (k + 1) (by simpa using hk))
    have h0 := h 0 (by simp)
    simp only [List.getD_cons_zero] at h0
    have hw0 := hw w (by simp)
    have hm := stepI_mul w hw0
    have e : 232792560 * g = w * (g * stepI w) := by
      rw [← hm, Int.mul_comm (stepI w) w, Int.mul_assoc, Int.mul_comm (stepI w) g]
    have a1 := Int.mul_le_mul_of_nonneg_left h0.1 (show 0 ≤ w by omega)
    have a2 := Int.mul_le_mul_of_nonneg_left h0.2 (show 0 ≤ w by omega)
    simp only [List.sum_cons, Int.add_mul, Int.mul_add, Int.mul_sub] at *
    omega

theorem share_bound (ws G : List Int) (hl : G.length = ws.length) (hw : ∀ w ∈ ws, 1 ≤ w ∧ w ≤ 20)
    (hfar : ∀ a b, a < ws.length → b < ws.length → G.getD a 0 * stepI (ws.getD a 0) ≤ G.getD b 0 * stepI (ws.getD b 0) + 931170240) (k : Nat) (hk : k < ws.length) :
    G.getD k 0 * ws.sum - G.sum * ws.getD k 0 ≤ 5 * ws.sum * ws.getD k 0 ∧ -5 * ws.sum * ws.getD k 0 ≤ G.getD k 0 * ws.sum - G.sum * ws.getD k 0 := by
  have hwk : 1 ≤ ws.getD k 0 ∧ ws.getD k 0 ≤ 20 := hw _ (by rw [List.getD_eq_getElem?_getD, List.getElem?_eq_getElem hk]; exact List.getElem_mem hk)
  obtain ⟨h1, h2⟩ := sum_near (G.getD k 0 * stepI (ws.getD k 0)) 931170240 ws G hl hw (fun b hb => by
    have a1 := hfar k b hk hb
    have a2 := hfar b k hb hk
    omega)
  have hs : ∀ l : List Int, (∀ w ∈ l, 1 ≤ w ∧ w ≤ 20) → 0 ≤ l.sum := by
    intro l
    induction l with
    | nil => intro _; simp
    | cons a l ih => intro h; have := ih (fun x hx => h x (by simp [hx])); have := h a (by simp); simp only [List.sum_cons]; omega
  have hT := hs ws hw
  have hm := stepI_mul _ hwk
  generalize ws.getD k 0 = w at *
  generalize G.getD k 0 = g at *
  generalize ws.sum = T at *
  generalize G.sum = n at *
  generalize stepI w = s at *
  have b1 := Int.mul_le_mul_of_nonneg_left h1 (show 0 ≤ w by omega)
  have b2 := Int.mul_le_mul_of_nonneg_left h2 (show 0 ≤ w by omega)
  have e1 : w * (T * (g * s - 931170240)) = 232792560 * (g * T) - 232792560 * (4 * (T * w)) := by
    have : w * (T * (g * s)) = (s * w) * (g * T) := by
      simp only [Int.mul_assoc, Int.mul_comm, Int.mul_left_comm]
    rw [Int.mul_sub, Int.mul_sub, this, hm]
    have : w * (T * 931170240) = 232792560 * (4 * (T * w)) := by rw [Int.mul_comm T 931170240, Int.mul_left_comm, Int.mul_comm w T]; omega
    rw [this]
  have e2 : w * (T * (g * s + 931170240)) = 232792560 * (g * T) + 232792560 * (4 * (T * w)) := by
    have : w * (T * (g * s)) = (s * w) * (g * T) := by
      simp only [Int.mul_assoc, Int.mul_comm, Int.mul_left_comm]
    rw [Int.mul_add, Int.mul_add, this, hm]
    have : w * (T * 931170240) = 232792560 * (4 * (T * w)) := by rw [Int.mul_comm T 931170240, Int.mul_left_comm, Int.mul_comm w T]; omega
    rw [this]
  have e3 : w * (232792560 * n) = 232792560 * (n * w) := by rw [Int.mul_left_comm, Int.mul_comm w n]
  have hTw : 0 ≤ T * w := Int.mul_nonneg hT (by omega)
  rw [e1, e3] at b1
  rw [e2, e3] at b2
  have e4 : 5 * T * w = 5 * (T * w) := Int.mul_assoc _ _ _
  have e5 : -5 * T * w = -5 * (T * w) := Int.mul_assoc _ _ _
  rw [e4, e5]
  generalize g * T = x at *
  generalize n * w = y at *
  generalize T * w = z at *
  omega

end Go.Proofs.YtoiajjobecinpaaGreat

namespace Go.Proofs.YtoiajjobecinpaaGreat
open Go.RowKit Go.Shelf Go.Lib Go.Proofs
set_option linter.unusedVariables false
set_option linter.unusedSimpArgs false
attribute [local go_sem] Oper.semAt_some

def listW (zs : List Int) (n : Nat) : List Int := (List.range n).map fun i => zs.getD i 0

theorem listW_len (zs : List Int) (n : Nat) : (listW zs n).length = n := by simp [listW]
theorem listW_get (zs : List Int) (n k : Nat) (hk : k < n) : (listW zs n).getD k 0 = zs.getD k 0 := by
  simp [listW, List.getD_eq_getElem?_getD, hk]
theorem listW_succ (zs : List Int) (k : Nat) : listW zs (k + 1) = listW zs k ++ [zs.getD k 0] := by simp [listW, List.range_succ]

def TotI (W : World) (zs : List Int) (k : Nat) (wr : World) : Prop := (∀ w ∈ listW zs k, 1 ≤ w ∧ w ≤ 20) ∧ Below W.heap.size W wr

theorem sum_bound : ∀ (l : List Int), (∀ w ∈ l, 1 ≤ w ∧ w ≤ 20) → 0 ≤ l.sum ∧ l.sum ≤ l.length * 20
  | [], _ => by simp
  | a :: l, h => by
    have ih := sum_bound l (fun x hx => h x (by simp [hx]))
    have := h a (by simp)
    simp only [List.sum_cons, List.length_cons]
    omega

set_option maxRecDepth 100000 in
theorem make42 (c : Nat) (h1 : c ≤ 64) (W : World) :
    (Instr.makeSlice 42 (.int .i64 (c : Int)) (.int .i64 (c : Int))).run Tryz.prog W = .ok (.slice (some ⟨W.heap.size, 0, none⟩) c c) (W.alloc (.cells (Array.replicate c (.int .i64 0)) 2)) := by
  obtain ⟨i, hi, hz, hs, hb⟩ := info_parts info2
  have := run_make (P := Tryz.prog) W 42 2 i _ Tryz.underlying42 hi hz .i64 .i64 c c (by omega) (Int.le_refl _) (by rw [hb]; omega) (by omega)
  rw [hs] at this
  rw [this]
  simp only [Int.toNat_natCast]
  congr 4
  rw [← Array.toList_inj]
  rw [show (Value.int IntKind.i64 0).cells = #[Value.int IntKind.i64 0] from rfl, toList_madeCells_one]
  simp

theorem WoIn.same {W W' : World} {ob wb sb : Nat} {s : Sy} {m : Nat} {cbs : List Nat} {L : Int → Option Tr} {own : Nat → Option Own} {ow : Nat → Option OwnW} (h : WoIn W ob wb sb s m cbs L own ow) (hs : W.heap.size ≤ W'.heap.size)
    (hb : ∀ k, (k = ob ∨ own k ≠ none ∨ ow k ≠ none) → W'.heap[k]? = W.heap[k]?) : WoIn W' ob wb sb s m cbs L own ow := by
  obtain ⟨h1, ⟨⟨gb, nb, pb, mb, n, cv, D, tb, hS⟩, ⟨mb2, n2, av, D2, tbs, ttb, hW⟩, hd⟩, h3, h4⟩ := h
  exact ⟨(hb ob (.inl rfl)).trans h1, ⟨⟨gb, nb, pb, mb, n, cv, D, tb, hS.same hs (fun k hk => hb k (.inr (.inl hk)))⟩, ⟨mb2, n2, av, D2, tbs, ttb, hW.same hs (fun k hk => hb k (.inr (.inr hk)))⟩, hd⟩, h3, h4⟩

theorem ShW.alloc {W : World} {N : Nat → Prop} {ob : Nat} {ws G : List Int} {t m : Nat} (h : ShW W N ob ws G t m) (o : Obj) : ShW (W.alloc o) (fun k => N k ∨ k = W.heap.size) ob ws G t m := by
  obtain ⟨wb, sb, s, cbs, L, own, ow, c, hW, hS, hC, hL, hN⟩ := h
  have hlt := hW.2.1.lt
  have hob : ob < W.heap.size := (Array.getElem?_eq_some_iff.1 hW.1).1
  refine ⟨wb, sb, s, cbs, L, own, ow, c, hW.same (by simp) (fun k hk => Below.heap_alloc _ _ _ ?_), hS, hC, hL, fun k hk => ?_⟩
  · rcases hk with rfl | hk
    · exact hob
    · exact hlt k hk
  · rcases hk with hk | rfl
    · obtain ⟨a, b, c⟩ := hN k hk
      exact ⟨by simp; omega, b, c⟩
    · refine ⟨by simp, ?_, ?_⟩
      · by_cases e : own W.heap.size = none
        · exact e
        · have := hlt _ (.inl e); omega
      · by_cases e : ow W.heap.size = none
        · exact e
        · have := hlt _ (.inr e); omega

/-- Who ran how often, in memory. -/
def GotAt (W : World) (gb : Nat) (G : List Int) : Prop := W.heap[gb]? = some (.cells (G.map (Value.int .i64)).toArray 2 (0, 0))

theorem GotAt.cell {W : World} {gb : Nat} {G : List Int} (h : GotAt W gb G) (j : Nat) (hj : j < G.length) : W.cell? ⟨gb, j, none⟩ = some (.int .i64 (G.getD j 0)) := by
  unfold GotAt at h
  simp [World.cell?, h, List.getD_eq_getElem?_getD, List.getElem?_eq_getElem hj]

theorem GotAt.live {W : World} {gb : Nat} {G : List Int} (h : GotAt W gb G) (j : Nat) : W.frozen? ⟨gb, j, none⟩ = false := by
  unfold GotAt at h
  simp [World.frozen?, h]

theorem GotAt.set {W : World} {gb : Nat} {G : List Int} (h : GotAt W gb G) (j : Nat) : GotAt (W.setCell ⟨gb, j, none⟩ (.int .i64 (G.getD j 0 + 1))) gb (addG G j) := by
  unfold GotAt at h ⊢
  rw [heap_setCell_row h]
  simp [addG, List.map_set]

theorem ShW.set {W : World} {N : Nat → Prop} {ob gb : Nat} {ws G G' : List Int} {t m : Nat} (h : ShW W N ob ws G t m) (hN : N gb) (hg : GotAt W gb G') (j : Nat) (v : Value) : ShW (W.setCell ⟨gb, j, none⟩ v) N ob ws G t m := by
  obtain ⟨wb, sb, s, cbs, L, own, ow, c, hW, hS, hC, hL, hF⟩ := h
  obtain ⟨f1, f2, f3⟩ := hF gb hN
  have hne : ob ≠ gb := fun e => by
    have h1 := hW.1
    unfold GotAt at hg
    rw [e, hg] at h1
    simp at h1
  refine ⟨wb, sb, s, cbs, L, own, ow, c, hW.same (by simp) (fun k hk => Below.heap_setCell _ _ _ _ ?_), hS, hC, hL, fun k hk => ?_⟩
  · rcases hk with rfl | hk | hk
    · exact hne
    · rintro rfl; exact hk f2
    · rintro rfl; exact hk f3
  · have := hF k hk
    simpa using this

theorem ShW.gotlen {W : World} {N : Nat → Prop} {ob : Nat} {ws G : List Int} {t m : Nat} (h : ShW W N ob ws G t m) : G.length = ws.length := by
  obtain ⟨wb, sb, s, cbs, L, own, ow, c, hW, hS, hC, hL, hF⟩ := h
  exact hC.len

/-- What the rounds of the ticks keep. -/
def TickI (N : Nat → Prop) (W : World) (ob gb : Nat) (ws : List Int) (k : Nat) (wr : World) : Prop :=
  ∃ G m, ShW wr N ob ws G k m ∧ m ≤ k ∧ Below W.heap.size W wr ∧ GotAt wr gb G

theorem ShW.below {W W' : World} {N : Nat → Prop} {ob : Nat} {ws G : List Int} {t m : Nat} (h : ShW W N ob ws G t m) (hb : Below W.heap.size W W') : ShW W' N ob ws G t m := by
  obtain ⟨wb, sb, s, cbs, L, own, ow, c, hW, hS, hC, hL, hN⟩ := h
  have hlt := hW.2.1.lt
  have hob : ob < W.heap.size := (Array.getElem?_eq_some_iff.1 hW.1).1
  refine ⟨wb, sb, s, cbs, L, own, ow, c, hW.same hb.size (fun k hk => hb.block k ?_), hS, hC, hL, fun k hk => ?_⟩
  · rcases hk with rfl | hk
    · exact hob
    · exact hlt k hk
  · have h1 := hN k hk
    have := hb.size
    exact ⟨by omega, h1.2⟩

theorem TickI.next {N : Nat → Prop} {W w6 w7 : World} {ob gb : Nat} {ws G : List Int} {k m j : Nat} (hR6 : ShW w6 N ob ws (addG G j) (k + 1) m) (hm : m ≤ k + 1) (hb6 : Below W.heap.size W w6) (hg6 : GotAt w6 gb G) (hN : N gb) (hgb : W.heap.size ≤ gb)
    (h7 : Below w6.heap.size w6 w7) : TickI N W ob gb ws (k + 1) (w7.setCell ⟨gb, j, none⟩ (.int .i64 (G.getD j 0 + 1))) := by
  have hgl : gb < w6.heap.size := (Array.getElem?_eq_some_iff.1 hg6).1
  have hg7 : GotAt w7 gb G := (h7.block gb hgl).trans hg6
  exact ⟨addG G j, m, (hR6.below h7).set hN hg7 j _, hm, (hb6.trans (h7.mono hb6.size)).setCell hgb _, hg7.set j⟩

theorem ShW.nn {W : World} {N : Nat → Prop} {ob : Nat} {ws G : List Int} {t m : Nat} (h : ShW W N ob ws G t m) (j : Nat) : 0 ≤ G.getD j 0 ∧ G.getD j 0 ≤ t := by
  obtain ⟨wb, sb, s, cbs, L, own, ow, c, hW, hS, hC, hL, hF⟩ := h
  refine ⟨hC.nn j, ?_⟩
  rw [← hC.sum]
  have gen : ∀ (G : List Int), (∀ k, 0 ≤ G.getD k 0) → ∀ j, G.getD j 0 ≤ G.sum := by
    intro G
    induction G with
    | nil => intro _ j; simp
    | cons g G ih =>
      intro h j
      have h0 := h 0
      have hs : ∀ k, 0 ≤ G.getD k 0 := fun k => by simpa using h (k + 1)
      have ih' := ih hs
      simp only [List.sum_cons]
      cases j with
      | zero =>
        simp only [List.getD_cons_zero] at h0 ⊢
        have hnn : 0 ≤ G.sum := by
          have a := ih' 0
          have b := hs 0
          omega
        omega
      | succ j =>
        simp only [List.getD_cons_zero, List.getD_cons_succ] at h0 ⊢
        have := ih' j
        omega
  exact gen G hC.nn j

theorem ShW.share {W : World} {N : Nat → Prop} {ob : Nat} {ws G : List Int} {t m : Nat} (h : ShW W N ob ws G t m) (i : Nat) (hi : i < ws.length) :
    G.getD i 0 * ws.sum - t * ws.getD i 0 ≤ 5 * ws.sum * ws.getD i 0 ∧ -5 * ws.sum * ws.getD i 0 ≤ G.getD i 0 * ws.sum - t * ws.getD i 0 := by
  obtain ⟨wb, sb, s, cbs, L, own, ow, c, hW, hS, hC, hL, hF⟩ := h
  rw [← hC.sum]
  refine share_bound ws G hC.len hC.inv.good (fun a b ha hb => ?_) i hi
  obtain ⟨off, ho⟩ := hC.got
  have h1 := ho a ha
  have h2 := ho b hb
  have hla : a < c.l.ps.length := by rw [hC.inv.len]; exact ha
  have hlb : b < c.l.ps.length := by rw [hC.inv.len]; exact hb
  rw [getElem!_pos c.l.ps a hla] at h1
  rw [getElem!_pos c.l.ps b hlb] at h2
  have h3 := hC.inv.far _ (List.getElem_mem hla)
  have h4 := hC.inv.low _ (List.getElem_mem hlb)
  omega

set_option maxRecDepth 100000 in
set_option maxHeartbeats 4000000 in
theorem shares_any (tag every n : Int) (wa : Option Addr) (wn wc : Nat) (zs : List Int) (ca : Option Addr) (cn cc : Nat) (ys : List Int) (W : World) (hw : ReadsI W wa wn zs) (hc : ReadsI W ca cn ys) :
    Calls Tryz.prog 4 #[.int .i64 tag, .slice wa wn wc, .slice ca cn cc, .int .i64 every, .int .i64 n] W fun e w' => e = .returned (.bool true) ∧ Below W.heap.size W w' := by
  have haw := awake_any W
  by_cases hg : 1 ≤ wn ∧ wn ≤ 20 ∧ cn ≤ 20 ∧ 1 ≤ every ∧ 0 ≤ n ∧ n ≤ 500
  · obtain ⟨g1, g2, g3, g4, g5, g6⟩ := hg
    have q1 : ¬ (wn : Int) < 1 := by omega
    have q2 : ¬ 20 < (wn : Int) := by omega
    have q3 : ¬ 20 < (cn : Int) := by omega
    have q4 : ¬ every < 1 := by omega
    have q5 : ¬ n < 0 := by omega
    have q6 : ¬ 500 < n := by omega
    obtain ⟨b, off, rfl, hbl, hcell⟩ : ∃ b off, wa = some ⟨b, off, none⟩ ∧ b < W.heap.size ∧ ∀ j, j < wn → W.cell? ⟨b, off + j, none⟩ = some (.int .i64 (zs.getD j 0)) := by
      rcases hw with h | h
      · omega
      · exact h
    have HBL := Lib.hid hbl
    have HCELL := Lib.hid hcell
    have HC := Lib.hid hc
    have HG := Lib.hid (And.intro g1 (And.intro g2 (And.intro g3 (And.intro g4 (And.intro g5 g6)))))
    clear hc hw hcell hbl g1 g2 g3 g4 g5 g6
    go_enter Tryz.func4, Tryz.ntmps4
    go_wp2_with fail
    refine haw.mono ?_
    rintro e w0 ⟨rfl, hb0⟩
    have HB0 := Lib.hid hb0
    clear hb0 haw
    go_wp2_with fail
    go_loopw [11, 12] (fun t x wr => ∃ k : Nat, k ≤ wn ∧ x = .int .i64 k ∧ t = .int .i64 (listW zs k).sum ∧ Hid (TotI W zs k wr)) (fun _ x _ => wn - (intOf x).toNat)
    case atStart => exact ⟨0, Nat.zero_le _, rfl, rfl, Lib.hid ⟨by simp [listW], HB0.out⟩⟩
    case round =>
      obtain ⟨k, hk, rfl, rfl, HR⟩ := hrel
      have hk0 : 0 ≤ (k : Int) := by omega
      by_cases hkn : (k : Int) < (wn : Int)
      · have hcl := (HR.out.2.cell (p := ⟨b, off + k, none⟩) HBL.out).trans (HCELL.out k (by omega))
        obtain ⟨z, hz⟩ : ∃ x, zs.getD k 0 = x := ⟨_, rfl⟩
        obtain ⟨T, hT⟩ : ∃ x, (listW zs k).sum = x := ⟨_, rfl⟩
        have hTb := sum_bound _ HR.out.1
        rw [listW_len, hT] at hTb
        rw [hz] at hcl
        rw [hT]
        have HZ := Lib.hid hz
        have HT := Lib.hid hT
        clear hz hT
        by_cases h1 : z < 1
        · go_wp2_with fail
          go_ret
          exact ⟨rfl, HR.out.2⟩
        · by_cases h2 : 20 < z
          · go_wp2_with fail
            go_ret
            exact ⟨rfl, HR.out.2⟩
          · go_wp2_with fail
            go_roundw
            case rel => exact ⟨k + 1, by omega, by go_num, by rw [listW_succ, List.sum_append, HT.out, HZ.out]; simp, Lib.hid ⟨fun w hw => by
                rw [listW_succ, List.mem_append] at hw
                rcases hw with h | h
                · exact HR.out.1 w h
                · simp at h; rw [h, ← List.getD_eq_getElem?_getD, HZ.out]; omega, HR.out.2⟩⟩
            case measure => simp [intOf]; omega
      · obtain rfl : k = wn := by omega
        obtain ⟨hgd, hb⟩ := HR.out
        have HGD := Lib.hid hgd
        have HB := Lib.hid hb
        clear hgd hb HR
        have HT := Lib.hid (show (listW zs k).sum = (listW zs k).sum from rfl)
        obtain ⟨T, hT⟩ : ∃ x, (listW zs k).sum = x := ⟨_, rfl⟩
        rw [hT]
        have HTT := Lib.hid hT
        clear hT HT
        by_cases htag : tag = 0 ∨ tag = 1 ∨ tag = 2
        · have hnew := beg_new (wr.alloc (.cells #[.int .i64 tag] 3)) wr.heap.size 1 tag (cell_new_l wr (.int .i64 tag) 3).1 (by simp) htag
          clear htag
          go_wp2_with fail
          refine hnew.mono ?_
          rintro e w1 ⟨ob, rfl, hW1, hb1⟩
          obtain ⟨B1, hB1⟩ : ∃ x, (wr.alloc (.cells #[.int .i64 tag] 3)).heap.size = x := ⟨_, rfl⟩
          rw [hB1] at hW1 hb1
          have hsz0 : W.heap.size ≤ B1 := by rw [← hB1]; have := HB.out.size; simp; omega
          have hB01 : Below W.heap.size W w1 := (HB.out.alloc HB.out.size (.cells #[.int .i64 tag] 3)).trans (hb1.mono hsz0)
          have HB1 := Lib.hid hB01
          have HZ := Lib.hid hsz0
          have HW1 := Lib.hid hW1
          clear hW1 hb1 hnew hB1 hB01 hsz0
          go_wp2_with fail
          go_loopw [15] (fun x wr => ∃ j : Nat, j ≤ k ∧ x = .int .i64 j ∧ Hid (BegW wr (fun i => i < B1) ob (listW zs j) ∧ Below W.heap.size W wr)) (fun x _ => k - (intOf x).toNat)
          case atStart => exact ⟨0, Nat.zero_le _, rfl, Lib.hid ⟨HW1.out, HB1.out⟩⟩
          case round =>
            obtain ⟨j, hj, rfl, HR⟩ := hrel
            have hj0 : 0 ≤ (j : Int) := by omega
            by_cases hjk : (j : Int) < (k : Int)
            · have hcl := (HR.out.2.cell (p := ⟨b, off + j, none⟩) HBL.out).trans (HCELL.out j (by omega))
              obtain ⟨z, hz⟩ : ∃ x, zs.getD j 0 = x := ⟨_, rfl⟩
              rw [hz] at hcl
              have hz20 : 1 ≤ z ∧ z ≤ 20 := HGD.out z (by
                rw [← hz]; unfold listW
                exact List.mem_map_of_mem (List.mem_range.2 (by omega)))
              have hsp := beg_spawn wr _ ob (listW zs j) z 0 0 (.slice none 0 0) HR.out.1 hz20 (by rw [listW_len]; omega)
              unfold actV at hsp
              have HZZ := Lib.hid hz
              have HZ20 := Lib.hid hz20
              clear hz hz20
              go_wp2_with fail
              refine hsp.mono ?_
              rintro e w2 ⟨⟨x, y, rfl⟩, hW2, ht2⟩
              have hst := beg_start w2 _ ob (listW zs j) z 0 0 0 0 (.slice none 0 0) hW2
              unfold actV at hst
              rw [listW_len] at hst
              have HB2 := Lib.hid (below_low HR.out.2 (Nat.le_refl _) HZ.out ht2)
              clear hW2 ht2 hsp hcl
              go_wp2_with fail
              refine hst.mono ?_
              rintro e w3 ⟨⟨x3, y3, rfl⟩, hW3, ht3⟩
              have HB3 := Lib.hid (below_low HB2.out (Nat.le_refl _) HZ.out ht3)
              have HW3 := Lib.hid hW3
              clear hW3 ht3 hst
              go_wp2_with fail
              go_roundw
              case rel => exact ⟨j + 1, by omega, by go_num, Lib.hid ⟨by rw [listW_succ, HZZ.out]; exact HW3.out, HB3.out⟩⟩
              case measure => simp [intOf]; omega
            · obtain rfl : j = k := by omega
              obtain ⟨hbw, hbb⟩ := HR.out
              have HS := Lib.hid (hbw.sh (by rw [listW_len]; exact HG.out.1))
              have HBB := Lib.hid hbb
              clear hbw hbb HR
              have hmk := make42 j (by omega) wr
              go_wp2_with fail
              obtain ⟨gb, HGB⟩ : ∃ x, Hid (wr.heap.size = x) := ⟨_, Lib.hid rfl⟩
              have HST := Lib.hid (show TickI (fun i => i < B1 ∨ i = gb) W ob gb (listW zs j) 0 (wr.alloc (.cells (Array.replicate j (.int .i64 0)) 2)) from by
                have h1 := HS.out.alloc (.cells (Array.replicate j (.int .i64 0)) 2)
                rw [HGB.out, listW_len] at h1
                refine ⟨_, 0, h1, Nat.le_refl _, HBB.out.alloc HBB.out.size _, ?_⟩
                rw [← HGB.out]
                unfold GotAt
                rw [heap_alloc_new]
                simp)
              clear hmk
              rw [HGB.out]
              go_loopw [17] (fun x wr => ∃ k : Nat, (k : Int) ≤ n ∧ x = .int .i64 k ∧ Hid (TickI (fun i => i < B1 ∨ i = gb) W ob gb (listW zs j) k wr)) (fun x _ => (n - intOf x).toNat)
              case atStart => exact ⟨0, by omega, rfl, HST⟩
              case round =>
                obtain ⟨k, hk, rfl, HR⟩ := hrel
                obtain ⟨G, m, hR, hm, hb, hg⟩ := HR.out
                have hk0 : 0 ≤ (k : Int) := by omega
                have hgbz : W.heap.size ≤ gb := by rw [← HGB.out]; exact HBB.out.size
                have HGZ := Lib.hid hgbz
                have HGL := Lib.hid hR.gotlen
                have HNN := Lib.hid hR.nn
                by_cases hkn : (k : Int) < n
                · have hrun := sh_run wr _ ob (listW zs j) G k m 0 0 0 0 (.slice none 0 0) hR (by omega)
                  unfold actV at hrun
                  by_cases hcn : 0 < cn
                  · obtain ⟨b2, off2, rfl, hbl2, hcell2⟩ : ∃ b off, ca = some ⟨b, off, none⟩ ∧ b < W.heap.size ∧ ∀ j, j < cn → W.cell? ⟨b, off + j, none⟩ = some (.int .i64 (ys.getD j 0)) := by
                      rcases HC.out with h | h
                      · omega
                      · exact h
                    obtain ⟨D, hD, hD5⟩ : ∃ D : Nat, (k : Int) / every = (D : Int) ∧ D ≤ 500 := by
                      refine ⟨((k : Int) / every).toNat, ?_, ?_⟩
                      · have := Int.ediv_nonneg hk0 (show 0 ≤ every by omega)
                        omega
                      · have := Int.ediv_le_self (b := every) hk0
                        omega
                    obtain ⟨q, hq, hqc⟩ : ∃ q : Nat, Int.tmod (D : Int) (cn : Int) = (q : Int) ∧ q < cn := ⟨D % cn, by
                      rw [Int.tmod_eq_emod_of_nonneg (by omega)]; omega, Nat.mod_lt _ hcn⟩
                    have hcl := (hb.cell (p := ⟨b2, off2 + q, none⟩) hbl2).trans (hcell2 q hqc)
                    obtain ⟨z, hz⟩ : ∃ x, ys.getD q 0 = x := ⟨_, rfl⟩
                    rw [hz] at hcl
                    have hch := sh_change wr _ ob (listW zs j) G k m z 0 0 0 hR (by omega) (by omega)
                    unfold actV at hch
                    have HRR := Lib.hid (And.intro hR (And.intro hm (And.intro hb hg)))
                    clear hR hm hb hg HR hz hcell2 hbl2 hgbz
                    go_wp2_with fail
                    rotate_left
                    · have HCH := HRR
                      refine hrun.mono ?_
                      rintro e w6 ⟨jj, hjj, rfl, hR6, ht6⟩
                      rw [listW_len] at hjj
                      have hg6 : GotAt w6 gb G := (ht6.block gb (Array.getElem?_eq_some_iff.1 HRR.out.2.2.2).1 (fun hn => hn (.inr rfl))).trans HRR.out.2.2.2
                      have HB6 := Lib.hid (HRR.out.2.2.1.trans (ht6.below HRR.out.2.2.1.size (fun i hi => by
                        by_cases e : i < B1
                        · exact absurd (.inl e) hi
                        · have := HZ.out; omega)))
                      have gc := c2a (.cells #[.int .i64 (jj : Int), .int .i64 0] 37) (hg6.cell jj (by rw [HGL.out, listW_len]; exact hjj))
                      have gf : (w6.alloc (.cells #[.int .i64 (jj : Int), .int .i64 0] 37)).frozen? ⟨gb, jj, none⟩ = false := (World.frozen?_of_block (a := ⟨gb, jj, none⟩) (Below.heap_alloc _ _ _ (Array.getElem?_eq_some_iff.1 hg6).1)).trans (hg6.live jj)
                      have HG6 := Lib.hid hg6
                      have HR6 := Lib.hid hR6
                      obtain ⟨gj1, gj2⟩ := HNN.out jj
                      obtain ⟨gj, hgj⟩ : ∃ x, G.getD jj 0 = x := ⟨_, rfl⟩
                      rw [hgj] at gc gj1 gj2
                      have HGJ := Lib.hid hgj
                      have hj0' : 0 ≤ (jj : Int) := by omega
                      have hjj' : (jj : Int) < (j : Int) := by omega
                      clear hg6 hR6 ht6 hrun hgj HCH
                      go_wp2_with fail
                      go_roundw
                      case rel => exact ⟨k + 1, by omega, by go_num, Lib.hid (by rw [← HGJ.out]; exact TickI.next HR6.out (by have := HRR.out.2.1; omega) HB6.out HG6.out (.inr rfl) HGZ.out ((Below.refl _ _).alloc (Nat.le_refl _) _))⟩
                      case measure => simp [intOf]; omega
                    · refine hch.mono ?_
                      rintro e w5 ⟨⟨x5, y5, rfl⟩, ⟨m5, hm5, hR5⟩, ht5⟩
                      have hg5 : GotAt w5 gb G := (ht5.block gb (Array.getElem?_eq_some_iff.1 HRR.out.2.2.2).1 (fun hn => hn (.inr rfl))).trans HRR.out.2.2.2
                      have hb5 : Below W.heap.size W w5 := HRR.out.2.2.1.trans (ht5.below HRR.out.2.2.1.size (fun i hi => by
                        by_cases e : i < B1
                        · exact absurd (.inl e) hi
                        · have := HZ.out; omega))
                      have hm5' : m5 ≤ k + 1 := by have := HRR.out.2.1; omega
                      clear hrun hch HRR
                      have hrun := sh_run w5 _ ob (listW zs j) G k m5 0 0 0 0 (.slice none 0 0) hR5 (by omega)
                      unfold actV at hrun
                      have HRR := Lib.hid (And.intro hR5 (And.intro hm5' (And.intro hb5 hg5)))
                      have HCH := HRR
                      clear hR5 hm5' hb5 hg5 ht5 hcl
                      go_wp2_with fail
                      refine hrun.mono ?_
                      rintro e w6 ⟨jj, hjj, rfl, hR6, ht6⟩
                      rw [listW_len] at hjj
                      have hg6 : GotAt w6 gb G := (ht6.block gb (Array.getElem?_eq_some_iff.1 HRR.out.2.2.2).1 (fun hn => hn (.inr rfl))).trans HRR.out.2.2.2
                      have HB6 := Lib.hid (HRR.out.2.2.1.trans (ht6.below HRR.out.2.2.1.size (fun i hi => by
                        by_cases e : i < B1
                        · exact absurd (.inl e) hi
                        · have := HZ.out; omega)))
                      have gc := c2a (.cells #[.int .i64 (jj : Int), .int .i64 0] 37) (hg6.cell jj (by rw [HGL.out, listW_len]; exact hjj))
                      have gf : (w6.alloc (.cells #[.int .i64 (jj : Int), .int .i64 0] 37)).frozen? ⟨gb, jj, none⟩ = false := (World.frozen?_of_block (a := ⟨gb, jj, none⟩) (Below.heap_alloc _ _ _ (Array.getElem?_eq_some_iff.1 hg6).1)).trans (hg6.live jj)
                      have HG6 := Lib.hid hg6
                      have HR6 := Lib.hid hR6
                      obtain ⟨gj1, gj2⟩ := HNN.out jj
                      obtain ⟨gj, hgj⟩ : ∃ x, G.getD jj 0 = x := ⟨_, rfl⟩
                      rw [hgj] at gc gj1 gj2
                      have HGJ := Lib.hid hgj
                      have hj0' : 0 ≤ (jj : Int) := by omega
                      have hjj' : (jj : Int) < (j : Int) := by omega
                      clear hg6 hR6 ht6 hrun hgj HCH
                      go_wp2_with fail
                      go_roundw
                      case rel => exact ⟨k + 1, by omega, by go_num, Lib.hid (by rw [← HGJ.out]; exact TickI.next HR6.out (by have := HRR.out.2.1; omega) HB6.out HG6.out (.inr rfl) HGZ.out ((Below.refl _ _).alloc (Nat.le_refl _) _))⟩
                      case measure => simp [intOf]; omega
                  · have HRR := Lib.hid (And.intro hR (And.intro hm (And.intro hb hg)))
                    clear hR hm hb hg HR hgbz
                    go_wp2_with fail
                    · have HCH := HRR
                      refine hrun.mono ?_
                      rintro e w6 ⟨jj, hjj, rfl, hR6, ht6⟩
                      rw [listW_len] at hjj
                      have hg6 : GotAt w6 gb G := (ht6.block gb (Array.getElem?_eq_some_iff.1 HRR.out.2.2.2).1 (fun hn => hn (.inr rfl))).trans HRR.out.2.2.2
                      have HB6 := Lib.hid (HRR.out.2.2.1.trans (ht6.below HRR.out.2.2.1.size (fun i hi => by
                        by_cases e : i < B1
                        · exact absurd (.inl e) hi
                        · have := HZ.out; omega)))
                      have gc := c2a (.cells #[.int .i64 (jj : Int), .int .i64 0] 37) (hg6.cell jj (by rw [HGL.out, listW_len]; exact hjj))
                      have gf : (w6.alloc (.cells #[.int .i64 (jj : Int), .int .i64 0] 37)).frozen? ⟨gb, jj, none⟩ = false := (World.frozen?_of_block (a := ⟨gb, jj, none⟩) (Below.heap_alloc _ _ _ (Array.getElem?_eq_some_iff.1 hg6).1)).trans (hg6.live jj)
                      have HG6 := Lib.hid hg6
                      have HR6 := Lib.hid hR6
                      obtain ⟨gj1, gj2⟩ := HNN.out jj
                      obtain ⟨gj, hgj⟩ : ∃ x, G.getD jj 0 = x := ⟨_, rfl⟩
                      rw [hgj] at gc gj1 gj2
                      have HGJ := Lib.hid hgj
                      have hj0' : 0 ≤ (jj : Int) := by omega
                      have hjj' : (jj : Int) < (j : Int) := by omega
                      clear hg6 hR6 ht6 hrun hgj HCH
                      go_wp2_with fail
                      go_roundw
                      case rel => exact ⟨k + 1, by omega, by go_num, Lib.hid (by rw [← HGJ.out]; exact TickI.next HR6.out (by have := HRR.out.2.1; omega) HB6.out HG6.out (.inr rfl) HGZ.out ((Below.refl _ _).alloc (Nat.le_refl _) _))⟩
                      case measure => simp [intOf]; omega
                    · have HCH := HRR
                      refine hrun.mono ?_
                      rintro e w6 ⟨jj, hjj, rfl, hR6, ht6⟩
                      rw [listW_len] at hjj
                      have hg6 : GotAt w6 gb G := (ht6.block gb (Array.getElem?_eq_some_iff.1 HRR.out.2.2.2).1 (fun hn => hn (.inr rfl))).trans HRR.out.2.2.2
                      have HB6 := Lib.hid (HRR.out.2.2.1.trans (ht6.below HRR.out.2.2.1.size (fun i hi => by
                        by_cases e : i < B1
                        · exact absurd (.inl e) hi
                        · have := HZ.out; omega)))
                      have gc := c2a (.cells #[.int .i64 (jj : Int), .int .i64 0] 37) (hg6.cell jj (by rw [HGL.out, listW_len]; exact hjj))
                      have gf : (w6.alloc (.cells #[.int .i64 (jj : Int), .int .i64 0] 37)).frozen? ⟨gb, jj, none⟩ = false := (World.frozen?_of_block (a := ⟨gb, jj, none⟩) (Below.heap_alloc _ _ _ (Array.getElem?_eq_some_iff.1 hg6).1)).trans (hg6.live jj)
                      have HG6 := Lib.hid hg6
                      have HR6 := Lib.hid hR6
                      obtain ⟨gj1, gj2⟩ := HNN.out jj
                      obtain ⟨gj, hgj⟩ : ∃ x, G.getD jj 0 = x := ⟨_, rfl⟩
                      rw [hgj] at gc gj1 gj2
                      have HGJ := Lib.hid hgj
                      have hj0' : 0 ≤ (jj : Int) := by omega
                      have hjj' : (jj : Int) < (j : Int) := by omega
                      clear hg6 hR6 ht6 hrun hgj HCH
                      go_wp2_with fail
                      go_roundw
                      case rel => exact ⟨k + 1, by omega, by go_num, Lib.hid (by rw [← HGJ.out]; exact TickI.next HR6.out (by have := HRR.out.2.1; omega) HB6.out HG6.out (.inr rfl) HGZ.out ((Below.refl _ _).alloc (Nat.le_refl _) _))⟩
                      case measure => simp [intOf]; omega
                · obtain ⟨N, hN⟩ : ∃ N : Nat, n = (N : Int) := ⟨n.toNat, by omega⟩
                  obtain rfl : k = N := by omega
                  have HRR := Lib.hid (And.intro hR (And.intro hm (And.intro hb hg)))
                  have HNK := Lib.hid hN
                  clear hR hm hb hg HR hgbz
                  go_wp2_with fail
                  go_loopw [19] (fun x wr2 => ∃ i : Nat, i ≤ j ∧ x = .int .i64 i ∧ Hid (Below wr.heap.size wr wr2)) (fun x _ => j - (intOf x).toNat)
                  case atStart => exact ⟨0, Nat.zero_le _, rfl, Lib.hid (Below.refl _ _)⟩
                  case round =>
                    obtain ⟨i, hi, rfl, HR2⟩ := hrel
                    have hi0 : 0 ≤ (i : Int) := by omega
                    by_cases hij : (i : Int) < (j : Int)
                    · have hsh := HRR.out.1.share i (by rw [listW_len]; omega)
                      have hgl := (Array.getElem?_eq_some_iff.1 HRR.out.2.2.2).1
                      have hge := (HR2.out.cell (p := ⟨gb, i, none⟩) hgl).trans (HRR.out.2.2.2.cell i (by rw [HGL.out, listW_len]; omega))
                      have hbb := HRR.out.2.2.1.trans (HR2.out.mono HRR.out.2.2.1.size)
                      have hcl := (hbb.cell (p := ⟨b, off + i, none⟩) HBL.out).trans (HCELL.out i (by omega))
                      have hz20 : 1 ≤ zs.getD i 0 ∧ zs.getD i 0 ≤ 20 := HGD.out _ (by
                        unfold listW
                        exact List.mem_map_of_mem (List.mem_range.2 (by omega)))
                      have hTb := sum_bound _ HGD.out
                      rw [listW_len, HTT.out] at hTb
                      obtain ⟨g1, g2⟩ := HNN.out i
                      rw [listW_get _ _ _ (show i < j by omega), HTT.out] at hsh
                      obtain ⟨g, hgg⟩ : ∃ x, G.getD i 0 = x := ⟨_, rfl⟩
                      obtain ⟨z, hz⟩ : ∃ x, zs.getD i 0 = x := ⟨_, rfl⟩
                      rw [hgg] at hge g1 g2 hsh
                      rw [hz] at hcl hz20 hsh
                      have p1 : 0 ≤ g * T ∧ g * T ≤ 500 * 400 := ⟨Int.mul_nonneg g1 hTb.1, Int.mul_le_mul (by omega) (by omega) hTb.1 (by omega)⟩
                      have p2 : 0 ≤ (k : Int) * z ∧ (k : Int) * z ≤ 500 * 20 := ⟨Int.mul_nonneg (by omega) (by omega), Int.mul_le_mul (by omega) (by omega) (by omega) (by omega)⟩
                      have p3 : 0 ≤ 5 * T * z ∧ 5 * T * z ≤ 2000 * 20 := ⟨Int.mul_nonneg (by omega) (by omega), Int.mul_le_mul (by omega) (by omega) (by omega) (by omega)⟩
                      have p4 : -5 * T * z = -(5 * T * z) := by rw [Int.neg_mul, Int.neg_mul]
                      rw [p4] at hsh
                      obtain ⟨P1, hP1⟩ : ∃ x, g * T = x := ⟨_, rfl⟩
                      obtain ⟨P2, hP2⟩ : ∃ x, (k : Int) * z = x := ⟨_, rfl⟩
                      obtain ⟨P3, hP3⟩ : ∃ x, 5 * T * z = x := ⟨_, rfl⟩
                      rw [hP1, hP2, hP3] at hsh
                      rw [hP1] at p1
                      rw [hP2] at p2
                      rw [hP3] at p3 p4
                      obtain ⟨s1, s2⟩ := hsh
                      obtain ⟨t1, t2⟩ := hTb
                      obtain ⟨a1, a2⟩ := p1
                      obtain ⟨b1, b2⟩ := p2
                      obtain ⟨c1, c2⟩ := p3
                      obtain ⟨z1, z2⟩ := hz20
                      have hbb2 := Lib.hid HR2.out
                      clear hgg hz hgl hbb HR2
                      go_wp2_with fail
                      go_quiet (fail)
                      go_wp2_with fail
                      go_roundw
                      case rel => exact ⟨i + 1, by omega, by go_num, Lib.hid ⟨hbb2.out.os, hbb2.out.tape, hbb2.out.output, hbb2.out.size, hbb2.out.block⟩⟩
                      case measure => simp [intOf]; omega
                    · go_wp2_with fail
                      go_ret
                      exact ⟨rfl, HRR.out.2.2.1.trans (HR2.out.mono HRR.out.2.2.1.size)⟩
        · have hnew := new_bad (wr.alloc (.cells #[.int .i64 tag] 3)) wr.heap.size 1 tag (cell_new_l wr (.int .i64 tag) 3).1 (by simp) htag
          clear htag
          go_wp2_with fail
          refine hnew.mono ?_
          rintro e w1 ⟨rfl, hb1⟩
          have HB1 := Lib.hid ((HB.out.alloc HB.out.size (.cells #[.int .i64 tag] 3)).trans (hb1.mono (by have := HB.out.size; simp; omega)))
          clear hnew hb1
          go_wp2_with fail
          go_ret
          exact ⟨rfl, HB1.out⟩
  · have hg' : ¬ ((((((1 ≤ (wn : Int)) ∧ (wn : Int) ≤ 20) ∧ (cn : Int) ≤ 20) ∧ 1 ≤ every) ∧ 0 ≤ n) ∧ n ≤ 500) := by omega
    clear hg hw hc
    go_enter Tryz.func4, Tryz.ntmps4
    go_wp2_with fail
    refine haw.mono ?_
    rintro e w0 ⟨rfl, hb0⟩
    have HB0 := Lib.hid hb0
    clear hb0 haw
    go_wp2_with fail
    all_goals first | (exfalso; omega) | skip
    all_goals (go_ret; exact ⟨rfl, HB0.out⟩)
end Go.Proofs.YtoiajjobecinpaaGreat
