/- Run. What a world does with an act: try, Do. What a world does with an act: the state behind it. -/
import Derived.Sort.BigQuietIn
import Derived.Test.YtoiajjobecinpaaGreatRows
import Derived.WalkKit
import Derived.ProofKit
import Derived.Below
import Derived.Lib.Hide
import Derived.Laws.AppendOwn
import Derived.Shelf.SlicesQ.IndexFunc
import Derived.Ground.SlgfProg
import Derived.Deep.QuietTactic
import Derived.BigQuiet
import Derived.Deep.DeepCutAuto
import Derived.Deep.RegionHeld3
import Derived.Ground.SlsfProg
import Derived.Deep.AppendLies
import Derived.Deep.RegionLaw
import Derived.Lib.SlBy
import Derived.StillTail
import Derived.Shelf.Bits.Mul64
import Derived.Shelf.Spec.BitsCarry
import Derived.Shelf.Lay
import Derived.Ground.NamesProg
import Derived.Ground.Names7Prog
import Derived.Maps.Views
import Derived.Maps.OwnSet
import Derived.RangeFuncNested
import Derived.RangeFuncBound
import Derived.RangeFuncCalls
import Derived.RangeFuncLeaves
import Derived.RangeFuncFrom
import Derived.Shelf.Abstract
import Derived.Shelf.RegionOpen
import Derived.OwnWalkIn
import Derived.TacticsInMore
import Derived.LoopNIn
import Derived.LoopIn
import Derived.WalkSpells
import Derived.WalkLawsBesides
import Derived.WalkMore
import Derived.Lib.SliceRun
import Derived.Laws.BytesArg
import Derived.Shelf.Bytes.SlEqualAll
import Derived.WalkSmall
import Derived.OwnWalk
import Derived.Shelf.SlicesQ.Equal
import Derived.Laws.StructEq
import Derived.Ground.SlgqProg
import Derived.Test.YtoiajjobecinpaaGreatSh23

namespace Go.Proofs.YtoiajjobecinpaaGreat
open Go.RowKit Go.Shelf Go.Lib Go.Proofs
set_option linter.unusedVariables false
set_option linter.unusedSimpArgs false
attribute [local go_sem] Oper.semAt_some

theorem SysAt.drew1 {W : World} {sb gb nb pb mb n : Nat} {cv : Value} {D : DataW Unit} {cbs : List Nat} {tb : Int → Nat} {own : Nat → Option Own} {s : Sy} (h : SysAt W sb gb nb pb mb n cv D cbs tb own s) : SysAt W.drew sb gb nb pb mb n cv D cbs tb own s :=
  h.same (Nat.le_refl _) (fun _ _ => rfl)

/-- What the store of a round of Run reads. -/
def UseS (B1 sb C : Nat) (u0 u1 u2 u3 : Int) (W : World) : Prop :=
  W.cell? ⟨B1, 0, none⟩ = some (.pointer (some ⟨sb, 0, none⟩)) ∧ W.cell? ⟨C, 0, none⟩ = some (.int .i64 u0) ∧ W.cell? ⟨C, 1, none⟩ = some (.int .i64 u1) ∧ W.cell? ⟨C, 2, none⟩ = some (.int .i64 u2) ∧ W.cell? ⟨C, 3, none⟩ = some (.int .i64 u3)

theorem acc_bd {q p l f : Int} (h : FreeA q p l f ∨ FullA q p l f) : -9223372036854775808 ≤ l ∧ l ≤ 9223372036854775807 := by
  rcases h with h | h
  · unfold FreeA at h; omega
  · unfold FullA at h; omega

theorem touch_own {F : Nat → Prop} {A B C : World} {row : Option Nat} (h : Touch F A B) (hg : B.grownBy C row) (hr : ∀ r, row = some r → A.heap.size ≤ r) : Touch F A C :=
  ⟨hg.os.trans h.os, hg.tape.trans h.tape, hg.output.trans h.output, Nat.le_trans h.size hg.size, fun k hk hn => (hg.block k (Nat.lt_of_lt_of_le hk h.size) (fun e => by have := hr k e.symm; omega)).trans (h.block k hk hn)⟩

set_option maxRecDepth 100000 in
set_option maxHeartbeats 4000000 in
theorem run_ok (sb gb nb pb mb n : Nat) (cv : Value) (D : DataW Unit) (cbs : List Nat) (tb : Int → Nat) (own : Nat → Option Own) (s : Sy) (i : Nat) (id : Int) (c' : Co) (t : Tk) (xs : List G16) (w : World)
    (h : SysAt w sb gb nb pb mb n cv D cbs tb own s) (hi : i < cbs.length) (hfit : Fits s.cores[i]!.l) (hids : Ids s.cores[i]!.l) (hsrv : s.cores[i]!.srv < 1000000000) (hrun : coreRun s.cores[i]! = (id, 0, c')) (hid : 0 ≤ id ∧ id ≤ 9223372036854775807) (ht : s.tasks id = some t)
    (hL : IsPath s.gs t.group xs) (hacc : AccOk s.acc) (hz : Sized s.ps) (hd : DomY s) (hne : listP s.ps ≠ [])
    (hs : ∀ x ∈ listP s.ps, ∀ t, s.tasks x = some t → ∃ ys, IsPath s.gs t.group ys ∧ ys.any (spentA (setAcc (setCo s i c') (xs.foldl useA s.acc))) = false) :
    Calls Tryz.prog 55 #[.pointer (some ⟨sb, 0, none⟩), .int .i64 i] w fun e w' => e = .returned (.tuple #[.int .i64 id, .int .i64 0]) ∧ YP sb gb nb pb mb n cv D cbs tb own (setAcc (setCo s i c') (xs.foldl useA s.acc)) w w' := by
  have h1 : 1 ≤ 5 := by omega
  have hsl := h.lt sb (by rw [h.osb]; simp)
  have hB0 : Below w.heap.size w (w.alloc (.cells #[.pointer (some ⟨sb, 0, none⟩)] 81)) := (Below.refl _ w).alloc (Nat.le_refl _) _
  have hS0 := h.below hB0
  have hcore := ycore_any sb gb nb pb mb n cv D cbs tb own s i _ hS0 hi
  have hcr := crun_any cbs[i]! _ s.cores[i]! _ (hS0.core i hi) hfit hids hsrv
  rw [hrun] at hcr
  have q0 := cell_new_l w (.pointer (some ⟨sb, 0, none⟩)) 81
  have HS := Lib.hid h
  have HS0 := Lib.hid hS0
  have HI := Lib.hid hi
  have HT := Lib.hid ht
  have HL := Lib.hid hL
  have HA := Lib.hid hacc
  have HZ := Lib.hid hz
  have HD := Lib.hid hd
  have HNE := Lib.hid hne
  have HH := Lib.hid hs
  obtain ⟨cb, hcb⟩ : ∃ cb, cbs[i]! = cb := ⟨_, rfl⟩
  rw [hcb] at hcore hcr
  have HCB := Lib.hid hcb
  clear h hS0 hi hfit hids hsrv hrun ht hL hacc hz hd hne hs hcb
  refine callsIn_wide.1 (callsIn_of_wp_marks (n := 5) Tryz.func55 rfl trivial (wpIn_wide.2 ?_) rfl)
  simp only [Tryz.ntmps55, List.size_toArray, List.length_cons, List.length_nil, Nat.reduceAdd, Nat.reduceSub, Array.replicate_succ, Array.replicate_zero, List.push_toArray, List.append_toArray, List.nil_append, List.cons_append]
  go_wp2_with fail
  refine hcore.mono ?_
  rintro e w0 ⟨rfl, rfl⟩
  go_wp2_with fail
  refine hcr.mono ?_
  rintro e w1 ⟨rfl, F', c1, c2, c3⟩
  simp only at c1
  obtain ⟨own', hS1, ho1⟩ := HS0.out.setCore (i := i) HI.out (by rw [HCB.out]; exact c1) c2 c3
  have hq1 : w1.cell? ⟨w.heap.size, 0, none⟩ = some (.pointer (some ⟨sb, 0, none⟩)) := (World.cell?_of_block (a := ⟨w.heap.size, 0, none⟩) (c2.block w.heap.size (by simp) (fun e => by have := HS.out.lt w.heap.size (by rw [e]; simp); omega))).trans q0.1
  have hT1 := (hS1.task id t HT.out)
  have hlook := hS1.look id (by omega) hid.2
  rw [show (⟨s.cores.set i c', s.gs, s.acc, s.ps, s.tasks, s.cnt⟩ : Sy).tasks id = some t from HT.out] at hlook
  simp only at hlook
  have h67 := hS1.c67
  have hc1 := hS1.c1
  obtain ⟨b, hb⟩ : ∃ b, tb id = b := ⟨_, rfl⟩
  rw [hb] at hlook hT1
  have htg := hT1.1.group
  have hzz := c2.size
  have hS1' : SysAt w1 sb gb nb pb mb n cv D cbs tb own' (setCo s i c') := hS1
  have HS1 := Lib.hid hS1'
  have HO1 := Lib.hid ho1
  have HC2 := Lib.hid c2
  clear hcore hcr hS1 hS1' ho1 hT1 c1 c2 c3 q0 hb
  go_wp2_with fail
  go_region_held3 (fun W2 => W2.cell? ⟨w.heap.size, 0, none⟩ = some (.pointer (some ⟨sb, 0, none⟩)) ∧ W2.cell? ⟨sb, 1, none⟩ = some (.pointer (some ⟨gb, 0, none⟩)) ∧ W2.cell? ⟨b, 2, none⟩ = some (.int .i64 t.group)) (first | exact ⟨hq1, hc1, htg⟩ | exact ⟨c2a _ (c2a _ hq1), c2a _ (c2a _ hc1), c2a _ (c2a _ htg)⟩) (first | (go_at_call 112; refine (path_any gb t.group _).mono ?_; rintro e w9 ⟨rfl, rfl⟩) | fail)
  have kg := c2a (.cells #[.int .i64 t.group] 3) (cell_new_l w1 (.pointer (some ⟨gb, 0, none⟩)) 113).1
  have ki := (cell_new_l (w1.alloc (.cells #[.pointer (some ⟨gb, 0, none⟩)] 113)) (.int .i64 t.group) 3).1
  rw [World.size_alloc] at ki
  have kb := c2a (.cells #[.int .i64 t.group] 3) (c2a (.cells #[.pointer (some ⟨gb, 0, none⟩)] 113) hq1)
  have hB2 : Below w1.heap.size w1 ((w1.alloc (.cells #[.pointer (some ⟨gb, 0, none⟩)] 113)).alloc (.cells #[.int .i64 t.group] 3)).drew := (((Below.refl _ _).alloc (Nat.le_refl _) _).alloc (by simp) _).drew
  have hz2 : ((w1.alloc (.cells #[.pointer (some ⟨gb, 0, none⟩)] 113)).alloc (.cells #[.int .i64 t.group] 3)).drew.heap.size = w1.heap.size + 1 + 1 := by show ((w1.alloc _).alloc _).heap.size = _; simp
  change World.cell? ((w1.alloc (.cells #[.pointer (some ⟨gb, 0, none⟩)] 113)).alloc (.cells #[.int .i64 t.group] 3)).drew _ = _ at kg ki kb
  generalize ((w1.alloc (.cells #[.pointer (some ⟨gb, 0, none⟩)] 113)).alloc (.cells #[.int .i64 t.group] 3)).drew = W2 at kg ki kb hB2 hz2 ⊢
  have hS2 := HS1.out.below hB2
  have hwz : w.heap.size < w1.heap.size := World.block_lt_of_cell? _ _ hq1
  have hgl := HS1.out.groups.lt
  have hsbl := HS1.out.lt sb (by rw [HS1.out.osb]; simp)
  have hsg : sb ≠ gb := fun e => by have a := HS1.out.osb; rw [e, HS1.out.ogb] at a; cases a
  have HS2 := Lib.hid hS2
  clear hS2 hq1 hc1 htg hlook h67
  go_wp2_with fail
  refine (wpIn_wide (n := 5)).1 (wpIn_rangeFunc_ownF rfl h1 (gf := 155) (lb := #[.pointer (some ⟨w1.heap.size + 1, 0, none⟩), .pointer (some ⟨w1.heap.size, 0, none⟩)]) rfl trivial (enters_of Tryz.func155 (by kernel_rfl) rfl)
    (path_stops (5 - 1) (by omega) (w1.heap.size + 1) w1.heap.size gb s.gs t.group xs W2 (by omega) (by omega) (by omega) ki kg HS2.out.groups HL.out) KpG.t (KpG.b (by omega) (by omega)) (Below.refl _ _) (fun _ => rfl)
    (fun pre W => (W2.heap.size ≤ W.heap.size ∧ W.cell? ⟨w.heap.size, 0, none⟩ = some (.pointer (some ⟨sb, 0, none⟩))) ∧ AccOk (pre.foldl useA s.acc) ∧ SysAt W sb gb nb pb mb n cv D cbs tb own' (setAcc (setCo s i c') (pre.foldl useA s.acc)) ∧ Touch (fun k => k = sb) W2 W)
    (fun _ _ _ => False)
    (OwnFrom.and (Own.from (fun s A B row hs hg hr => ⟨Nat.le_trans hs.1 hg.size, cell_kept hs.2 hg hr⟩) _) (fun pre A B row hs hg hr => ⟨hs.1, hs.2.1.own_steps (fun k hk => by have := HS1.out.lt k hk; omega) hg (fun r hr' => (hr r hr').1), touch_own hs.2.2 hg (fun r hr' => (hr r hr').1)⟩))
    (fun _ _ _ _ _ hs _ _ => hs)
    ⟨⟨Nat.le_refl _, kb⟩, HA.out, HS2.out, Touch.refl _ _⟩
    (fun x => { tmps := #[Value.pointer (some ⟨sb, 0, none⟩), .int .i64 i, .pointer (some ⟨w.heap.size, 0, none⟩), undef, .int .i64 0, .int .i64 0, .pointer (some ⟨cb, 0, none⟩), .int .i64 0, .int .i64 id, .pointer (some ⟨b, 0, none⟩), .int .i64 x.1, undef, undef, .tuple #[.pointer (some ⟨cb, 0, none⟩), .int .i64 0], .pointer (some ⟨sb, 0, none⟩), .int .i64 i, .tuple #[.pointer (some ⟨cb, 0, none⟩), .int .i64 0], .pointer (some ⟨cb, 0, none⟩), .int .i64 0, .int .i64 0, .bool false, undef, .tuple #[.int .i64 id, .int .i64 0], .pointer (some ⟨cb, 0, none⟩), .tuple #[.int .i64 id, .int .i64 0], .int .i64 id, .int .i64 0, .pointer (some ⟨sb, 0, none⟩), .pointer (some ⟨sb, 0, none⟩), .pointer (some ⟨sb, 67, none⟩), .map (some mb), .int .i64 id, .pointer (some ⟨b, 0, none⟩), .int .i64 0, .bool false, .bool false, .pointer (some ⟨b, 0, none⟩), .bool false, .bool false, undef, undef, .pointer (some ⟨sb, 0, none⟩), .pointer (some ⟨sb, 0, none⟩), .pointer (some ⟨sb, 1, none⟩), .pointer (some ⟨gb, 0, none⟩), .pointer (some ⟨b, 0, none⟩), .pointer (some ⟨b, 0, none⟩), .pointer (some ⟨b, 2, none⟩), .int .i64 t.group, .func (.func 155) #[] #[.pointer (some ⟨w1.heap.size + 1, 0, none⟩), .pointer (some ⟨w1.heap.size, 0, none⟩)], .int .i64 x.1, undef, undef, undef, undef, undef, undef, undef, undef, undef, undef, undef, undef, undef, undef, undef, undef, undef, undef, undef, undef, undef], defers := [] }) ?assign ?body ?done ?stop)
  case assign =>
    intro l x W K hK
    gi_wp2
    simpa using hK
  case body =>
    rintro l pre ⟨x, hx0, hx1⟩ W ⟨⟨hwz2, hk0⟩, hok, hSW, htW⟩ hpl
    have e1 : 1 ≤ 5 - 1 - 1 := by omega
    have hmx : Tryz.prog.follows .mixedOrders = true := by kernel_rfl
    obtain ⟨k, rfl⟩ := Int.eq_ofNat_of_zero_le hx0
    have hk16 : k < 16 := by omega
    have hk16i : (k : Int) < 16 := hx1
    obtain ⟨a0, a1, a2, a3⟩ := hSW.acc k hk16
    simp only [setAcc] at a0 a1 a2 a3
    have hfold : (pre ++ [(⟨(k : Int), hx0, hx1⟩ : G16)]).foldl useA s.acc = useA (pre.foldl useA s.acc) ⟨(k : Int), hx0, hx1⟩ := by rw [List.foldl_append]; rfl
    have hok2 := hok.use ⟨(k : Int), hx0, hx1⟩
    obtain ⟨ac, hac⟩ : ∃ ac, pre.foldl useA s.acc = ac := ⟨_, rfl⟩
    rw [hac] at a0 a1 a2 a3 hfold hok2 hok hSW
    have hbd := hok.2 k hk16
    have hac16 := hok.1
    have hstep : useA ac ⟨(k : Int), hx0, hx1⟩ = if (useP (ac.getD k default).1 (ac.getD k default).2.1 (ac.getD k default).2.2.1 (ac.getD k default).2.2.2).2 = 0 then ac.set k (useP (ac.getD k default).1 (ac.getD k default).2.1 (ac.getD k default).2.2.1 (ac.getD k default).2.2.2).1 else ac := by unfold useA; simp
    generalize (ac.getD k default).1 = q0 at a0 hbd hstep
    generalize (ac.getD k default).2.1 = q1 at a1 hbd hstep
    generalize (ac.getD k default).2.2.1 = q2 at a2 hbd hstep
    generalize (ac.getD k default).2.2.2 = q3 at a3 hbd hstep
    have huse := fun W' => ause_any q0 q1 q2 q3 W' (acc_bd hbd).1 (acc_bd hbd).2
    obtain ⟨⟨⟨u0, u1, u2, u3⟩, ue⟩, hu⟩ : ∃ r, useP q0 q1 q2 q3 = r := ⟨_, rfl⟩
    rw [hu] at huse hstep
    simp only at huse hstep
    have hsetb : setAcc (setAcc (setCo s i c') ac) (ac.set k (u0, u1, u2, u3)) = setAcc (setCo s i c') (ac.set k (u0, u1, u2, u3)) := rfl
    have HST := Lib.hid hstep
    have HFO := Lib.hid hfold
    have HOK := Lib.hid hok2
    have HSW := Lib.hid hSW
    have HTW := Lib.hid htW
    clear hbd hu hac hok hstep hfold hok2 hSW htW kg ki
    by_cases hue : ue = 0
    · subst hue
      gi_wp2_with (refine ⟨trivial, ?_⟩; gi_at_call 113; refine (CallsIn.inRound l (callsIn_wide.2 (huse _))).mono ?_; rintro e w' ⟨rfl, hb⟩; have hk0' := (hb.cell (p := ⟨w.heap.size, 0, none⟩) (by show w.heap.size < W.heap.size; omega)).trans hk0)
      rw [if_pos trivial] at HST
      have n0 : (w'.alloc (.cells #[.int .i64 u0, .int .i64 u1, .int .i64 u2, .int .i64 u3] 119)).heap[w'.heap.size]? = some (.cells #[.int .i64 u0, .int .i64 u1, .int .i64 u2, .int .i64 u3] 119) := heap_alloc_new w' _
      have hB4 : Below W.heap.size W (w'.alloc (.cells #[.int .i64 u0, .int .i64 u1, .int .i64 u2, .int .i64 u3] 119)) := hb.alloc hb.size _
      have k4 := c2a (.cells #[.int .i64 u0, .int .i64 u1, .int .i64 u2, .int .i64 u3] 119) hk0'
      obtain ⟨m0, m1, m2, m3⟩ := cells4 n0
      generalize w'.alloc (.cells #[.int .i64 u0, .int .i64 u1, .int .i64 u2, .int .i64 u3] 119) = W4 at hB4 k4 m0 m1 m2 m3 ⊢
      have hS4 := HSW.out.below hB4
      obtain ⟨b0, b1, b2, b3⟩ := hS4.acc k hk16
      have l0 := hS4.live (2 + k * 4)
      have l1 := hS4.live (2 + k * 4 + 1)
      have l2 := hS4.live (2 + k * 4 + 2)
      have l3 := hS4.live (2 + k * 4 + 3)
      have HS4 := Lib.hid hS4
      clear n0 hS4
      refine wpIn_W_round (S := UseS w.heap.size sb w'.heap.size u0 u1 u2 u3) (T := [6]) hmx (by kernel_rfl) (fun _ _ h => h) ?_
      have hSS : UseS w.heap.size sb w'.heap.size u0 u1 u2 u3 W4.drew := ⟨k4, m0, m1, m2, m3⟩
      refine wpAnyW_take (i := 0) (v := ?_) rfl (by kernel_rfl) (by kernel_rfl) (by kernel_rfl) (by kernel_rfl) (fun _ _ _ h => h) (Or.inl ⟨by rfl, ?_⟩) (by assumption) ?_
      rotate_left
      · intro w5 hSw; obtain ⟨s1, s2, s3, s4, s5⟩ := hSw; go_simp; (first | done | with_reducible rfl)
      simp only [Act.put, List.setIfInBounds_toArray, List.set_cons_zero, List.set_cons_succ]
      refine wpAnyW_take (i := 1) (v := ?_) rfl (by kernel_rfl) (by kernel_rfl) (by kernel_rfl) (by kernel_rfl) (fun _ _ _ h => h) (Or.inl ⟨by rfl, ?_⟩) (by assumption) ?_
      rotate_left
      · intro w5 hSw; obtain ⟨s1, s2, s3, s4, s5⟩ := hSw; go_simp; (first | done | with_reducible rfl)
      simp only [Act.put, List.setIfInBounds_toArray, List.set_cons_zero, List.set_cons_succ]
      refine wpAnyW_take (i := 2) (v := ?_) rfl (by kernel_rfl) (by kernel_rfl) (by kernel_rfl) (by kernel_rfl) (fun _ _ _ h => h) (Or.inl ⟨by rfl, ?_⟩) (by assumption) ?_
      rotate_left
      · intro w5 hSw; obtain ⟨s1, s2, s3, s4, s5⟩ := hSw; go_simp; (first | done | with_reducible rfl)
      simp only [Act.put, List.setIfInBounds_toArray, List.set_cons_zero, List.set_cons_succ]
      refine wpAnyW_one (i := 3) (by kernel_rfl) rfl (by kernel_rfl) ?_
      intro K13 hK
      go_simp
      refine hK _ _ hSS ?_
      clear hK
      refine wpAnyW_one (i := 4) (by kernel_rfl) rfl (by kernel_rfl) ?_
      intro K14 hK
      go_simp
      refine hK _ _ hSS ?_
      clear hK
      refine wpAnyW_one (i := 5) (by kernel_rfl) rfl (by kernel_rfl) ?_
      intro K15 hK
      go_simp
      refine hK _ _ hSS ?_
      clear hK
      refine wpAnyW_last (i := 6) (by kernel_rfl) rfl (by kernel_rfl) ?_
      intro K3 hK
      go_simp
      refine hK _ _ ?_
      clear hK hSS
      refine wpAnyW_done (by kernel_rfl) ?_ _
      have hS5 := HS4.out.setA k hk16 (by exact hac16) u0 u1 u2 u3
      have hS6 := hS5.drew1
      have hW1 : W2.heap.size ≤ W.heap.size := hwz2
      have hz5 := hB4.size
      have hsg' := hsg
      have hblk : ∀ j, j < W.heap.size → j ≠ sb → ((((W4.setCell ⟨sb, 2 + k * 4, none⟩ (.int .i64 u0)).setCell ⟨sb, 2 + k * 4 + 1, none⟩ (.int .i64 u1)).setCell ⟨sb, 2 + k * 4 + 2, none⟩ (.int .i64 u2)).setCell ⟨sb, 2 + k * 4 + 3, none⟩ (.int .i64 u3)).drew.heap[j]? = W.heap[j]? := fun j hj hne => by
        show ((((W4.setCell ⟨sb, 2 + k * 4, none⟩ (.int .i64 u0)).setCell ⟨sb, 2 + k * 4 + 1, none⟩ (.int .i64 u1)).setCell ⟨sb, 2 + k * 4 + 2, none⟩ (.int .i64 u2)).setCell ⟨sb, 2 + k * 4 + 3, none⟩ (.int .i64 u3)).heap[j]? = _
        rw [Below.heap_setCell _ _ _ _ (by simpa using hne), Below.heap_setCell _ _ _ _ (by simpa using hne), Below.heap_setCell _ _ _ _ (by simpa using hne), Below.heap_setCell _ _ _ _ (by simpa using hne)]
        exact hB4.block j hj
      refine ⟨((keeps_below hB4).trans ((((KeepsOthers.setCell _ _ _).trans (KeepsOthers.setCell _ _ _)).trans (KeepsOthers.setCell _ _ _)).trans (KeepsOthers.setCell _ _ _))).trans (KeepsOthers.drew _), ⟨hblk gb (by omega) hsg.symm, hblk w1.heap.size (by omega) (by omega)⟩, ⟨?_, (World.cell?_of_block (a := ⟨w.heap.size, 0, none⟩) (hblk w.heap.size (by omega) (by omega))).trans hk0⟩, ?_, ?_, ?_⟩
      · show W2.heap.size ≤ ((((W4.setCell ⟨sb, 2 + k * 4, none⟩ (.int .i64 u0)).setCell ⟨sb, 2 + k * 4 + 1, none⟩ (.int .i64 u1)).setCell ⟨sb, 2 + k * 4 + 2, none⟩ (.int .i64 u2)).setCell ⟨sb, 2 + k * 4 + 3, none⟩ (.int .i64 u3)).heap.size
        simp; omega
      · rw [HFO.out]; exact HOK.out
      · rw [HFO.out, HST.out]; exact hS6
      · refine HTW.out.self (Touch.drew ?_)
        refine Touch.self (Touch.of_below hB4) ?_
        exact (((touch1 _ _ _ _).self (touch1 _ _ _ _)).self (touch1 _ _ _ _)).self (touch1 _ _ _ _)
    · rw [if_neg hue] at HST
      have hue' : (ue == 0) = false := by simpa using hue
      gi_wp2_with (refine ⟨trivial, ?_⟩; gi_at_call 113; refine (CallsIn.inRound l (callsIn_wide.2 (huse _))).mono ?_; rintro e w' ⟨rfl, hb⟩; have hk0' := (hb.cell (p := ⟨w.heap.size, 0, none⟩) (by show w.heap.size < W.heap.size; omega)).trans hk0)
      have hB4 : Below W.heap.size W (w'.alloc (.cells #[.int .i64 u0, .int .i64 u1, .int .i64 u2, .int .i64 u3] 119)) := hb.alloc hb.size _
      refine ⟨keeps_below hB4, kpg_below hB4 (by omega) (by omega), ⟨Nat.le_trans hwz2 hB4.size, c2a _ hk0'⟩, ?_, ?_, HTW.out.self (Touch.of_below hB4)⟩
      · rw [HFO.out]; exact HOK.out
      · rw [HFO.out, HST.out]; exact HSW.out.below hB4
  case done =>
    rintro D' ys W hD rfl ⟨⟨hwz2, hk0⟩, hok, hSW, htW⟩ hK
    have hhold := hold_none sb gb nb pb mb n cv D cbs tb own' _ W hSW HZ.out HD.out HNE.out HH.out
    have HSW := Lib.hid hSW
    have HTW := Lib.hid htW
    clear hSW htW hok kg ki
    go_wp2_with fail
    refine hhold.mono ?_
    rintro e w2 ⟨rfl, hb⟩
    have hK2 : w2.heap[D']? = some (.deferred (some [])) := (hb.block D' (lt_of_some hK)).trans hK
    clear hhold
    go_wp2_with fail
    refine ⟨by simp, .inl ⟨_, _, rfl, run_takeDeferred hK2, ?_⟩⟩
    have hSF := (HSW.out.below hb).own_steps (fun k hk => HS2.out.lt k hk) (grownBy_putObj' w2 D' (.deferred none)) (fun r e => by cases e; exact hD)
    refine ⟨.tuple #[.int .i64 id, .int .i64 0], by simp [results, Tryz.f55, go_sem], rfl, own', hSF, fun k hk => HO1.out k (by have := hB0.size; omega), ?_⟩
    have t1 : Touch (fun k => own k ≠ none) w w1 := (Touch.of_below hB0).self (HC2.out.wider (fun k hk => by rw [hk]; simp))
    have t2 : Touch (fun k => own k ≠ none) w W2 := t1.self (Touch.of_below hB2)
    have t3 : Touch (fun k => own k ≠ none) w W := t2.trans (Grows.refl _ _) (HTW.out.wider (fun k hk => by rw [hk, HS.out.osb]; simp))
    exact touch_own (t3.self (Touch.of_below hb)) (grownBy_putObj' w2 D' (.deferred none)) (fun r e => by cases e; exact Nat.le_trans t2.size hD)
  case stop =>
    rintro D' c pre W _ _ h _
    exact h.elim

end Go.Proofs.YtoiajjobecinpaaGreat

namespace Go.Proofs.YtoiajjobecinpaaGreat
open Go.RowKit Go.Shelf Go.Lib Go.Proofs
set_option linter.unusedVariables false
set_option linter.unusedSimpArgs false
attribute [local go_sem] Oper.semAt_some

/-- An answer of a truth value and a number. -/
def TwoB (R : Bool → Int → World → Prop) (e : Ending) (w' : World) : Prop := ∃ (x : Bool) (y : Int), e = .returned (.tuple #[.bool x, .int .i64 y]) ∧ R x y w'

set_option maxRecDepth 100000 in
set_option maxHeartbeats 2000000 in
theorem try_attempt (W : World) (ob wb : Nat) (sv : Value) (a b c n m : Int) (bl : Value) (R : Bool → Int → World → Prop) (h0 : W.cell? ⟨ob, 0, none⟩ = some sv) (h1 : W.cell? ⟨ob, 1, none⟩ = some (.pointer (some ⟨wb, 0, none⟩)))
    (hcall : Calls Tryz.prog 61 #[.pointer (some ⟨wb, 0, none⟩), .int .i64 a, .int .i64 b, bl] (inAct W 16 a b c n m bl) (TwoB fun x y w' => R x y w' ∧ KeepA (inAct W 16 a b c n m bl) ob W.heap.size w')) :
    Calls Tryz.prog 29 #[.pointer (some ⟨ob, 0, none⟩), actV 16 a b c n m bl] W (Two fun x y w' => ∃ ok : Bool, x = (if ok = true then 1 else 0) ∧ R ok y w') := by
  unfold inAct at hcall
  unfold actV
  have hS := actS_alloc h0 h1 16 a b c n m bl
  generalize hB : W.heap.size = B at hS hcall
  have hSk : ∀ w', KeepA ((W.alloc (.cells #[.int .i64 16, .int .i64 a, .int .i64 b, .int .i64 c, .int .i64 n, .int .i64 m, bl] 35)).drew) ob B w' → ActS w' ob B sv (.pointer (some ⟨wb, 0, none⟩)) 16 a b c n m bl := fun w' hk => hS.kept hk.1 hk.2
  go_enter Tryz.func29, Tryz.ntmps29
  go_wp2_with fail
  go_region_held3 (fun W2 => W2.cell? ⟨ob, 1, none⟩ = some (.pointer (some ⟨wb, 0, none⟩)) ∧ W2.cell? ⟨B, 1, none⟩ = some (.int .i64 a) ∧ W2.cell? ⟨B, 2, none⟩ = some (.int .i64 b) ∧ W2.cell? ⟨B, 6, none⟩ = some bl) (first | exact ⟨hS.1.2, hS.2.2.1, hS.2.2.2.1, hS.2.2.2.2.2.2.2⟩ | exact ⟨hS9.1.2, hS9.2.2.1, hS9.2.2.2.1, hS9.2.2.2.2.2.2.2⟩) (first | (go_at_call 61; refine hcall.mono ?_; rintro e w9 ⟨x9, y9, rfl, hr9, hk9⟩; have hS9 := hSk w9 hk9) | fail)
  all_goals
    cases x9 with
    | true =>
      go_wp2_with fail
      go_ret2
      exact ⟨1, y9, rfl, true, rfl, hr9⟩
    | false =>
      go_wp2_with fail
      go_ret2
      exact ⟨0, y9, rfl, false, rfl, hr9⟩

/-- The world in which Do calls. -/
def inDo (W : World) (op a b c n m : Int) (bl : Value) : World := (W.alloc (.cells #[.int .i64 op, .int .i64 a, .int .i64 b, .int .i64 c, .int .i64 n, .int .i64 m, bl] 35)).alloc (.cells #[.int .i64 0, .int .i64 0] 37)

def DoP (B : Nat) (R : Int → Int → World → Prop) (e : Ending) (w' : World) : Prop :=
  ∃ (x y : Int) (w1 : World), R x y w1 ∧ e = .returned (.agg #[.int .i64 (if y = 0 then x else 0), .int .i64 y]) ∧ Touch (fun k => k = B + 1) w1 w'

theorem do_end (B : Nat) (w1 : World) (x y : Int) (h : w1.heap[B + 1]? = some (.cells #[.int .i64 0, .int .i64 0] 37 (0, 0))) :
    w1.cell? ⟨B + 1, 0, none⟩ = some (.int .i64 0) ∧ w1.cell? ⟨B + 1, 1, none⟩ = some (.int .i64 0) ∧ (∀ i, w1.frozen? ⟨B + 1, i, none⟩ = false) ∧
    ((w1.setCell ⟨B + 1, 0, none⟩ (.int .i64 x)).setCell ⟨B + 1, 1, none⟩ (.int .i64 y)).cell? ⟨B + 1, 0, none⟩ = some (.int .i64 x) ∧ ((w1.setCell ⟨B + 1, 0, none⟩ (.int .i64 x)).setCell ⟨B + 1, 1, none⟩ (.int .i64 y)).cell? ⟨B + 1, 1, none⟩ = some (.int .i64 y) := by
  have a0 : w1.cell? ⟨B + 1, 0, none⟩ = some (.int .i64 0) := by simp only [World.cell?, h]; rfl
  have a1 : w1.cell? ⟨B + 1, 1, none⟩ = some (.int .i64 0) := by simp only [World.cell?, h]; rfl
  refine ⟨a0, a1, fun i => by simp only [World.frozen?, h]; simp, ?_, ?_⟩
  · rw [cell_setCell_ne _ (by simp)]; exact World.cell?_setCell_same _ _ _ a0
  · exact World.cell?_setCell_same _ _ _ (by rw [cell_setCell_ne _ (by simp)]; exact a1)

set_option maxRecDepth 100000 in
set_option maxHeartbeats 2000000 in
theorem do_system (W : World) (ob : Nat) (op a b c n m : Int) (bl : Value) (R : Int → Int → World → Prop) (hop : ¬ (13 ≤ op ∧ op ≤ 16))
    (hcall : Calls Tryz.prog 28 #[.pointer (some ⟨ob, 0, none⟩), actV op a b c n m bl] (inDo W op a b c n m bl) (Two fun x y w' => R x y w' ∧ w'.heap[W.heap.size + 1]? = some (.cells #[.int .i64 0, .int .i64 0] 37 (0, 0)))) :
    Calls Tryz.prog 13 #[.pointer (some ⟨ob, 0, none⟩), actV op a b c n m bl] W (DoP W.heap.size R) := by
  unfold inDo actV at hcall
  unfold actV
  go_enter Tryz.func13, Tryz.ntmps13
  have hopa : op < 13 ∨ 16 < op := by omega
  rcases hopa with hopa | hopa
  all_goals
    clear hop
    go_wp2_with fail
    refine hcall.mono ?_
    rintro e w1 ⟨x, y, rfl, hr, hb⟩
    obtain ⟨c0, c1, cf, -, -⟩ := do_end _ w1 (if y = 0 then x else 0) y hb
    by_cases hy : y = 0
    · subst hy
      obtain ⟨-, -, -, g0, g1'⟩ := do_end _ w1 x 0 hb
      have HG0 := Lib.hid g0
      have HG1 := Lib.hid g1'
      have HR := Lib.hid hr
      have cf0 := cf 0
      have cf1 := cf 1
      clear g0 g1' hb hr cf
      go_wp2_with fail
      exact bodyPost_ret (v := .agg #[.int .i64 x, .int .i64 0]) (by simp [results, Tryz.results13, go_sem, HG0.out, HG1.out]) rfl ⟨x, 0, w1, HR.out, rfl, (touch1 _ _ _ _).self (touch1 _ _ _ _)⟩
    · obtain ⟨-, -, -, g0, g1'⟩ := do_end _ w1 0 y hb
      have HG0 := Lib.hid g0
      have HG1 := Lib.hid g1'
      have HR := Lib.hid hr
      have HY := Lib.hid hy
      have cf0 := cf 0
      have cf1 := cf 1
      clear g0 g1' hb hr cf
      go_wp2_with fail
      exact bodyPost_ret (v := .agg #[.int .i64 0, .int .i64 y]) (by simp [results, Tryz.results13, go_sem, HG0.out, HG1.out]) rfl ⟨x, y, w1, HR.out, by rw [if_neg HY.out], (touch1 _ _ _ _).self (touch1 _ _ _ _)⟩

set_option maxRecDepth 100000 in
set_option maxHeartbeats 2000000 in
theorem do_try (W : World) (ob : Nat) (op a b c n m : Int) (bl : Value) (R : Int → Int → World → Prop) (hop : 13 ≤ op ∧ op ≤ 16)
    (hcall : Calls Tryz.prog 29 #[.pointer (some ⟨ob, 0, none⟩), actV op a b c n m bl] (inDo W op a b c n m bl) (Two fun x y w' => R x y w' ∧ w'.heap[W.heap.size + 1]? = some (.cells #[.int .i64 0, .int .i64 0] 37 (0, 0)))) :
    Calls Tryz.prog 13 #[.pointer (some ⟨ob, 0, none⟩), actV op a b c n m bl] W (DoP W.heap.size R) := by
  unfold inDo actV at hcall
  unfold actV
  obtain ⟨hopa, hopb⟩ := hop
  go_enter Tryz.func13, Tryz.ntmps13
  go_wp2_with fail
  all_goals
    refine hcall.mono ?_
    rintro e w1 ⟨x, y, rfl, hr, hb⟩
    obtain ⟨c0, c1, cf, -, -⟩ := do_end _ w1 (if y = 0 then x else 0) y hb
    by_cases hy : y = 0
    · subst hy
      obtain ⟨-, -, -, g0, g1'⟩ := do_end _ w1 x 0 hb
      have HG0 := Lib.hid g0
      have HG1 := Lib.hid g1'
      have HR := Lib.hid hr
      have cf0 := cf 0
      have cf1 := cf 1
      clear g0 g1' hb hr cf
      go_wp2_with fail
      exact bodyPost_ret (v := .agg #[.int .i64 x, .int .i64 0]) (by simp [results, Tryz.results13, go_sem, HG0.out, HG1.out]) rfl ⟨x, 0, w1, HR.out, rfl, (touch1 _ _ _ _).self (touch1 _ _ _ _)⟩
    · obtain ⟨-, -, -, g0, g1'⟩ := do_end _ w1 0 y hb
      have HG0 := Lib.hid g0
      have HG1 := Lib.hid g1'
      have HR := Lib.hid hr
      have HY := Lib.hid hy
      have cf0 := cf 0
      have cf1 := cf 1
      clear g0 g1' hb hr cf
      go_wp2_with fail
      exact bodyPost_ret (v := .agg #[.int .i64 0, .int .i64 y]) (by simp [results, Tryz.results13, go_sem, HG0.out, HG1.out]) rfl ⟨x, y, w1, HR.out, by rw [if_neg HY.out], (touch1 _ _ _ _).self (touch1 _ _ _ _)⟩

end Go.Proofs.YtoiajjobecinpaaGreat

namespace Go.Proofs.YtoiajjobecinpaaGreat
open Go.RowKit Go.Shelf Go.Lib Go.Proofs
set_option linter.unusedVariables false
set_option linter.unusedSimpArgs false
attribute [local go_sem] Oper.semAt_some

/-- What a method of the system leaves. -/
def YQ (sb : Nat) (cbs : List Nat) (own : Nat → Option Own) (s' : Sy) (W w' : World) : Prop :=
  ∃ own', (∃ gb nb pb mb n cv D tb, SysAt w' sb gb nb pb mb n cv D cbs tb own' s') ∧ (∀ k, own' k ≠ none → own k ≠ none ∨ W.heap.size ≤ k) ∧ Touch (fun k => own k ≠ none) W w'

theorem YP.q {sb gb nb pb mb n : Nat} {cv : Value} {D : DataW Unit} {cbs : List Nat} {tb : Int → Nat} {own : Nat → Option Own} {s' : Sy} {W w' : World} (h : YP sb gb nb pb mb n cv D cbs tb own s' W w') : YQ sb cbs own s' W w' := by
  obtain ⟨own', h1, h2, h3⟩ := h
  refine ⟨own', ⟨gb, nb, pb, mb, n, cv, D, tb, h1⟩, fun k hk => ?_, h3⟩
  by_cases hl : k < W.heap.size
  · rw [h2 k hl] at hk; exact .inl hk
  · exact .inr (by omega)

set_option maxRecDepth 100000 in
set_option maxHeartbeats 2000000 in
theorem spawn_ok2 (sb : Nat) (cbs : List Nat) (own : Nat → Option Own) (s : Sy) (w id : Int) (ps' : List (Int × Bool)) (W : World) (h : ∃ gb nb pb mb n cv D tb, SysAt W sb gb nb pb mb n cv D cbs tb own s) (hw : goodW w = true) (hc : s.cores.length = 1) (hg : s.gs = topG) (hz : Sized s.ps) (ht : takeP s.ps = (id, 0, ps'))
    (hid : 0 ≤ id ∧ id ≤ 9223372036854775807) (hn : s.tasks id = none) (hcnt : s.cnt < 1000000) :
    Calls Tryz.prog 47 #[.pointer (some ⟨sb, 0, none⟩), .int .i64 w, .int .u16 1, .int .i64 0] W
      (fun e w' => e = .returned (.tuple #[.int .i64 id, .int .i64 0]) ∧ YQ sb cbs own ⟨s.cores, s.gs, s.acc, ps', fun x => if x = id then some (newTk id w 1 0) else s.tasks x, s.cnt + 1⟩ W w') := by
  obtain ⟨gb, nb, pb, mb, n, cv, D, tb, hS⟩ := h
  have hgw := wgood_any w W
  rw [hw] at hgw
  obtain ⟨a, c, hcv⟩ : ∃ a c, cv = .slice a 1 c := by
    have hl : cbs.length = 1 := hS.num.trans hc
    rcases hS.row.2 with ⟨_, h0⟩ | ⟨g, cap, cur, e, _⟩
    · omega
    · exact ⟨_, cap, by rw [e, hl]⟩
  have c0 := hS.head
  rw [hcv] at c0
  have c1 := hS.c1
  have c66 := hS.c66
  have c67 := hS.c67
  have hsb := hS.lt sb (by rw [hS.osb]; simp)
  have hdep := depth_any gb s.gs 0 [g0] W hS.groups (by rw [hg]; exact topG_path) (by simp)
  have htake := fun W' h' => stake_t nb pb W' s.ps h' hz id ps' ht
  have HS := Lib.hid hS
  have HN := Lib.hid hn
  have HCNT := Lib.hid hcnt
  obtain ⟨i1, i2⟩ := hid
  clear hS hw hc hg hz ht hn hcnt hcv
  go_enter Tryz.func47, Tryz.ntmps47
  go_wp2_with fail
  refine hgw.mono ?_
  rintro e w0 ⟨rfl, rfl⟩
  go_wp2_with fail
  refine (mgood11 _).mono ?_
  rintro e w0 ⟨rfl, rfl⟩
  go_wp2_with fail
  refine hdep.mono ?_
  rintro e w1 ⟨rfl, hb1⟩
  have hS1 := HS.out.below hb1
  have d66 := hS1.c66
  have hsb1 := hS1.lt sb (by rw [hS1.osb]; simp)
  have htake1 := htake w1 hS1.slots
  have HB1 := Lib.hid hb1
  have HS1 := Lib.hid hS1
  clear hb1 hS1
  go_wp2_with fail
  refine htake1.mono ?_
  rintro e w2 ⟨rfl, hs2, ht2⟩
  have e67 : w2.cell? ⟨sb, 67, none⟩ = some (.map (some mb)) := (World.cell?_of_block (a := ⟨sb, 67, none⟩) (ht2.block sb hsb1 (fun e => by have a := HS1.out.osb; rw [e, HS1.out.opb] at a; cases a))).trans HS1.out.c67
  have hmne : mb ≠ pb := fun e => by have a := HS1.out.omb; rw [e, HS1.out.opb] at a; cases a
  have hmb1 := HS1.out.lt mb (by rw [HS1.out.omb]; simp)
  have hmap2 := ownsMap_same HS1.out.map (ht2.block mb hmb1 hmne)
  have hsb2 : sb < w2.heap.size := Nat.lt_of_lt_of_le hsb1 ht2.size
  have hmap3 := hmap2.alloc (.cells #[.int .i64 id, .int .i64 w, .int .i64 0, .int .i64 (-1), .int .i64 1, .int .u16 1, .int .i64 0] 60)
  obtain ⟨w3, hupd, m5, m6⟩ := hmap3.update (t := 117) (e := 188) keyed3 Tryz.underlying117 (by have := HS1.out.cnt; have := HCNT.out; unfold maxLen; omega) (key3 (x := id) (by omega) (by omega)) (rptr_ptr w2.heap.size)
  obtain ⟨own', tb', h1, h2, h3⟩ := HS1.out.spawn hs2 ht2 ((Below.refl _ w2).alloc (Nat.le_refl _) _) (taskAt_new w2 id w 1 0) (by simp) m5 m6 HN.out
  have H1 := Lib.hid h1
  have H2 := Lib.hid h2
  have H3 := Lib.hid h3
  clear hs2 ht2 hmne hmb1 hmap2 hmap3 m5 m6 h1 h2 h3
  go_wp2_with fail
  go_ret2
  refine ⟨rfl, own', ⟨gb, nb, pb, mb, _, cv, _, tb', H1.out⟩, fun k hk => ?_, (Touch.of_below HB1.out).self H3.out⟩
  rcases H2.out k hk with h | h
  · exact .inl h
  · have := HB1.out.size; exact .inr (by omega)

/-- The end of an act of the system. -/
theorem do_fin {W W2 w1 w' : World} {ob wb sb : Nat} {s s' : Sy} {m : Nat} {cbs : List Nat} {L : Int → Option Tr} {own : Nat → Option Own} {ow : Nat → Option OwnW} (h : WoIn W ob wb sb s m cbs L own ow) (hB : Below W.heap.size W W2) (hY : YQ sb cbs own s' W2 w1)
    (hT : Touch (fun k => k = W.heap.size + 1) w1 w') (hz : W.heap.size + 1 < W2.heap.size) :
    ∃ own', WoIn w' ob wb sb s' m cbs L own' ow ∧ Touch (fun k => own k ≠ none) W w' ∧ ∀ k, own' k ≠ none → own k ≠ none ∨ W.heap.size ≤ k := by
  obtain ⟨hob, ⟨hy, ⟨mb2, n2, av, D2, tbs, ttb, hW⟩, hd⟩, hno, hnw⟩ := h
  obtain ⟨gb, nb, pb, mb, n, cv, D, tb, hS⟩ := hy
  obtain ⟨own', ⟨gb', nb', pb', mb', n', cv', D', tb', hS'⟩, ho, hto⟩ := hY
  have hobl : ob < W.heap.size := (Array.getElem?_eq_some_iff.1 hob).1
  have hz2 := hto.size
  have hBs := hB.size
  have hkeep : ∀ k, k < W.heap.size → own k = none → w'.heap[k]? = W.heap[k]? := fun k hk hn => by
    rw [hT.block k (by omega) (by omega), hto.block k (by omega) (by simpa using hn), hB.block k hk]
  have hown2 : ∀ k, own' k ≠ none → own k ≠ none ∨ W.heap.size ≤ k := fun k hk => (ho k hk).imp id (fun h => by omega)
  have hsame : ∀ k, own' k ≠ none → w'.heap[k]? = w1.heap[k]? := fun k hk => by
    have hl := hS'.lt k hk
    refine hT.block k hl (fun e => ?_)
    rcases ho k hk with h1 | h1
    · have := hS.lt k h1; omega
    · omega
  refine ⟨own', ⟨(hkeep ob hobl hno).trans hob, ⟨⟨gb', nb', pb', mb', n', cv', D', tb', hS'.same hT.size hsame⟩, ⟨mb2, n2, av, D2, tbs, ttb, hW.same (by have := hT.size; omega) (fun k hk => hkeep k (hW.lt k hk) (hd k hk))⟩, fun k hk => ?_⟩, ?_, hnw⟩, ?_, hown2⟩
  · by_cases e : own' k = none
    · exact e
    · rcases hown2 k e with h1 | h1
      · exact absurd (hd k hk) h1
      · have := hW.lt k hk; omega
  · by_cases e : own' ob = none
    · exact e
    · rcases hown2 ob e with h1 | h1
      · exact absurd hno h1
      · omega
  · refine ⟨?_, ?_, ?_, by have := hT.size; omega, fun k hk hn => hkeep k hk (by simpa using hn)⟩
    · rw [hT.os, hto.os, hB.os]
    · rw [hT.tape, hto.tape, hB.tape]
    · rw [hT.output, hto.output, hB.output]

/-- What Do leaves behind an act of the system. -/
def DoQ (ob wb sb : Nat) (s' : Sy) (m : Nat) (cbs : List Nat) (L : Int → Option Tr) (own : Nat → Option Own) (ow : Nat → Option OwnW) (x y : Int) (W : World) (e : Ending) (w' : World) : Prop :=
  e = .returned (.agg #[.int .i64 (if y = 0 then x else 0), .int .i64 y]) ∧ ∃ own', WoIn w' ob wb sb s' m cbs L own' ow ∧ Touch (fun k => own k ≠ none) W w' ∧ ∀ k, own' k ≠ none → own k ≠ none ∨ W.heap.size ≤ k

/-- The world in which a method of the system is called by Do. -/
def actW (W : World) (op a b c n m : Int) (bl : Value) : World := inAct (inDo W op a b c n m bl) op a b c n m bl

theorem actW_below (W : World) (op a b c n m : Int) (bl : Value) : Below W.heap.size W (actW W op a b c n m bl) ∧ W.heap.size + 1 < (actW W op a b c n m bl).heap.size ∧ (inDo W op a b c n m bl).heap.size = W.heap.size + 2 ∧
    (inDo W op a b c n m bl).heap[W.heap.size + 1]? = some (.cells #[.int .i64 0, .int .i64 0] 37 (0, 0)) ∧ (∀ k, k < W.heap.size + 2 → (actW W op a b c n m bl).heap[k]? = (inDo W op a b c n m bl).heap[k]?) ∧ (∀ k, k < W.heap.size → (inDo W op a b c n m bl).heap[k]? = W.heap[k]?) := by
  have hz : (inDo W op a b c n m bl).heap.size = W.heap.size + 2 := by unfold inDo; simp
  refine ⟨?_, ?_, hz, ?_, fun k hk => ?_, fun k hk => ?_⟩
  · unfold actW inAct inDo
    exact ((((Below.refl _ W).alloc (Nat.le_refl _) _).alloc (by simp) _).alloc (by simp; omega) _).drew
  · show W.heap.size + 1 < ((inDo W op a b c n m bl).alloc _).heap.size
    rw [World.size_alloc, hz]; omega
  · unfold inDo
    have := heap_alloc_new (W.alloc (.cells #[.int .i64 op, .int .i64 a, .int .i64 b, .int .i64 c, .int .i64 n, .int .i64 m, bl] 35)) (.cells #[.int .i64 0, .int .i64 0] 37)
    rwa [World.size_alloc] at this
  · show ((inDo W op a b c n m bl).alloc _).heap[k]? = _
    exact Below.heap_alloc _ _ _ (by rw [hz]; exact hk)
  · unfold inDo
    rw [Below.heap_alloc _ _ _ (by simp; omega), Below.heap_alloc _ _ _ hk]

/-- An act of the system, by what system does. -/
theorem do_of_system (W : World) (ob wb sb : Nat) (s s' : Sy) (mm : Nat) (cbs : List Nat) (L : Int → Option Tr) (own : Nat → Option Own) (ow : Nat → Option OwnW) (op a b c n m : Int) (bl : Value) (x y : Int) (h : WoIn W ob wb sb s mm cbs L own ow) (hop : ¬ (13 ≤ op ∧ op ≤ 16))
    (hsys : ∀ (R : Int → Int → World → Prop), (∀ w1, YQ sb cbs own s' (actW W op a b c n m bl) w1 → R x y w1) →
      Calls Tryz.prog 28 #[.pointer (some ⟨ob, 0, none⟩), actV op a b c n m bl] (inDo W op a b c n m bl) (Two R)) :
    Calls Tryz.prog 13 #[.pointer (some ⟨ob, 0, none⟩), actV op a b c n m bl] W (DoQ ob wb sb s' mm cbs L own ow x y W) := by
  obtain ⟨h1, h2, h3, h4, h5, h6⟩ := actW_below W op a b c n m bl
  have hlt : ∀ k, own k ≠ none → k < W.heap.size := by
    obtain ⟨_, ⟨⟨gb, nb, pb, mb, n, cv, D, tb, hS⟩, _⟩, _⟩ := h
    exact hS.lt
  refine (do_system W ob op a b c n m bl (fun x' y' w1 => x' = x ∧ y' = y ∧ YQ sb cbs own s' (actW W op a b c n m bl) w1) hop (hsys _ (fun w1 hY => ⟨⟨rfl, rfl, hY⟩, ?_⟩))).mono ?_
  · obtain ⟨own', _, _, hto⟩ := hY
    rw [hto.block _ h2 (fun e => by have := hlt _ e; omega), h5 _ (by omega), h4]
  · rintro e w' ⟨x', y', w1, ⟨rfl, rfl, hY⟩, rfl, hT⟩
    exact ⟨rfl, do_fin h h1 hY hT h2⟩

/-- The callee leaves the world's own block and the act's box. -/
theorem YQ.keepA {W w1 : World} {ob wb sb : Nat} {s s' : Sy} {mm : Nat} {cbs : List Nat} {L : Int → Option Tr} {own : Nat → Option Own} {ow : Nat → Option OwnW} {op a b c n m : Int} {bl : Value} (h : WoIn W ob wb sb s mm cbs L own ow) (hY : YQ sb cbs own s' (actW W op a b c n m bl) w1) :
    KeepA (inAct (inDo W op a b c n m bl) op a b c n m bl) ob (inDo W op a b c n m bl).heap.size w1 := by
  obtain ⟨h1, h2, h3, h4, h5, h6⟩ := actW_below W op a b c n m bl
  obtain ⟨hob, ⟨⟨gb, nb, pb, mb, n', cv, D, tb, hS⟩, _, _⟩, hno, _⟩ := h
  obtain ⟨own', _, _, hto⟩ := hY
  have hobl : ob < W.heap.size := (Array.getElem?_eq_some_iff.1 hob).1
  have hzz : (actW W op a b c n m bl).heap.size = W.heap.size + 3 := by
    show ((inDo W op a b c n m bl).alloc _).heap.size = _
    rw [World.size_alloc, h3]
  refine ⟨hto.block ob (by omega) (by simpa using hno), hto.block _ (by rw [h3, hzz]; omega) (fun e => by have := hS.lt _ e; omega)⟩

/-- The system stands in the world of the act. -/
theorem WoIn.act {W : World} {ob wb sb : Nat} {s : Sy} {mm : Nat} {cbs : List Nat} {L : Int → Option Tr} {own : Nat → Option Own} {ow : Nat → Option OwnW} (op a b c n m : Int) (bl : Value) (h : WoIn W ob wb sb s mm cbs L own ow) :
    (∃ gb nb pb mb n' cv D tb, SysAt (actW W op a b c n m bl) sb gb nb pb mb n' cv D cbs tb own s) ∧ (inDo W op a b c n m bl).cell? ⟨ob, 0, none⟩ = some (.pointer (some ⟨sb, 0, none⟩)) ∧ (inDo W op a b c n m bl).cell? ⟨ob, 1, none⟩ = some (.pointer (some ⟨wb, 0, none⟩)) := by
  obtain ⟨h1, h2, h3, h4, h5, h6⟩ := actW_below W op a b c n m bl
  have hc := h.cells
  obtain ⟨hob, ⟨⟨gb, nb, pb, mb, n', cv, D, tb, hS⟩, _, _⟩, hno, _⟩ := h
  have hobl : ob < W.heap.size := (Array.getElem?_eq_some_iff.1 hob).1
  exact ⟨⟨gb, nb, pb, mb, n', cv, D, tb, hS.below h1⟩, (World.cell?_of_block (a := ⟨ob, 0, none⟩) (h6 ob hobl)).trans hc.1, (World.cell?_of_block (a := ⟨ob, 1, none⟩) (h6 ob hobl)).trans hc.2⟩

theorem do_spawn (W : World) (ob wb sb : Nat) (s : Sy) (mm : Nat) (cbs : List Nat) (L : Int → Option Tr) (own : Nat → Option Own) (ow : Nat → Option OwnW) (w n m id : Int) (bl : Value) (ps' : List (Int × Bool)) (h : WoIn W ob wb sb s mm cbs L own ow)
    (hw : goodW w = true) (hc : s.cores.length = 1) (hg : s.gs = topG) (hz : Sized s.ps) (ht : takeP s.ps = (id, 0, ps')) (hid : 0 ≤ id ∧ id ≤ 9223372036854775807) (hn : s.tasks id = none) (hcnt : s.cnt < 1000000) :
    Calls Tryz.prog 13 #[.pointer (some ⟨ob, 0, none⟩), actV 2 w 1 0 n m bl] W (DoQ ob wb sb ⟨s.cores, s.gs, s.acc, ps', fun x => if x = id then some (newTk id w 1 0) else s.tasks x, s.cnt + 1⟩ mm cbs L own ow id 0 W) := by
  obtain ⟨hS, c0, c1⟩ := h.act 2 w 1 0 n m bl
  refine do_of_system W ob wb sb s _ mm cbs L own ow 2 w 1 0 n m bl id 0 h (by omega) (fun R hR => system_spawn _ ob sb _ w 1 0 n m bl R c0 c1 ?_)
  exact (spawn_ok2 sb cbs own s w id ps' _ hS hw hc hg hz ht hid hn hcnt).mono (fun e w' ⟨he, hY⟩ => ⟨id, 0, he, hR w' hY, hY.keepA h⟩)

theorem do_start (W : World) (ob wb sb : Nat) (s : Sy) (mm : Nat) (cbs : List Nat) (L : Int → Option Tr) (own : Nat → Option Own) (ow : Nat → Option OwnW) (id b c n m : Int) (bl : Value) (t : Tk) (xs : List G16) (i : Nat) (h : WoIn W ob wb sb s mm cbs L own ow)
    (h1 : -9223372036854775808 ≤ id) (h2 : id ≤ 9223372036854775807) (ht : s.tasks id = some t) (he : (nxt t.state 1).2 = 0) (hm : 0 ≤ t.mask ∧ t.mask < 65536) (hf : FitsY s) (h0 : 0 < s.cores.length) (h16 : s.cores.length ≤ 16) (hL : IsPath s.gs t.group xs)
    (hi : (leastL (loadsY s) t.mask).1 = (i : Int)) (hil : i < s.cores.length) (hr : (enterY (setTk s id (coT t i)) id (coT t i) (xs.any (spentA s)) i 1 false).1 = 0) :
    Calls Tryz.prog 13 #[.pointer (some ⟨ob, 0, none⟩), actV 3 id b c n m bl] W (DoQ ob wb sb (enterY (setTk s id (coT t i)) id (coT t i) (xs.any (spentA s)) i 1 false).2 mm cbs L own ow 0 0 W) := by
  obtain ⟨⟨gb, nb, pb, mb, n', cv, D, tb, hS⟩, c0, c1⟩ := h.act 3 id b c n m bl
  refine do_of_system W ob wb sb s _ mm cbs L own ow 3 id b c n m bl 0 0 h (by omega) (fun R hR => (system_start _ ob sb _ id b c n m bl (fun y w' => R 0 y w') c0 c1 ?_).mono (fun e w' ⟨x, y, he, hx, hr⟩ => ⟨x, y, he, by rw [hx]; exact hr⟩))
  exact (start_ok sb gb nb pb mb n' cv D cbs tb own s id t xs i _ hS h1 h2 ht he hm hf (by rw [hS.num]; exact h0) (by rw [hS.num]; exact h16) hL hi (by rw [hS.num]; exact hil) hr).mono (fun e w' ⟨he, hY⟩ => ⟨0, he, hR w' hY.q, hY.q.keepA h⟩)

theorem do_run (W : World) (ob wb sb : Nat) (s : Sy) (mm : Nat) (cbs : List Nat) (L : Int → Option Tr) (own : Nat → Option Own) (ow : Nat → Option OwnW) (i : Nat) (b c n m : Int) (bl : Value) (id : Int) (c' : Co) (t : Tk) (xs : List G16) (h : WoIn W ob wb sb s mm cbs L own ow)
    (hi : i < s.cores.length) (hfit : Fits s.cores[i]!.l) (hids : Ids s.cores[i]!.l) (hsrv : s.cores[i]!.srv < 1000000000) (hrun : coreRun s.cores[i]! = (id, 0, c')) (hid : 0 ≤ id ∧ id ≤ 9223372036854775807) (ht : s.tasks id = some t)
    (hL : IsPath s.gs t.group xs) (hacc : AccOk s.acc) (hz : Sized s.ps) (hd : DomY s) (hne : listP s.ps ≠ [])
    (hs : ∀ x ∈ listP s.ps, ∀ t, s.tasks x = some t → ∃ ys, IsPath s.gs t.group ys ∧ ys.any (spentA (setAcc (setCo s i c') (xs.foldl useA s.acc))) = false) :
    Calls Tryz.prog 13 #[.pointer (some ⟨ob, 0, none⟩), actV 10 i b c n m bl] W (DoQ ob wb sb (setAcc (setCo s i c') (xs.foldl useA s.acc)) mm cbs L own ow id 0 W) := by
  obtain ⟨⟨gb, nb, pb, mb, n', cv, D, tb, hS⟩, c0, c1⟩ := h.act 10 i b c n m bl
  refine do_of_system W ob wb sb s _ mm cbs L own ow 10 i b c n m bl id 0 h (by omega) (fun R hR => system_run _ ob sb _ i b c n m bl R c0 c1 ?_)
  exact (run_ok sb gb nb pb mb n' cv D cbs tb own s i id c' t xs _ hS (by rw [hS.num]; exact hi) hfit hids hsrv hrun hid ht hL hacc hz hd hne hs).mono (fun e w' ⟨he, hY⟩ => ⟨id, 0, he, hR w' hY.q, hY.q.keepA h⟩)

end Go.Proofs.YtoiajjobecinpaaGreat
