/- Run: one tick of a core, whatever is there. swap.open, stage.New, Try. Open. Attempt, where nothing befalls the try: the -/
import Derived.Test.YtoiajjobecinpaaGreatTA26
set_option maxHeartbeats 4000000
namespace Go.Proofs.YtoiajjobecinpaaGreat
open Go.RowKit Go.Shelf Go.Lib Go.Proofs
set_option linter.unusedVariables false
set_option linter.unusedSimpArgs false
section
attribute [local go_sem] Oper.semAt_some
set_option maxRecDepth 100000 in
theorem run_task (sb gb nb pb mb n : Nat) (cv : Value) (D : DataW Unit) (cbs : List Nat) (tb : Int → Nat) (own : Nat → Option Own) (s : Sy) (i : Nat) (id : Int) (c' : Co) (t : Tk) (xs : List G16) (w : World)
 (h : SysAt w sb gb nb pb mb n cv D cbs tb own s) (hi : i < cbs.length) (hfit : Fits s.cores[i]!.l) (hids : Ids s.cores[i]!.l) (hsrv : s.cores[i]!.srv < 1000000000) (hrun : coreRun s.cores[i]! = (id, 0, c')) (hid : 0 ≤ id ∧ id ≤ 9223372036854775807) (ht : s.tasks id = some t)
 (hL : IsPath s.gs t.group xs) (hacc : AccOk s.acc) (hz : Sized s.ps) (hd : DomY s)
 (hs : ∀ ids : List Int, ids.Perm (listP s.ps) → HoldOk (setAcc (setCo s i c') (xs.foldl useA s.acc)) ids) :
 Calls Tryz.prog 55 #[.pointer (some ⟨sb, 0, none⟩), .int .i64 i] w fun e w' => e = .returned (.tuple #[.int .i64 id, .int .i64 0]) ∧ ∃ ids : List Int, ids.Perm (listP s.ps) ∧ ids.Pairwise (fun a b => ¬ b < a) ∧ YP sb gb nb pb mb n cv D cbs tb own (ids.foldl holdS (setAcc (setCo s i c') (xs.foldl useA s.acc))) w w' := by
 have h1 : 1 ≤ 5 := by omega
 have hsl := h.lt sb (by rw [h.osb]; simp); have hB0 : Below w.heap.size w (w.alloc (.cells #[.pointer (some ⟨sb, 0, none⟩)] 81)) := (Below.refl _ w).alloc (Nat.le_refl _) _; have hS0 := h.below hB0; have hcore := ycore_any sb gb nb pb mb n cv D cbs tb own s i _ hS0 hi; have hcr := crun_any cbs[i]! _ s.cores[i]! _ (hS0.core i hi) hfit hids hsrv; rw [hrun] at hcr; have q0 := cell_new_l w (.pointer (some ⟨sb, 0, none⟩)) 81; have HS := lH h; have HS0 := lH hS0; have HI := lH hi; have HT := lH ht; have HL := lH hL; have HA := lH hacc; have HZ := lH hz; have HD := lH hd; have HH := lH hs; obtain ⟨cb, hcb⟩ : ∃ cb, cbs[i]! = cb := ⟨_, rfl⟩
 rw [hcb] at hcore hcr; have HCB := lH hcb; clear h hS0 hi hfit hids hsrv hrun ht hL hacc hz hd hs hcb; refine callsIn_wide.1 (callsIn_of_wp_marks (n := 5) Tryz.func55 rfl trivial (wpIn_wide.2 ?_) rfl); simp only [Tryz.ntmps55, List.size_toArray, List.length_cons, List.length_nil, Nat.reduceAdd, Nat.reduceSub, Array.replicate_succ, Array.replicate_zero, List.push_toArray, List.append_toArray, List.nil_append, List.cons_append]; go_wp2_with fail
 refine hcore.mono ?_; rintro e w0 ⟨rfl, rfl⟩; go_wp2_with fail
 refine hcr.mono ?_; rintro e w1 ⟨rfl, F', c1, c2, c3⟩; simp only at c1; obtain ⟨own', hS1, ho1⟩ := HS0.out.setCore (i := i) HI.out (by rw [HCB.out]; exact c1) c2 c3; have hq1 : w1.cell? ⟨w.heap.size, 0, none⟩ = some (.pointer (some ⟨sb, 0, none⟩)) := (World.cell?_of_block (a := ⟨w.heap.size, 0, none⟩) (c2.block w.heap.size (by simp) (fun e => by have := HS.out.lt w.heap.size (by rw [e]; simp); omega))).trans q0.1; have hT1 := (hS1.task id t HT.out)
 have hlook := hS1.look id (by omega) hid.2; rw [show (⟨s.cores.set i c', s.gs, s.acc, s.ps, s.tasks, s.cnt⟩ : Sy).tasks id = some t from HT.out] at hlook; simp only at hlook; have h67 := hS1.c67; have hc1 := hS1.c1; obtain ⟨b, hb⟩ : ∃ b, tb id = b := ⟨_, rfl⟩
 rw [hb] at hlook hT1; have htg := hT1.1.group; have hzz := c2.size; have hS1' : SysAt w1 sb gb nb pb mb n cv D cbs tb own' (setCo s i c') := hS1; have HS1 := lH hS1'; have HO1 := lH ho1; have HC2 := lH c2; clear hcore hcr hS1 hS1' ho1 hT1 c1 c2 c3 q0 hb; go_wp2_with fail
 go_region_held3 (fun W2 => W2.cell? ⟨w.heap.size, 0, none⟩ = some (.pointer (some ⟨sb, 0, none⟩)) ∧ W2.cell? ⟨sb, 1, none⟩ = some (.pointer (some ⟨gb, 0, none⟩)) ∧ W2.cell? ⟨b, 2, none⟩ = some (.int .i64 t.group)) (first | exact ⟨hq1, hc1, htg⟩ | exact ⟨c2a _ (c2a _ hq1), c2a _ (c2a _ hc1), c2a _ (c2a _ htg)⟩) (first | (go_at_call 112; refine (path_any gb t.group _).mono ?_; rintro e w9 ⟨rfl, rfl⟩) | fail)
 have kg := c2a (.cells #[.int .i64 t.group] 3) (cell_new_l w1 (.pointer (some ⟨gb, 0, none⟩)) 113).1; have ki := (cell_new_l (w1.alloc (.cells #[.pointer (some ⟨gb, 0, none⟩)] 113)) (.int .i64 t.group) 3).1; rw [World.size_alloc] at ki; have kb := c2a (.cells #[.int .i64 t.group] 3) (c2a (.cells #[.pointer (some ⟨gb, 0, none⟩)] 113) hq1); have hB2 : Below w1.heap.size w1 ((w1.alloc (.cells #[.pointer (some ⟨gb, 0, none⟩)] 113)).alloc (.cells #[.int .i64 t.group] 3)).drew := (((Below.refl _ _).alloc (Nat.le_refl _) _).alloc (by simp) _).drew; have hz2 : ((w1.alloc (.cells #[.pointer (some ⟨gb, 0, none⟩)] 113)).alloc (.cells #[.int .i64 t.group] 3)).drew.heap.size = w1.heap.size + 1 + 1 := by show ((w1.alloc _).alloc _).heap.size = _; simp
 change World.cell? ((w1.alloc (.cells #[.pointer (some ⟨gb, 0, none⟩)] 113)).alloc (.cells #[.int .i64 t.group] 3)).drew _ = _ at kg ki kb; generalize ((w1.alloc (.cells #[.pointer (some ⟨gb, 0, none⟩)] 113)).alloc (.cells #[.int .i64 t.group] 3)).drew = W2 at kg ki kb hB2 hz2 ⊢; have hS2 := HS1.out.below hB2; have hwz : w.heap.size < w1.heap.size := World.block_lt_of_cell? _ _ hq1; have hgl := HS1.out.groups.lt; have hsbl := HS1.out.lt sb (by rw [HS1.out.osb]; simp); have hsg : sb ≠ gb := fun e => by have a := HS1.out.osb; rw [e, HS1.out.ogb] at a; cases a
 have HS2 := lH hS2; clear hS2 hq1 hc1 htg hlook h67; go_wp2_with fail
 refine (wpIn_wide (n := 5)).1 (wpIn_rangeFunc_ownF rfl h1 (gf := 155) (lb := #[.pointer (some ⟨w1.heap.size + 1, 0, none⟩), .pointer (some ⟨w1.heap.size, 0, none⟩)]) rfl trivial (enters_of Tryz.func155 (by kernel_rfl) rfl)
  (path_stops (5 - 1) (by omega) (w1.heap.size + 1) w1.heap.size gb s.gs t.group xs W2 (by omega) (by omega) (by omega) ki kg HS2.out.groups HL.out) KpG.t (KpG.b (by omega) (by omega)) (Below.refl _ _) (fun _ => rfl)
  (fun pre W => (W2.heap.size ≤ W.heap.size ∧ W.cell? ⟨w.heap.size, 0, none⟩ = some (.pointer (some ⟨sb, 0, none⟩))) ∧ AccOk (pre.foldl useA s.acc) ∧ SysAt W sb gb nb pb mb n cv D cbs tb own' (setAcc (setCo s i c') (pre.foldl useA s.acc)) ∧ Touch (fun k => k = sb) W2 W)
  (fun _ _ _ => False)
  (OwnFrom.and (Own.from (fun s A B row hs hg hr => ⟨Nat.le_trans hs.1 hg.size, cell_kept hs.2 hg hr⟩) _) (fun pre A B row hs hg hr => ⟨hs.1, hs.2.1.own_steps (fun k hk => by have := HS1.out.lt k hk; omega) hg (fun r hr' => (hr r hr').1), touch_own hs.2.2 hg (fun r hr' => (hr r hr').1)⟩))
  (fun _ _ _ _ _ hs _ _ => hs)
  ⟨⟨Nat.le_refl _, kb⟩, HA.out, HS2.out, Touch.refl _ _⟩
  (fun x => { tmps := #[Value.pointer (some ⟨sb, 0, none⟩), .int .i64 i, .pointer (some ⟨w.heap.size, 0, none⟩), undef, .int .i64 0, .int .i64 0, .pointer (some ⟨cb, 0, none⟩), .int .i64 0, .int .i64 id, .pointer (some ⟨b, 0, none⟩), .int .i64 x.1, undef, undef, .tuple #[.pointer (some ⟨cb, 0, none⟩), .int .i64 0], .pointer (some ⟨sb, 0, none⟩), .int .i64 i, .tuple #[.pointer (some ⟨cb, 0, none⟩), .int .i64 0], .pointer (some ⟨cb, 0, none⟩), .int .i64 0, .int .i64 0, .bool false, undef, .tuple #[.int .i64 id, .int .i64 0], .pointer (some ⟨cb, 0, none⟩), .tuple #[.int .i64 id, .int .i64 0], .int .i64 id, .int .i64 0, .pointer (some ⟨sb, 0, none⟩), .pointer (some ⟨sb, 0, none⟩), .pointer (some ⟨sb, 67, none⟩), .map (some mb), .int .i64 id, .pointer (some ⟨b, 0, none⟩), .int .i64 0, .bool false, .bool false, .pointer (some ⟨b, 0, none⟩), .bool false, .bool false, undef, undef, .pointer (some ⟨sb, 0, none⟩), .pointer (some ⟨sb, 0, none⟩), .pointer (some ⟨sb, 1, none⟩), .pointer (some ⟨gb, 0, none⟩), .pointer (some ⟨b, 0, none⟩), .pointer (some ⟨b, 0, none⟩), .pointer (some ⟨b, 2, none⟩), .int .i64 t.group, .func (.func 155) #[] #[.pointer (some ⟨w1.heap.size + 1, 0, none⟩), .pointer (some ⟨w1.heap.size, 0, none⟩)], .int .i64 x.1, undef, undef, undef, undef, undef, undef, undef, undef, undef, undef, undef, undef, undef, undef, undef, undef, undef, undef, undef, undef, undef], defers := [] }) ?assign ?body ?done ?stop)
 case assign =>
  intro l x W K hK; gi_wp2
  simpa using hK
 case body =>
  rintro l pre ⟨x, hx0, hx1⟩ W ⟨⟨hwz2, hk0⟩, hok, hSW, htW⟩ hpl; have e1 : 1 ≤ 5 - 1 - 1 := by omega
  have hmx : Tryz.prog.follows .mixedOrders = true := by kernel_rfl
  obtain ⟨k, rfl⟩ := Int.eq_ofNat_of_zero_le hx0; have hk16 : k < 16 := by omega
  have hk16i : (k : Int) < 16 := hx1; obtain ⟨a0, a1, a2, a3⟩ := hSW.acc k hk16; simp only [setAcc] at a0 a1 a2 a3; have hfold : (pre ++ [(⟨(k : Int), hx0, hx1⟩ : G16)]).foldl useA s.acc = useA (pre.foldl useA s.acc) ⟨(k : Int), hx0, hx1⟩ := by rw [List.foldl_append]; rfl
  have hok2 := hok.use ⟨(k : Int), hx0, hx1⟩; obtain ⟨ac, hac⟩ : ∃ ac, pre.foldl useA s.acc = ac := ⟨_, rfl⟩
  rw [hac] at a0 a1 a2 a3 hfold hok2 hok hSW; have hbd := hok.2 k hk16; have hac16 := hok.1; have hstep : useA ac ⟨(k : Int), hx0, hx1⟩ = if (useP (ac.getD k default).1 (ac.getD k default).2.1 (ac.getD k default).2.2.1 (ac.getD k default).2.2.2).2 = 0 then ac.set k (useP (ac.getD k default).1 (ac.getD k default).2.1 (ac.getD k default).2.2.1 (ac.getD k default).2.2.2).1 else ac := by unfold useA; simp
  generalize (ac.getD k default).1 = q0 at a0 hbd hstep; generalize (ac.getD k default).2.1 = q1 at a1 hbd hstep; generalize (ac.getD k default).2.2.1 = q2 at a2 hbd hstep; generalize (ac.getD k default).2.2.2 = q3 at a3 hbd hstep; have huse := fun W' => ause_any q0 q1 q2 q3 W' (acc_bd hbd).1 (acc_bd hbd).2; obtain ⟨⟨⟨u0, u1, u2, u3⟩, ue⟩, hu⟩ : ∃ r, useP q0 q1 q2 q3 = r := ⟨_, rfl⟩
  rw [hu] at huse hstep; simp only at huse hstep; have hsetb : setAcc (setAcc (setCo s i c') ac) (ac.set k (u0, u1, u2, u3)) = setAcc (setCo s i c') (ac.set k (u0, u1, u2, u3)) := rfl; have HST := lH hstep; have HFO := lH hfold; have HOK := lH hok2; have HSW := lH hSW; have HTW := lH htW; clear hbd hu hac hok hstep hfold hok2 hSW htW kg ki; by_cases hue : ue = 0
  · subst hue; gi_wp2_with (refine ⟨trivial, ?_⟩; gi_at_call 113; refine (CallsIn.inRound l (callsIn_wide.2 (huse _))).mono ?_; rintro e w' ⟨rfl, hb⟩; have hk0' := (hb.cell (p := ⟨w.heap.size, 0, none⟩) (by show w.heap.size < W.heap.size; omega)).trans hk0)
    rw [if_pos trivial] at HST; have n0 : (w'.alloc (.cells #[.int .i64 u0, .int .i64 u1, .int .i64 u2, .int .i64 u3] 119)).heap[w'.heap.size]? = some (.cells #[.int .i64 u0, .int .i64 u1, .int .i64 u2, .int .i64 u3] 119) := heap_alloc_new w' _; have hB4 : Below W.heap.size W (w'.alloc (.cells #[.int .i64 u0, .int .i64 u1, .int .i64 u2, .int .i64 u3] 119)) := hb.alloc hb.size _; have k4 := c2a (.cells #[.int .i64 u0, .int .i64 u1, .int .i64 u2, .int .i64 u3] 119) hk0'; obtain ⟨m0, m1, m2, m3⟩ := cells4 n0; generalize w'.alloc (.cells #[.int .i64 u0, .int .i64 u1, .int .i64 u2, .int .i64 u3] 119) = W4 at hB4 k4 m0 m1 m2 m3 ⊢; have hS4 := HSW.out.below hB4; obtain ⟨b0, b1, b2, b3⟩ := hS4.acc k hk16; have l0 := hS4.live (2 + k * 4); have l1 := hS4.live (2 + k * 4 + 1); have l2 := hS4.live (2 + k * 4 + 2); have l3 := hS4.live (2 + k * 4 + 3); have HS4 := lH hS4; clear n0 hS4; refine wpIn_W_round (S := UseS w.heap.size sb w'.heap.size u0 u1 u2 u3) (T := [6]) hmx (by kernel_rfl) (fun _ _ h => h) ?_; have hSS : UseS w.heap.size sb w'.heap.size u0 u1 u2 u3 W4.drew := ⟨k4, m0, m1, m2, m3⟩
    refine wpAnyW_take (i := 0) (v := ?_) rfl (by kernel_rfl) (by kernel_rfl) (by kernel_rfl) (by kernel_rfl) (fun _ _ _ h => h) (Or.inl ⟨by rfl, ?_⟩) (by assumption) ?_; rotate_left
    · intro w5 hSw; obtain ⟨s1, s2, s3, s4, s5⟩ := hSw; go_simp; (first | done | with_reducible rfl)
    simp only [Act.put, List.setIfInBounds_toArray, List.set_cons_zero, List.set_cons_succ]; refine wpAnyW_take (i := 1) (v := ?_) rfl (by kernel_rfl) (by kernel_rfl) (by kernel_rfl) (by kernel_rfl) (fun _ _ _ h => h) (Or.inl ⟨by rfl, ?_⟩) (by assumption) ?_; rotate_left
    · intro w5 hSw; obtain ⟨s1, s2, s3, s4, s5⟩ := hSw; go_simp; (first | done | with_reducible rfl)
    simp only [Act.put, List.setIfInBounds_toArray, List.set_cons_zero, List.set_cons_succ]; refine wpAnyW_take (i := 2) (v := ?_) rfl (by kernel_rfl) (by kernel_rfl) (by kernel_rfl) (by kernel_rfl) (fun _ _ _ h => h) (Or.inl ⟨by rfl, ?_⟩) (by assumption) ?_; rotate_left
    · intro w5 hSw; obtain ⟨s1, s2, s3, s4, s5⟩ := hSw; go_simp; (first | done | with_reducible rfl)
    simp only [Act.put, List.setIfInBounds_toArray, List.set_cons_zero, List.set_cons_succ]; refine wpAnyW_one (i := 3) (by kernel_rfl) rfl (by kernel_rfl) ?_; intro K13 hK; go_simp
    refine hK _ _ hSS ?_; clear hK; refine wpAnyW_one (i := 4) (by kernel_rfl) rfl (by kernel_rfl) ?_; intro K14 hK; go_simp
    refine hK _ _ hSS ?_; clear hK; refine wpAnyW_one (i := 5) (by kernel_rfl) rfl (by kernel_rfl) ?_; intro K15 hK; go_simp
    refine hK _ _ hSS ?_; clear hK; refine wpAnyW_last (i := 6) (by kernel_rfl) rfl (by kernel_rfl) ?_; intro K3 hK; go_simp
    refine hK _ _ ?_; clear hK hSS; refine wpAnyW_done (by kernel_rfl) ?_ _; have hS5 := HS4.out.setA k hk16 (by exact hac16) u0 u1 u2 u3; have hS6 := hS5.drew1; have hW1 : W2.heap.size ≤ W.heap.size := hwz2; have hz5 := hB4.size; have hsg' := hsg; have hblk : ∀ j, j < W.heap.size → j ≠ sb → ((((W4.setCell ⟨sb, 2 + k * 4, none⟩ (.int .i64 u0)).setCell ⟨sb, 2 + k * 4 + 1, none⟩ (.int .i64 u1)).setCell ⟨sb, 2 + k * 4 + 2, none⟩ (.int .i64 u2)).setCell ⟨sb, 2 + k * 4 + 3, none⟩ (.int .i64 u3)).drew.heap[j]? = W.heap[j]? := fun j hj hne => by
     show ((((W4.setCell ⟨sb, 2 + k * 4, none⟩ (.int .i64 u0)).setCell ⟨sb, 2 + k * 4 + 1, none⟩ (.int .i64 u1)).setCell ⟨sb, 2 + k * 4 + 2, none⟩ (.int .i64 u2)).setCell ⟨sb, 2 + k * 4 + 3, none⟩ (.int .i64 u3)).heap[j]? = _; rw [Below.heap_setCell _ _ _ _ (by simpa using hne), Below.heap_setCell _ _ _ _ (by simpa using hne), Below.heap_setCell _ _ _ _ (by simpa using hne), Below.heap_setCell _ _ _ _ (by simpa using hne)]; exact hB4.block j hj
    refine ⟨((keeps_below hB4).trans ((((KeepsOthers.setCell _ _ _).trans (KeepsOthers.setCell _ _ _)).trans (KeepsOthers.setCell _ _ _)).trans (KeepsOthers.setCell _ _ _))).trans (KeepsOthers.drew _), ⟨hblk gb (by omega) hsg.symm, hblk w1.heap.size (by omega) (by omega)⟩, ⟨?_, (World.cell?_of_block (a := ⟨w.heap.size, 0, none⟩) (hblk w.heap.size (by omega) (by omega))).trans hk0⟩, ?_, ?_, ?_⟩
    · show W2.heap.size ≤ ((((W4.setCell ⟨sb, 2 + k * 4, none⟩ (.int .i64 u0)).setCell ⟨sb, 2 + k * 4 + 1, none⟩ (.int .i64 u1)).setCell ⟨sb, 2 + k * 4 + 2, none⟩ (.int .i64 u2)).setCell ⟨sb, 2 + k * 4 + 3, none⟩ (.int .i64 u3)).heap.size; simp; omega
    · rw [HFO.out]; exact HOK.out
    · rw [HFO.out, HST.out]; exact hS6
    · refine HTW.out.self (Touch.drew ?_); refine Touch.self (Touch.of_below hB4) ?_; exact (((touch1 _ _ _ _).self (touch1 _ _ _ _)).self (touch1 _ _ _ _)).self (touch1 _ _ _ _)
  · rw [if_neg hue] at HST; have hue' : (ue == 0) = false := by simpa using hue
    gi_wp2_with (refine ⟨trivial, ?_⟩; gi_at_call 113; refine (CallsIn.inRound l (callsIn_wide.2 (huse _))).mono ?_; rintro e w' ⟨rfl, hb⟩; have hk0' := (hb.cell (p := ⟨w.heap.size, 0, none⟩) (by show w.heap.size < W.heap.size; omega)).trans hk0)
    have hB4 : Below W.heap.size W (w'.alloc (.cells #[.int .i64 u0, .int .i64 u1, .int .i64 u2, .int .i64 u3] 119)) := hb.alloc hb.size _; refine ⟨keeps_below hB4, kpg_below hB4 (by omega) (by omega), ⟨Nat.le_trans hwz2 hB4.size, c2a _ hk0'⟩, ?_, ?_, HTW.out.self (Touch.of_below hB4)⟩
    · rw [HFO.out]; exact HOK.out
    · rw [HFO.out, HST.out]; exact HSW.out.below hB4
 case done =>
  rintro D' ys W hD rfl ⟨⟨hwz2, hk0⟩, hok, hSW, htW⟩ hK; have hhold := hold_all sb gb nb pb mb n cv D cbs tb own' _ W hSW HZ.out HD.out HH.out; have HSW := lH hSW; have HTW := lH htW; clear hSW htW hok kg ki; go_wp2_with fail
  refine hhold.mono ?_; rintro e w2 ⟨rfl, ids, hperm, hpw, hSh, hTh⟩; have hDo : own' D' = none := by
   cases e : own' D' with
   | none => rfl
   | some o => have := HS2.out.lt D' (by rw [e]; simp); omega
  have hK2 : w2.heap[D']? = some (.deferred (some [])) := (hTh.block D' (lt_of_some hK) (by simp [hDo])).trans hK; have HPE := lH hperm; have HPW := lH hpw; have HSH := lH hSh; have HTH := lH hTh; clear hhold hperm hpw hSh hTh; go_wp2_with fail
  refine ⟨by simp, .inl ⟨_, _, rfl, run_takeDeferred hK2, ?_⟩⟩; have hSF := HSH.out.own_steps (fun k hk => HS2.out.lt k hk) (grownBy_putObj' w2 D' (.deferred none)) (fun r e => by cases e; exact hD); refine ⟨.tuple #[.int .i64 id, .int .i64 0], by simp [results, Tryz.f55, go_sem], rfl, ids, HPE.out, HPW.out.imp (fun h => by omega), own', hSF, fun k hk => HO1.out k (by have := hB0.size; omega), ?_⟩; have t1 : Touch (fun k => own k ≠ none) w w1 := (Touch.of_below hB0).self (HC2.out.wider (fun k hk => by rw [hk]; simp)); have t2 : Touch (fun k => own k ≠ none) w W2 := t1.self (Touch.of_below hB2); have t3 : Touch (fun k => own k ≠ none) w W := t2.trans (Grows.refl _ _) (HTW.out.wider (fun k hk => by rw [hk, HS.out.osb]; simp))
  have t4 : Touch (fun k => own k ≠ none) w w2 := t3.trans (fun k hk => by
   by_cases hl : k < w.heap.size
   · left; show own k ≠ none; rw [← HO1.out k (by have := hB0.size; omega)]; exact hk
   · right; omega) HTH.out
  exact touch_own t4 (grownBy_putObj' w2 D' (.deferred none)) (fun r e => by cases e; exact Nat.le_trans t2.size hD)
 case stop =>
  rintro D' c pre W _ _ h _; exact h.elim
theorem ycore_bad (sb gb nb pb mb n : Nat) (cv : Value) (D : DataW Unit) (cbs : List Nat) (tb : Int → Nat) (own : Nat → Option Own) (s : Sy) (z : Int) (W : World) (h : SysAt W sb gb nb pb mb n cv D cbs tb own s) (hi : z < 0 ∨ (cbs.length : Int) ≤ z) :
 Calls Tryz.prog 87 #[.pointer (some ⟨sb, 0, none⟩), .int .i64 z] W fun e w' => e = .returned (.tuple #[.pointer none, .int .i64 2]) ∧ W = w' := by
 obtain ⟨N, hN⟩ : ∃ N, cbs.length = N := ⟨_, rfl⟩
 obtain ⟨a, c, hcv⟩ : ∃ a c, cv = .slice a N c := by
  rcases h.row.2 with ⟨e, h0⟩ | ⟨g, cap, cur, e, _⟩
  · exact ⟨none, 0, by rw [e, show N = 0 by omega]⟩
  · exact ⟨_, cap, by rw [e, hN]⟩
 have c0 := h.head; rw [hcv] at c0; rw [hN] at hi; clear h hN hcv; by_cases hz : z < 0
 · clear hi; go_enter Tryz.func87, Tryz.ntmps87; go_wp2_with fail
   go_ret2
   exact ⟨rfl, rfl⟩
 · have h2 : (N : Int) ≤ z := by omega
   clear hi; go_enter Tryz.func87, Tryz.ntmps87; go_wp2_with fail
   go_ret2
   exact ⟨rfl, rfl⟩
theorem run_nocore (sb gb nb pb mb n : Nat) (cv : Value) (D : DataW Unit) (cbs : List Nat) (tb : Int → Nat) (own : Nat → Option Own) (s : Sy) (z : Int) (w : World) (h : SysAt w sb gb nb pb mb n cv D cbs tb own s) (hi : z < 0 ∨ (cbs.length : Int) ≤ z) :
 Calls Tryz.prog 55 #[.pointer (some ⟨sb, 0, none⟩), .int .i64 z] w fun e w' => e = .returned (.tuple #[.int .i64 0, .int .i64 2]) ∧ YP sb gb nb pb mb n cv D cbs tb own s w w' := by
 have hB0 : Below w.heap.size w (w.alloc (.cells #[.pointer (some ⟨sb, 0, none⟩)] 81)) := (Below.refl _ w).alloc (Nat.le_refl _) _; have hcore := ycore_bad sb gb nb pb mb n cv D cbs tb own s z _ (h.below hB0) hi; have HS := lH h; have HB := lH hB0; have q0 := cell_new_l w (.pointer (some ⟨sb, 0, none⟩)) 81; clear h hB0 hi; refine callsIn_wide.1 (callsIn_of_wp_marks (n := 5) Tryz.func55 rfl trivial (wpIn_wide.2 ?_) rfl); simp only [Tryz.ntmps55, List.size_toArray, List.length_cons, List.length_nil, Nat.reduceAdd, Nat.reduceSub, Array.replicate_succ, Array.replicate_zero, List.push_toArray, List.append_toArray, List.nil_append, List.cons_append]; go_wp2_with fail
 refine hcore.mono ?_; rintro e w0 ⟨rfl, rfl⟩; go_wp2_with fail
 refine ⟨.tuple #[.int .i64 0, .int .i64 2], by simp [results, Tryz.f55, go_sem], rfl, own, HS.out.below HB.out, fun _ _ => rfl, Touch.of_below HB.out⟩
set_option maxRecDepth 100000 in
theorem run_idle (sb gb nb pb mb n : Nat) (cv : Value) (D : DataW Unit) (cbs : List Nat) (tb : Int → Nat) (own : Nat → Option Own) (s : Sy) (i : Nat) (c' : Co) (w : World)
 (h : SysAt w sb gb nb pb mb n cv D cbs tb own s) (hi : i < cbs.length) (hfit : Fits s.cores[i]!.l) (hids : Ids s.cores[i]!.l) (hsrv : s.cores[i]!.srv < 1000000000) (hrun : coreRun s.cores[i]! = (-1, 0, c')) (ht : s.tasks (-1) = none) :
 Calls Tryz.prog 55 #[.pointer (some ⟨sb, 0, none⟩), .int .i64 i] w fun e w' => e = .returned (.tuple #[.int .i64 (-1), .int .i64 0]) ∧ YP sb gb nb pb mb n cv D cbs tb own (setCo s i c') w w' := by
 have hsl := h.lt sb (by rw [h.osb]; simp); have hB0 : Below w.heap.size w (w.alloc (.cells #[.pointer (some ⟨sb, 0, none⟩)] 81)) := (Below.refl _ w).alloc (Nat.le_refl _) _; have hS0 := h.below hB0; have hcore := ycore_any sb gb nb pb mb n cv D cbs tb own s i _ hS0 hi; have hcr := crun_any cbs[i]! _ s.cores[i]! _ (hS0.core i hi) hfit hids hsrv; rw [hrun] at hcr; have q0 := cell_new_l w (.pointer (some ⟨sb, 0, none⟩)) 81; have HS := lH h; have HS0 := lH hS0; have HI := lH hi; have HT := lH ht; obtain ⟨cb, hcb⟩ : ∃ cb, cbs[i]! = cb := ⟨_, rfl⟩
 rw [hcb] at hcore hcr; have HCB := lH hcb; clear h hS0 hi hfit hids hsrv hrun ht hcb; refine callsIn_wide.1 (callsIn_of_wp_marks (n := 5) Tryz.func55 rfl trivial (wpIn_wide.2 ?_) rfl); simp only [Tryz.ntmps55, List.size_toArray, List.length_cons, List.length_nil, Nat.reduceAdd, Nat.reduceSub, Array.replicate_succ, Array.replicate_zero, List.push_toArray, List.append_toArray, List.nil_append, List.cons_append]; go_wp2_with fail
 refine hcore.mono ?_; rintro e w0 ⟨rfl, rfl⟩; go_wp2_with fail
 refine hcr.mono ?_; rintro e w1 ⟨rfl, F', c1, c2, c3⟩; simp only at c1; obtain ⟨own', hS1, ho1⟩ := HS0.out.setCore (i := i) HI.out (by rw [HCB.out]; exact c1) c2 c3; have hq1 : w1.cell? ⟨w.heap.size, 0, none⟩ = some (.pointer (some ⟨sb, 0, none⟩)) := (World.cell?_of_block (a := ⟨w.heap.size, 0, none⟩) (c2.block w.heap.size (by simp) (fun e => by have := HS.out.lt w.heap.size (by rw [e]; simp); omega))).trans q0.1; have hlook := hS1.look (-1) (by omega) (by omega); rw [show (⟨s.cores.set i c', s.gs, s.acc, s.ps, s.tasks, s.cnt⟩ : Sy).tasks (-1) = none from HT.out] at hlook; simp only at hlook; have h67 := hS1.c67; have hS1' : SysAt w1 sb gb nb pb mb n cv D cbs tb own' (setCo s i c') := hS1; have HS1 := lH hS1'; have HO1 := lH ho1; have HC2 := lH c2; clear hcore hcr hS1 hS1' ho1 c1 c2 c3 q0; go_wp2_with fail
 refine ⟨.tuple #[.int .i64 (-1), .int .i64 0], by simp [results, Tryz.f55, go_sem], rfl, own', HS1.out, fun k hk => HO1.out k (by have := hB0.size; omega), ?_⟩; exact (Touch.of_below hB0).self (HC2.out.wider (fun k hk => by rw [hk]; simp))
end
section
attribute [local go_sem] Oper.semAt_some
theorem open_none (W : World) : Calls Tryz.prog 121 #[.pointer none] W fun e w' => e = .returned (.bool false) ∧ W = w' := by
 go_enter Tryz.func121, Tryz.ntmps121; go_wp2_with fail
 go_ret
 exact ⟨rfl, rfl⟩
theorem open_some (tb cb : Nat) (t : Tr) (W : World) (h : TryC W tb cb t) : Calls Tryz.prog 121 #[.pointer (some ⟨tb, 0, none⟩)] W fun e w' => e = .returned (.bool (decide (t.stg < 5))) ∧ W = w' := by
 have hst := stage_any tb cb t W h; clear h; go_enter Tryz.func121, Tryz.ntmps121; go_wp2_with fail
 refine hst.mono ?_; rintro e w1 ⟨rfl, rfl⟩; go_wp2_with fail
 go_ret
 exact ⟨rfl, rfl⟩
def newTr (tag base : Int) : Tr := ⟨tag, base, 0, 0, 0, .slice none 0 0, .pointer none, false, false, false, false, false, false⟩
def StNewP (cb : Nat) (tag base : Int) (w : World) (e : Ending) (W' : World) : Prop :=
 ((tag ≠ 0 ∧ tag ≠ 1 ∧ tag ≠ 2) ∧ e = .returned (.tuple #[.pointer none, .int .i64 1]) ∧ W' = w) ∨
 ((tag = 0 ∨ tag = 1 ∨ tag = 2) ∧ ∃ tb, e = .returned (.tuple #[.pointer (some ⟨tb, 0, none⟩), .int .i64 0]) ∧ TryC W' tb cb (newTr tag base) ∧ w.heap.size ≤ tb ∧ Below w.heap.size w W')
theorem stnew_any (cb : Nat) (tag base : Int) (W : World) (hb : -1152921504606846976 ≤ base ∧ base ≤ 1152921504606846976) :
 Calls Tryz.prog 122 #[.pointer (some ⟨cb, 0, none⟩), .int .i64 tag, .int .i64 base] W (StNewP cb tag base W) := by
 by_cases ht : tag = 0 ∨ tag = 1 ∨ tag = 2
 · have hnew := pnew_any tag base W ht hb; have HT := lH ht; clear ht; go_enter Tryz.func122, Tryz.ntmps122; go_wp2_with fail
   refine hnew.mono ?_; rintro e w1 ⟨qb, F, rfl, -, hB, -⟩; have HB := lH hB; clear hB; go_wp2_with fail
   go_ret2
   refine .inr ⟨HT.out, _, rfl, heap_alloc_new _ _, HB.out.size, HB.out.alloc HB.out.size _⟩
 · have hnew := pnew_bad tag base W (by omega) (by omega) (by omega); have HT : Hid (tag ≠ 0 ∧ tag ≠ 1 ∧ tag ≠ 2) := lH (by omega); clear ht; go_enter Tryz.func122, Tryz.ntmps122; go_wp2_with fail
   refine hnew.mono ?_; rintro e w1 ⟨rfl, rfl⟩; go_wp2_with fail
   go_ret2
   exact .inl ⟨HT.out, rfl, rfl⟩
theorem try_some (wb sb mb sn : Nat) (av : Value) (DD : DataW Unit) (m : Nat) (tbs : List Nat) (ttb : Int → Nat) (L : Int → Option Tr) (ow : Nat → Option OwnW)
 (gb nb pb mb' n : Nat) (cv : Value) (D : DataW Unit) (cbs : List Nat) (tb : Int → Nat) (own : Nat → Option Own) (s : Sy) (i : Nat) (t : Tr) (W : World)
 (hw : SwAt W wb sb mb sn av DD m tbs ttb cbs L ow) (h : SysAt W sb gb nb pb mb' n cv D cbs tb own s) (hi : i < cbs.length) (hi2 : i < 1000000) (ht : L i = some t) :
 Calls Tryz.prog 123 #[.pointer (some ⟨wb, 0, none⟩), .int .i64 i] W fun e w' => e = .returned (.tuple #[.pointer (some ⟨ttb i, 0, none⟩), .int .i64 0]) ∧ W = w' := by
 have hcore := ycore_any sb gb nb pb mb' n cv D cbs tb own s i _ h hi; have hl := hw.look i (by omega) (by omega); rw [ht] at hl; simp only at hl; have c0 := hw.c0; have c1 := hw.c1; generalize cbs[i]! = cb at hcore; generalize ttb i = b at hl ⊢; clear hw h ht; go_enter Tryz.func123, Tryz.ntmps123; go_wp2_with fail
 refine hcore.mono ?_; rintro e w1 ⟨rfl, rfl⟩; go_wp2_with fail
 go_ret2
 exact ⟨rfl, rfl⟩
end
section
attribute [local go_sem] Oper.semAt_some
theorem info210 : (Tryz.prog.info? 210).map (fun i => (i.zero, i.size, i.bytes)) = some (some (.pointer none), 1, 8) := by kernel_rfl
def openL (L : Int → Option Tr) (c tag base : Int) : Int → Option Tr := fun x => if x = c then some (newTr tag base) else L x
open Classical in
theorem SwAt.open_ {W w1 w2 w4 : World} {wb sb mb n : Nat} {av : Value} {D : DataW Unit} {m : Nat} {tbs : List Nat} {tb : Int → Nat} {cbs : List Nat} {L : Int → Option Tr} {ow : Nat → Option OwnW} {b g cap : Nat} {tag base : Int} {o : Obj} {i : Nat}
 (h : SwAt W wb sb mb n av D m tbs tb cbs L ow) (hb : Below W.heap.size W w1) (hT : TryC w1 b cbs[i]! (newTr tag base)) (hbb : W.heap.size ≤ b) (hi : i < cbs.length)
 (hm : w2.ownsMap Tryz.prog 3 rptr mb (n + 1) (D.put (.int .i64 i) (.lit (.int .i64 b)))) (hg2 : w1.grownBy w2 (some mb)) (hg : (w2.alloc o).grownBy w4 av.ownBlock)
 (hown : w4.ownsRow 0 210 1 (.slice (some ⟨g, 0, none⟩) (m + 1) cap) (m + 1) (ptrs tbs ++ [.pointer (some ⟨b, 0, none⟩)])) (hat : av.ownBlock = some g ∨ g = w2.heap.size + 1) :
 ∃ ow' tb', tb' i = b ∧ SwAt (w4.setCell ⟨wb, 2, none⟩ (.slice (some ⟨g, 0, none⟩) (m + 1) cap)) wb sb mb (n + 1) (.slice (some ⟨g, 0, none⟩) (m + 1) cap) (D.put (.int .i64 i) (.lit (.int .i64 b))) (m + 1) (tbs ++ [b]) tb' cbs (openL L i tag base) ow' ∧
  (∀ k, k < W.heap.size → ow' k = ow k) ∧ Touch (fun k => ow k ≠ none) W (w4.setCell ⟨wb, 2, none⟩ (.slice (some ⟨g, 0, none⟩) (m + 1) cap)) := by
 have z1 := hb.size; have z2 := hg2.size; have z4 := hg.size; simp only [World.size_alloc] at z4; have hbl := hT.lt; have hold : ∀ k, k < w1.heap.size → k ≠ mb → av.ownBlock ≠ some k → w4.heap[k]? = w1.heap[k]? := fun k hk hne hne2 => by
  rw [hg.block k (by simp; omega) (fun e => hne2 e.symm), Below.heap_alloc _ _ _ (by omega), hg2.block k hk (by simpa using hne)]
 have hset : ∀ k, k ≠ wb → (w4.setCell ⟨wb, 2, none⟩ (.slice (some ⟨g, 0, none⟩) (m + 1) cap)).heap[k]? = w4.heap[k]? := fun k hk => Below.heap_setCell _ _ _ _ hk; have hk1 : ∀ k x, ow k = some x → x ≠ .row → x ≠ .map → w4.heap[k]? = W.heap[k]? := fun k x hk hx hx2 => by
  have hlt := h.lt k (by rw [hk]; simp); rw [hold k (by omega) (fun e => by subst e; rw [h.omb] at hk; exact hx2 (by simpa using hk.symm)) (fun e => by have := h.rown k e; rw [hk] at this; exact hx (by simpa using this)), hb.block k hlt]
 have hmb := h.lt mb (by rw [h.omb]; simp); have hmrow : av.ownBlock ≠ some mb := fun e => by have := h.rown mb e; rw [h.omb] at this; cases this
 have hgne : g ≠ wb := by
  rcases hat with e | e
  · intro e2; subst e2; have := h.rown g e; rw [h.owb] at this; cases this
  · have := h.lt wb (by rw [h.owb]; simp); omega
 have bwb := hk1 wb _ h.owb (by simp) (by simp); have h0 : ∀ i, w4.cell? ⟨wb, i, none⟩ = W.cell? ⟨wb, i, none⟩ := fun i => World.cell?_of_block bwb; have h0' : ∀ i, w4.frozen? ⟨wb, i, none⟩ = W.frozen? ⟨wb, i, none⟩ := fun i => World.frozen?_of_block bwb; have hglt : g < w4.heap.size := (hown.lt g rfl).2; have hown' : ∀ k x, ow k = some x → (if k < W.heap.size then ow k else if k = b then some (OwnW.attempt i) else if k = g then some .row else none) = some x := fun k x hk => by
  rw [if_pos (h.lt k (by rw [hk]; simp))]; exact hk
 have hlt' : ∀ k, (if k < W.heap.size then ow k else if k = b then some (OwnW.attempt i) else if k = g then some .row else none) ≠ none → k < (w4.setCell ⟨wb, 2, none⟩ (.slice (some ⟨g, 0, none⟩) (m + 1) cap)).heap.size := by
  intro k hk; simp only [World.size_setCell]; split at hk
  · omega
  · split at hk
    · omega
    · split at hk
      · omega
      · exact absurd rfl hk
 have hmbw : mb ≠ wb := fun e => by have a := h.omb; rw [e, h.owb] at a; cases a
 have hbw : b ≠ wb := fun e => by have a := h.lt wb (by rw [h.owb]; simp); omega
 refine ⟨fun k => if k < W.heap.size then ow k else if k = b then some (.attempt i) else if k = g then some .row else none, fun x => if x = (i : Int) then b else tb x, by simp,
  ⟨?_, ?_, World.cell?_setCell_same _ _ _ ((h0 2).trans h.c2), fun i => (by rw [World.frozen?_setCell, h0']; exact h.live i), ?_, by have := h.cnt; omega, fun x hx1 hx2 => ?_, ?_, fun k hk => ?_, fun x t ht => ?_, hown' _ _ h.owb, hown' _ _ h.omb, hlt'⟩, fun k hk => if_pos hk, ?_⟩
 · rw [cell_setCell_ne _ (by simp), h0]; exact h.c0
 · rw [cell_setCell_ne _ (by simp), h0]; exact h.c1
 · exact ownsMap_same hm ((hset mb hmbw).trans (by rw [hg.block mb (by simp; omega) (fun e => hmrow e.symm), Below.heap_alloc _ _ _ (by omega)]))
 · unfold openL; by_cases e : x = (i : Int)
   · subst e; simp only [if_pos]; rw [Maps.atKey_put_same h.map.isMap (by trivial)]
   · simp only [if_neg e]; rw [Maps.atKey_put_other (by intro c; simp only [Lit.int.injEq, true_and] at c; exact e c)]; exact h.reads x hx1 hx2
 · rw [ptrs_append]; exact ownsRow_same hown (fun k hk => hset k (by simp [Value.ownBlock] at hk; subst hk; exact hgne))
 · simp [Value.ownBlock] at hk
   subst hk; rcases hat with e | e
   · exact hown' _ _ (h.rown _ e)
   · simp only
     rw [if_neg (by omega), if_neg (by omega), if_pos trivial]
 · unfold openL at ht; by_cases e : x = (i : Int)
   · subst e; simp only [if_pos, Option.some.injEq] at ht ⊢; subst ht; refine ⟨⟨by omega, by omega⟩, ⟨?_, ?_, fun k hk => hlt' k (by rw [hk]; simp), fun e2 => by simp [newTr] at e2, fun e2 => by simp [newTr] at e2⟩⟩
     · have : w4.heap[b]? = w1.heap[b]? := hold b hbl (by omega) (fun e => by have h1 := h.rown b e; have := h.lt b (by rw [h1]; simp); omega); simpa using hT.same ((hset b hbw).trans this)
     · rw [if_neg (by omega), if_pos rfl]
   · simp only [if_neg e] at ht ⊢; obtain ⟨t1, t2⟩ := h.tries x t ht; refine ⟨t1, ?_⟩; have hS := t2.same (W' := w4.setCell ⟨wb, 2, none⟩ (.slice (some ⟨g, 0, none⟩) (m + 1) cap)) (by simp; omega) (fun k hk => (hset k (fun e => by subst e; rw [h.owb] at hk; cases hk)).trans (hk1 k _ hk (by simp) (by simp))); have hX : (fun k => (if k < W.heap.size then ow k else if k = b then some (OwnW.attempt i) else if k = g then some .row else none) = some (OwnW.attempt x)) = (fun k => ow k = some (OwnW.attempt x)) := by
      funext k
      by_cases hk : k < W.heap.size
      · rw [if_pos hk]
      · rw [if_neg hk]; refine propext ⟨fun hh => ?_, fun hh => absurd (h.lt k (by rw [hh]; simp)) hk⟩; split at hh
        · simp at hh; exact absurd hh.symm e
        · split at hh
          · cases hh
          · cases hh
     rw [hX]; exact hS
 · refine ⟨?_, ?_, ?_, by simp; omega, fun k hk1' hk2 => ?_⟩
   · exact hg.os.trans (hg2.os.trans hb.os)
   · exact hg.tape.trans (hg2.tape.trans hb.tape)
   · exact hg.output.trans (hg2.output.trans hb.output)
   · rw [hset k (fun e => by subst e; exact hk2 (by rw [h.owb]; simp)), hold k (by omega) (fun e => by subst e; exact hk2 (by rw [h.omb]; simp)) (fun e => hk2 (by rw [h.rown k e]; simp)), hb.block k hk1']
def SwOpenP (wb sb : Nat) (m : Nat) (cbs : List Nat) (L : Int → Option Tr) (ow : Nat → Option OwnW) (i : Nat) (tag : Int) (w : World) (e : Ending) (W' : World) : Prop :=
 ((tag ≠ 0 ∧ tag ≠ 1 ∧ tag ≠ 2) ∧ e = .returned (.int .i64 1) ∧ W' = w) ∨
 ((tag = 0 ∨ tag = 1 ∨ tag = 2) ∧ e = .returned (.int .i64 0) ∧ ∃ mb n av D tbs tb ow', SwAt W' wb sb mb n av D (m + 1) tbs tb cbs (openL L i tag (1000 * m)) ow' ∧ (∀ k, k < w.heap.size → ow' k = ow k) ∧ Touch (fun k => ow k ≠ none) w W')
set_option maxRecDepth 100000 in
theorem swopen_any (wb sb mb sn : Nat) (av : Value) (DD : DataW Unit) (m : Nat) (tbs : List Nat) (ttb : Int → Nat) (L : Int → Option Tr) (ow : Nat → Option OwnW)
 (gb nb pb mb' n : Nat) (cv : Value) (D : DataW Unit) (cbs : List Nat) (tb : Int → Nat) (own : Nat → Option Own) (s : Sy) (i : Nat) (tag : Int) (W : World)
 (hw : SwAt W wb sb mb sn av DD m tbs ttb cbs L ow) (h : SysAt W sb gb nb pb mb' n cv D cbs tb own s) (hi : i < cbs.length) (hi2 : i < 1000000) (hm : m < 1000000) (ht : ∀ t, L i = some t → 5 ≤ t.stg) :
 Calls Tryz.prog 58 #[.pointer (some ⟨wb, 0, none⟩), .int .i64 i, .int .i64 tag] W (SwOpenP wb sb m cbs L ow i tag W) := by
 have hcore := ycore_any sb gb nb pb mb' n cv D cbs tb own s i _ h hi; have hl0 := hw.look i (by omega) (by omega); have c0 := hw.c0; have c1 := hw.c1; obtain ⟨pv, hl, hopen⟩ : ∃ pv, (Instr.lookup 126 (.map (some mb)) (.int .i64 i) false).run Tryz.prog W = .ok pv W ∧ Calls Tryz.prog 121 #[pv] W fun e w' => e = .returned (.bool false) ∧ W = w' := by
  cases hL : L i with
  | none => rw [hL] at hl0; exact ⟨_, hl0, open_none W⟩
  | some t =>
   rw [hL] at hl0; refine ⟨_, hl0, (open_some _ _ t W (hw.tries i t hL).2.at_).mono (fun e w' ⟨h1, h2⟩ => ⟨?_, h2⟩)⟩; rw [h1, decide_eq_false (by have := ht t hL; omega)]
 clear hl0; obtain ⟨a, c, hav⟩ : ∃ a c, av = .slice a m c := by
  rcases hw.row.2 with ⟨e, h0⟩ | ⟨g, cap, cur, e, _⟩
  · subst h0; exact ⟨_, _, e⟩
  · exact ⟨_, cap, e⟩
 subst hav; have c2 := hw.c2; have hnew := stnew_any cbs[i]! tag (1000 * m) W (by omega); obtain ⟨i0, hi0, hz0, hz1, hz2⟩ := info_parts info210; obtain ⟨cb, hcb⟩ : ∃ x, cbs[i]! = x := ⟨_, rfl⟩
 rw [hcb] at hcore hnew; have HCB := lH hcb; have HW := lH hw; have HI := lH hi; have HM := lH hm; clear hw h ht hi hcb; go_enter Tryz.func58, Tryz.ntmps58; go_wp2_with fail
 refine hcore.mono ?_; rintro e w1 ⟨rfl, rfl⟩; go_wp2_with fail
 refine hopen.mono ?_; rintro e w1 ⟨rfl, rfl⟩; go_wp2_with fail
 refine hnew.mono ?_; rintro e w1 (⟨hb, rfl, rfl⟩ | ⟨hg, b, rfl, hT, hbb, hB⟩)
 · have HB := lH hb; clear hb; go_wp2_with fail
   go_ret
   exact .inl ⟨HB.out, rfl, rfl⟩
 · have HG := lH hg; clear hg; have hw1 := HW.out.below hB; have c1' := hw1.c1; have hmap1 := hw1.map; obtain ⟨w2, hupd, m5, m6⟩ := hmap1.update (t := 126) (e := 210) keyed3 Tryz.underlying126 (by have := HW.out.cnt; have := HM.out; unfold maxLen; omega) (key3 (x := i) (by omega) (by omega)) (rptr_ptr b); have hwb := hw1.lt wb (by rw [hw1.owb]; simp); have hwm : wb ≠ mb := fun e => by have a := hw1.owb; rw [e, hw1.omb] at a; cases a
   have e2 : ∀ k, k < w1.heap.size → k ≠ mb → w2.heap[k]? = w1.heap[k]? := fun k hk hne => m6.block k hk (by simpa using hne); have c2' : w2.cell? ⟨wb, 2, none⟩ = some (.slice a m c) := (World.cell?_of_block (a := ⟨wb, 2, none⟩) (e2 wb hwb hwm)).trans hw1.c2; have hlv2 : w2.frozen? ⟨wb, 2, none⟩ = false := (World.frozen?_of_block (a := ⟨wb, 2, none⟩) (e2 wb hwb hwm)).trans (hw1.live 2)
   have hrow2 := ownsRow_same hw1.row (fun k hk => e2 k (hw1.lt k (by rw [hw1.rown k hk]; simp)) (fun e => by subst e; have a := hw1.rown k hk; rw [hw1.omb] at a; cases a)); have hwb2 : wb < w2.heap.size := Nat.lt_of_lt_of_le hwb m6.size; have hcvne : (Value.slice a m c).ownBlock ≠ some wb := fun e => by have := hw1.rown wb e; rw [hw1.owb] at this; cases this
   have H1 := lH hw1; have HT := lH hT; have HBB := lH hbb; have HB := lH hB; have M5 := lH m5; have M6 := lH m6; clear hw1 hmap1 m5 m6 hwb hwm e2 hT hbb hB; go_wp2_with (at_builtin; refine wpList_append_lies _ rfl _ _ 127 rfl 0 210 i0 (.pointer none) 1 8 Tryz.underlying127 hi0 hz0 hz1 hz2 rfl (by decide) (.slice a m c) m (ptrs tbs) rfl (hrow2.alloc _) ⟨w2.heap.size, 0, none⟩ 1 1 [.pointer (some ⟨b, 0, none⟩)] rfl rfl (World.news_of_block (cs := #[.pointer (some ⟨b, 0, none⟩)]) (t := 210) (fr := (0, 0)) (heap_alloc_new w2 _)) (by simp [Value.oneCell']) (by omega) (by unfold maxLen; omega) (by omega) (by simp) (w2.heap.size + 1) (by simp) ?_; intro g cap w4 hown4 hgrow4 hat4 hlt4; have hsb4 := hgrow4.cell (c2a (.cells #[.pointer (some ⟨b, 0, none⟩)] 210) c2') (fun e => hcvne e.symm); have hfr4 := (World.frozen?_of_block (a := ⟨wb, 2, none⟩) ((hgrow4.block wb (by simp; omega) (fun e => hcvne e.symm)).trans (Below.heap_alloc _ _ _ hwb2))).trans hlv2)
   have HADD := lH (HW.out.open_ (i := i) HB.out (by rw [HCB.out]; exact HT.out) HBB.out HI.out M5.out M6.out hgrow4 hown4 hat4); clear hown4 hgrow4 hat4 hlt4 hsb4 hfr4 hrow2 hcvne; go_ret
   obtain ⟨ow', tb', -, h1, h2, h3⟩ := HADD.out; exact .inr ⟨HG.out, rfl, _, _, _, _, _, _, _, h1, h2, h3⟩
end
section
attribute [local go_sem] Oper.semAt_some
theorem set_self_co (l : List Co) (i : Nat) (hi : i < l.length) : l.set i l[i]! = l := by
 rw [getElem!_pos l i hi]; simp
theorem Sw_ainv {W w1 : World} {wb sb m mb2 n2 : Nat} {s : Sy} {cbs tbs : List Nat} {L : Int → Option Tr} {own : Nat → Option Own} {ow ow' : Nat → Option OwnW} {i : Nat} {tag base : Int} {av : Value} {D2 : DataW Unit} {ttb : Int → Nat}
 (hy : ∃ gb nb pb mb n cv D tb, SysAt W sb gb nb pb mb n cv D cbs tb own s) (hwlt : ∀ k, ow k ≠ none → k < W.heap.size) (hd : ∀ k, ow k ≠ none → own k = none) (hw' : SwAt w1 wb sb mb2 n2 av D2 (m + 1) tbs ttb cbs (openL L i tag base) ow') (how : ∀ k, k < W.heap.size → ow' k = ow k) (hto : Touch (fun k => ow k ≠ none) W w1) (hi : i < cbs.length) :
 (∃ gb nb pb mb n cv D tb, SysAt w1 sb gb nb pb mb n cv D cbs tb own s) ∧ AInv W wb sb (m + 1) s cbs L own ow i s.cores[i]! tag base (ttb i) 6 w1 := by
 obtain ⟨gb, nb, pb, mb, n, cv, D, tb, hS⟩ := hy; have hS1 : SysAt w1 sb gb nb pb mb n cv D cbs tb own s := hS.same hto.size (fun k hk => hto.block k (hS.lt k hk) (fun e => hk (hd k e))); refine ⟨⟨gb, nb, pb, mb, n, cv, D, tb, hS1⟩, newTr tag base, s.cores[i]!, own, ow', ⟨gb, nb, pb, mb, n, cv, D, tb, ?_⟩, ⟨mb2, n2, av, D2, tbs, ttb, hw', rfl⟩, fun k hk => ?_, by simp [newTr], fun _ => ⟨rfl, rfl⟩, .inl rfl, by simp [newTr], hto.wider (fun k hk => .inr hk), fun k hk => ?_⟩
 · have : setCo s i s.cores[i]! = s := by
    unfold setCo; rw [set_self_co _ _ (by rw [← hS.num]; exact hi)]
   rw [this]; exact hS1
 · by_cases hl : k < W.heap.size
   · rw [how k hl] at hk; exact hd k hk
   · by_cases e : own k = none
     · exact e
     · exact absurd (hS.lt k e) hl
 · by_cases hl : k < W.heap.size
   · rw [how k hl] at hk; exact .inl hk
   · exact .inr (by omega)
end
theorem Both.below {W W' : World} {wb sb m : Nat} {s : Sy} {cbs : List Nat} {L : Int → Option Tr} {own : Nat → Option Own} {ow : Nat → Option OwnW} (h : Both W wb sb s m cbs L own ow) (hb : Below W.heap.size W W') : Both W' wb sb s m cbs L own ow := by
 obtain ⟨⟨gb, nb, pb, mb, n, cv, D, tb, hS⟩, ⟨mb2, n2, av, D2, tbs, ttb, hW⟩, hd⟩ := h; exact ⟨⟨gb, nb, pb, mb, n, cv, D, tb, hS.below hb⟩, ⟨mb2, n2, av, D2, tbs, ttb, hW.below hb⟩, hd⟩
theorem Both.lt {W : World} {wb sb m : Nat} {s : Sy} {cbs : List Nat} {L : Int → Option Tr} {own : Nat → Option Own} {ow : Nat → Option OwnW} (h : Both W wb sb s m cbs L own ow) : ∀ k, (own k ≠ none ∨ ow k ≠ none) → k < W.heap.size := by
 obtain ⟨⟨gb, nb, pb, mb, n, cv, D, tb, hS⟩, ⟨mb2, n2, av, D2, tbs, ttb, hW⟩, hd⟩ := h; exact fun k hk => hk.elim (hS.lt k) (hW.lt k)
theorem setCo_self (s : Sy) (i : Nat) (hi : i < s.cores.length) : setCo s i s.cores[i]! = s := by
 unfold setCo; rw [set_self_co _ _ hi]
end Go.Proofs.YtoiajjobecinpaaGreat
