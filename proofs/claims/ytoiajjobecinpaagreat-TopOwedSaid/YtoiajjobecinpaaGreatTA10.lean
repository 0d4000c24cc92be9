/- The least load. load: who may be told, and who moves. groups.Add. -/
import Derived.Shelf.SlicesQ.Load
import Derived.Test.YtoiajjobecinpaaGreatTA08
import Derived.Test.YtoiajjobecinpaaGreatTA09
set_option maxHeartbeats 4000000
namespace Go.Proofs.YtoiajjobecinpaaGreat
open Go.RowKit Go.Shelf Go.Lib Go.Proofs
set_option linter.unusedVariables false
set_option linter.unusedSimpArgs false
section
attribute [local go_sem] Oper.semAt_some
def lstep (loads : List Int) (a : Int × Bool) (x : G16) : Int × Bool :=
 if x.1 < loads.length ∧ (a.2 = false ∨ loads.getD x.1.toNat 0 < loads.getD a.1.toNat 0) then (x.1, true) else a
def leastL (loads : List Int) (m : Int) : Int × Bool := (listM m).foldl (lstep loads) (0, false)
theorem lstep_bd {loads : List Int} {a : Int × Bool} {x : G16} (h : a.2 = true → 0 ≤ a.1 ∧ a.1 < loads.length) (h' : (lstep loads a x).2 = true) : 0 ≤ (lstep loads a x).1 ∧ (lstep loads a x).1 < loads.length := by
 unfold lstep at h' ⊢; have := x.2; split at h' <;> rename_i hc
 · rw [if_pos hc]; exact ⟨this.1, hc.1⟩
 · rw [if_neg hc]; exact h h'
theorem lfold_bd {loads : List Int} : ∀ (xs : List G16) (a : Int × Bool), (a.2 = true → 0 ≤ a.1 ∧ a.1 < loads.length) → (xs.foldl (lstep loads) a).2 = true → 0 ≤ (xs.foldl (lstep loads) a).1 ∧ (xs.foldl (lstep loads) a).1 < loads.length
 | [], a, h => h
 | x :: xs, a, h => lfold_bd xs (lstep loads a x) (lstep_bd h)
set_option maxRecDepth 100000 in
theorem lleast_any (g c : Nat) (loads : List Int) (m : Int) (w : World) (hm : 0 ≤ m ∧ m < 65536) (hn : loads.length ≤ 16) (hcell : ∀ i, i < loads.length → w.cell? ⟨g, i, none⟩ = some (.int .i64 (loads.getD i 0))) :
 Calls Tryz.prog 150 #[.slice (some ⟨g, 0, none⟩) loads.length c, .int .u16 m] w fun e W' => e = .returned (.tuple #[.int .i64 (leastL loads m).1, .bool (leastL loads m).2]) ∧ Below w.heap.size w W' := by
 have h1 : 1 ≤ 5 := by omega
 refine callsIn_wide.1 (callsIn_of_wp_marks (n := 5) Tryz.func150 rfl trivial (wpIn_wide.2 ?_) rfl); simp only [Tryz.ntmps150, List.size_toArray, List.length_cons, List.length_nil, Nat.reduceAdd, Nat.reduceSub, Array.replicate_succ, Array.replicate_zero, List.push_toArray, List.append_toArray, List.nil_append, List.cons_append]; go_wp2_with (go_at_call 178; refine (mall_any m _).mono ?_; rintro e w' ⟨rfl, rfl⟩)
 have q0 := cell_new_l w (.slice (some ⟨g, 0, none⟩) loads.length c) 42; have q1 := cell_new_l (w.alloc (.cells #[.slice (some ⟨g, 0, none⟩) loads.length c] 42)) (.int .i64 0) 3; have q2 := cell_new_l ((w.alloc (.cells #[.slice (some ⟨g, 0, none⟩) loads.length c] 42)).alloc (.cells #[.int .i64 0] 3)) (.bool false) 4; have q3 := cell_new_l (((w.alloc (.cells #[.slice (some ⟨g, 0, none⟩) loads.length c] 42)).alloc (.cells #[.int .i64 0] 3)).alloc (.cells #[.bool false] 4)) (.int .u16 m) 58; have f1 := frozen_alloc_l (.cells #[.int .u16 m] 58) (c2a (.cells #[.bool false] 4) q1.1) (frozen_alloc_l (.cells #[.bool false] 4) q1.1 q1.2); have f2 := frozen_alloc_l (.cells #[.int .u16 m] 58) q2.1 q2.2; replace q0 := c2a (.cells #[.int .u16 m] 58) (c2a (.cells #[.bool false] 4) (c2a (.cells #[.int .i64 0] 3) q0.1)); replace q1 := c2a (.cells #[.int .u16 m] 58) (c2a (.cells #[.bool false] 4) q1.1); replace q2 := c2a (.cells #[.int .u16 m] 58) q2.1; replace q3 := q3.1; simp only [World.size_alloc] at q0 q1 q2 q3 f1 f2; have hB0 : Below w.heap.size w ((((w.alloc (.cells #[.slice (some ⟨g, 0, none⟩) loads.length c] 42)).alloc (.cells #[.int .i64 0] 3)).alloc (.cells #[.bool false] 4)).alloc (.cells #[.int .u16 m] 58)) := ((((Below.refl _ w).alloc (Nat.le_refl _) _).alloc (by simp) _).alloc (by simp; omega) _).alloc (by simp; omega) _; have hz : ((((w.alloc (.cells #[.slice (some ⟨g, 0, none⟩) loads.length c] 42)).alloc (.cells #[.int .i64 0] 3)).alloc (.cells #[.bool false] 4)).alloc (.cells #[.int .u16 m] 58)).heap.size = w.heap.size + 1 + 1 + 1 + 1 := by simp
 generalize (((w.alloc (.cells #[.slice (some ⟨g, 0, none⟩) loads.length c] 42)).alloc (.cells #[.int .i64 0] 3)).alloc (.cells #[.bool false] 4)).alloc (.cells #[.int .u16 m] 58) = W1 at q0 q1 q2 q3 f1 f2 hB0 hz ⊢; refine (wpIn_wide (n := 5)).1 (wpIn_rangeFunc_ownF rfl h1 (gf := 190) (lb := #[.pointer (some ⟨w.heap.size + 1 + 1 + 1, 0, none⟩)]) rfl trivial (enters_of Tryz.func190 (by kernel_rfl) rfl)
  (mall_stops (5 - 1) (by omega) (w.heap.size + 1 + 1 + 1) m hm W1 (by omega) q3) KpG.t (KpG.b (by omega) (by omega)) (Below.refl _ _) (fun _ => rfl)
  (fun pre W => (W1.heap.size ≤ W.heap.size ∧ W.cell? ⟨w.heap.size, 0, none⟩ = some (.slice (some ⟨g, 0, none⟩) loads.length c) ∧ (W.cell? ⟨w.heap.size + 1, 0, none⟩ = some (.int .i64 (pre.foldl (lstep loads) (0, false)).1) ∧ W.frozen? ⟨w.heap.size + 1, 0, none⟩ = false) ∧ (W.cell? ⟨w.heap.size + 1 + 1, 0, none⟩ = some (.bool (pre.foldl (lstep loads) (0, false)).2) ∧ W.frozen? ⟨w.heap.size + 1 + 1, 0, none⟩ = false)) ∧ Below w.heap.size w W)
  (fun _ _ _ => False)
  (OwnFrom.and (Own.from (fun s A B row hs hg hr => ⟨Nat.le_trans hs.1 hg.size, cell_kept hs.2.1 hg hr, ⟨cell_kept hs.2.2.1.1 hg hr, (frozen_kept hs.2.2.1.1 hg hr).trans hs.2.2.1.2⟩, ⟨cell_kept hs.2.2.2.1 hg hr, (frozen_kept hs.2.2.2.1 hg hr).trans hs.2.2.2.2⟩⟩) _) (ownFrom_below (Nat.le_refl _) (by omega)))
  (fun _ _ _ _ _ hs _ _ => hs)
  ⟨⟨Nat.le_refl _, q0, ⟨q1, f1⟩, ⟨q2, f2⟩⟩, hB0⟩
  (fun x => { tmps := #[Value.slice (some ⟨g, 0, none⟩) loads.length c, .int .u16 m, .pointer (some ⟨w.heap.size, 0, none⟩), undef, .int .i64 0, .bool false, .pointer (some ⟨w.heap.size + 1, 0, none⟩), .pointer (some ⟨w.heap.size + 1 + 1, 0, none⟩), .int .i64 x.1, .int .u16 m, .func (.func 190) #[] #[.pointer (some ⟨w.heap.size + 1 + 1 + 1, 0, none⟩)], .int .i64 x.1, undef, undef, undef, undef, undef, undef, undef, undef, undef, undef, undef, undef, undef, undef, undef, undef, undef, undef, undef, undef, undef, undef], defers := [] }) ?assign ?body ?done ?stop)
 case assign =>
  intro l x W K hK; gi_wp2
  simpa using hK
 case body =>
  rintro l pre ⟨x, hx0, hx1⟩ W ⟨⟨hwz, hk0, ⟨hb, hbf⟩, ⟨ho, hof⟩⟩, hB⟩ hpl; have e1 : 1 ≤ 5 - 1 - 1 := by omega
  have hbd := lfold_bd (loads := loads) pre (0, false) (by simp); have hfold : (pre ++ [(⟨x, hx0, hx1⟩ : G16)]).foldl (lstep loads) (0, false) = lstep loads (pre.foldl (lstep loads) (0, false)) ⟨x, hx0, hx1⟩ := by rw [List.foldl_append]; rfl
  obtain ⟨a, ha⟩ : ∃ a, pre.foldl (lstep loads) (0, false) = a := ⟨_, rfl⟩
  rw [ha] at hb ho hbd hfold; obtain ⟨k, rfl⟩ := Int.eq_ofNat_of_zero_le hx0; obtain ⟨best, ok⟩ := a; simp only at hb ho hbd; clear q0 q1 q2 q3 f1 f2; have hmx : Tryz.prog.follows .mixedOrders = true := by kernel_rfl
  obtain ⟨n, hn'⟩ : ∃ n, loads.length = n := ⟨_, rfl⟩
  by_cases hk : k < loads.length
  · cases ok with
    | false =>
     have hst : lstep loads (best, false) ⟨(k : Int), hx0, hx1⟩ = ((k : Int), true) := by unfold lstep; rw [if_pos ⟨by simp; omega, .inl rfl⟩]
     rw [hst] at hfold; have HF := lH hfold; rw [hn'] at hk0 ⊢; have hkn : (k : Int) < (n : Int) := by omega
     clear hst hfold ha hcell; gi_wp2
     refine wpIn_quiet_round rfl hmx (by kernel_rfl) (by kernel_rfl) ?_; repeat (gi_big_quiet_step (fail))
     refine wpQuietIn_nil ?_; intro _ hw'; obtain ⟨nq, hw''⟩ := hw'; subst hw''; have hd : Below W.heap.size W (W.drewN nq) := below_drewN (Below.refl _ _) _; have hb2 : (W.drewN nq).cell? ⟨w.heap.size + 1, 0, none⟩ = some (.int .i64 best) := hb; have ho2 : (W.drewN nq).cell? ⟨w.heap.size + 1 + 1, 0, none⟩ = some (.bool false) := ho; have hk2 : (W.drewN nq).cell? ⟨w.heap.size, 0, none⟩ = some (.slice (some ⟨g, 0, none⟩) n c) := hk0; have hbf2 : (W.drewN nq).frozen? ⟨w.heap.size + 1, 0, none⟩ = false := hbf; have hof2 : (W.drewN nq).frozen? ⟨w.heap.size + 1 + 1, 0, none⟩ = false := hof; have hz2 : W.heap.size ≤ (W.drewN nq).heap.size := hd.size; generalize W.drewN nq = W2 at hd hb2 ho2 hk2 hbf2 hof2 hz2 ⊢; gi_wp2
     refine ⟨(keeps_below hd).trans ((KeepsOthers.setCell _ _ _).trans (KeepsOthers.setCell _ _ _)), ⟨(Below.heap_setCell _ _ _ _ (by first | (simp; done) | (simp; omega))).trans ((Below.heap_setCell _ _ _ _ (by first | (simp; done) | (simp; omega))).trans (hd.block _ (by omega))), (Below.heap_setCell _ _ _ _ (by first | (simp; done) | (simp; omega))).trans ((Below.heap_setCell _ _ _ _ (by first | (simp; done) | (simp; omega))).trans (hd.block _ (by omega)))⟩, ⟨by simp; omega, ?_, ⟨?_, ?_⟩, ⟨?_, ?_⟩⟩, ?_⟩
     · rw [cell_setCell_ne _ (by first | (simp; done) | (simp; omega)), cell_setCell_ne _ (by first | (simp; done) | (simp; omega))]; exact hk2
     · rw [cell_setCell_ne _ (by simp), HF.out]; exact World.cell?_setCell_same _ _ _ hb2
     · rw [World.frozen?_setCell, World.frozen?_setCell]; exact hbf2
     · rw [HF.out]; exact World.cell?_setCell_same _ _ _ (by rw [cell_setCell_ne _ (by simp)]; exact ho2)
     · rw [World.frozen?_setCell, World.frozen?_setCell]; exact hof2
     · exact ((hB.trans (hd.mono hB.size)).setCell (p := ⟨w.heap.size + 1, 0, none⟩) (by simp) _).setCell (p := ⟨w.heap.size + 1 + 1, 0, none⟩) (by simp; omega) _
    | true =>
     obtain ⟨hb0, hb1⟩ := hbd rfl; obtain ⟨j, rfl⟩ := Int.eq_ofNat_of_zero_le hb0; have hck := (hB.cell (p := ⟨g, k, none⟩) (World.block_lt_of_cell? w _ (hcell k hk))).trans (hcell k hk)
     have hcj := (hB.cell (p := ⟨g, j, none⟩) (World.block_lt_of_cell? w _ (hcell j (by omega)))).trans (hcell j (by omega))
     have hst0 : lstep loads ((j : Int), true) ⟨(k : Int), hx0, hx1⟩ = if loads.getD k 0 < loads.getD j 0 then ((k : Int), true) else ((j : Int), true) := by
      unfold lstep; by_cases hlt : loads.getD k 0 < loads.getD j 0
      · rw [if_pos ⟨by simp; omega, .inr (by simpa using hlt)⟩, if_pos hlt]
      · rw [if_neg (fun hh => hh.2.elim (fun h3 => by cases h3) (fun h3 => hlt (by simpa using h3))), if_neg hlt]
     rw [hst0] at hfold; have HF := lH hfold; rw [hn'] at hk0 ⊢ hb1; have hkn : (k : Int) < (n : Int) := by omega
     clear hst0 hfold ha hbd hcell; generalize loads.getD k 0 = x at hck HF; generalize loads.getD j 0 = y at hcj HF; by_cases hlt : x < y
     · rw [if_pos hlt] at HF; gi_wp2
       refine wpIn_quiet_round rfl hmx (by kernel_rfl) (by kernel_rfl) ?_; repeat (gi_big_quiet_step (fail))
       refine wpQuietIn_nil ?_; intro _ hw'; obtain ⟨nq, hw''⟩ := hw'; subst hw''; have hd : Below W.heap.size W (W.drewN nq) := below_drewN (Below.refl _ _) _; have hb2 : (W.drewN nq).cell? ⟨w.heap.size + 1, 0, none⟩ = some (.int .i64 j) := hb; have ho2 : (W.drewN nq).cell? ⟨w.heap.size + 1 + 1, 0, none⟩ = some (.bool true) := ho; have hk2 : (W.drewN nq).cell? ⟨w.heap.size, 0, none⟩ = some (.slice (some ⟨g, 0, none⟩) n c) := hk0; have hbf2 : (W.drewN nq).frozen? ⟨w.heap.size + 1, 0, none⟩ = false := hbf; have hof2 : (W.drewN nq).frozen? ⟨w.heap.size + 1 + 1, 0, none⟩ = false := hof; have hz2 : W.heap.size ≤ (W.drewN nq).heap.size := hd.size; generalize W.drewN nq = W2 at hd hb2 ho2 hk2 hbf2 hof2 hz2 ⊢; gi_wp2
       refine ⟨(keeps_below hd).trans ((KeepsOthers.setCell _ _ _).trans (KeepsOthers.setCell _ _ _)), ⟨(Below.heap_setCell _ _ _ _ (by first | (simp; done) | (simp; omega))).trans ((Below.heap_setCell _ _ _ _ (by first | (simp; done) | (simp; omega))).trans (hd.block _ (by omega))), (Below.heap_setCell _ _ _ _ (by first | (simp; done) | (simp; omega))).trans ((Below.heap_setCell _ _ _ _ (by first | (simp; done) | (simp; omega))).trans (hd.block _ (by omega)))⟩, ⟨by simp; omega, ?_, ⟨?_, ?_⟩, ⟨?_, ?_⟩⟩, ?_⟩
       · rw [cell_setCell_ne _ (by first | (simp; done) | (simp; omega)), cell_setCell_ne _ (by first | (simp; done) | (simp; omega))]; exact hk2
       · rw [cell_setCell_ne _ (by simp), HF.out]; exact World.cell?_setCell_same _ _ _ hb2
       · rw [World.frozen?_setCell, World.frozen?_setCell]; exact hbf2
       · rw [HF.out]; exact World.cell?_setCell_same _ _ _ (by rw [cell_setCell_ne _ (by simp)]; exact ho2)
       · rw [World.frozen?_setCell, World.frozen?_setCell]; exact hof2
       · exact ((hB.trans (hd.mono hB.size)).setCell (p := ⟨w.heap.size + 1, 0, none⟩) (by simp) _).setCell (p := ⟨w.heap.size + 1 + 1, 0, none⟩) (by simp; omega) _
     · rw [if_neg hlt] at HF; have hle : y ≤ x := by omega
       gi_wp2
       refine wpIn_quiet_round rfl hmx (by kernel_rfl) (by kernel_rfl) ?_; repeat (gi_big_quiet_step (fail))
       refine wpQuietIn_nil ?_; intro _ hw'; obtain ⟨nq, hw''⟩ := hw'; subst hw''; have hd : Below W.heap.size W (W.drewN nq) := below_drewN (Below.refl _ _) _; have hb2 : (W.drewN nq).cell? ⟨w.heap.size + 1, 0, none⟩ = some (.int .i64 j) := hb; have ho2 : (W.drewN nq).cell? ⟨w.heap.size + 1 + 1, 0, none⟩ = some (.bool true) := ho; have hk2 : (W.drewN nq).cell? ⟨w.heap.size, 0, none⟩ = some (.slice (some ⟨g, 0, none⟩) n c) := hk0; have hbf2 : (W.drewN nq).frozen? ⟨w.heap.size + 1, 0, none⟩ = false := hbf; have hof2 : (W.drewN nq).frozen? ⟨w.heap.size + 1 + 1, 0, none⟩ = false := hof; have hz2 : W.heap.size ≤ (W.drewN nq).heap.size := hd.size; generalize W.drewN nq = W2 at hd hb2 ho2 hk2 hbf2 hof2 hz2 ⊢; gi_wp2
       refine ⟨keeps_below hd, kpg_below hd (by omega) (by omega), ⟨by omega, hk2, ⟨by rw [HF.out]; exact hb2, hbf2⟩, ⟨by rw [HF.out]; exact ho2, hof2⟩⟩, hB.trans (hd.mono hB.size)⟩
  · have hst : lstep loads (best, ok) ⟨(k : Int), hx0, hx1⟩ = (best, ok) := by unfold lstep; rw [if_neg (fun hh => by have := hh.1; simp at this; omega)]
    rw [hst] at hfold; have HF := lH hfold; rw [hn'] at hk0 ⊢; have hkn : decide ((k : Int) < (n : Int)) = false := decide_eq_false (by omega); have hkn2 : decide (k < n) = false := decide_eq_false (by omega); clear hst hfold ha hcell; gi_wp2
    refine wpIn_quiet_round rfl hmx (by kernel_rfl) (by kernel_rfl) ?_; repeat (gi_big_quiet_step (fail))
    refine wpQuietIn_nil ?_; intro _ hw'; obtain ⟨nq, hw''⟩ := hw'; subst hw''; have hd : Below W.heap.size W (W.drewN nq) := below_drewN (Below.refl _ _) _; have hb2 : (W.drewN nq).cell? ⟨w.heap.size + 1, 0, none⟩ = some (.int .i64 best) := hb; have ho2 : (W.drewN nq).cell? ⟨w.heap.size + 1 + 1, 0, none⟩ = some (.bool ok) := ho; have hk2 : (W.drewN nq).cell? ⟨w.heap.size, 0, none⟩ = some (.slice (some ⟨g, 0, none⟩) n c) := hk0; have hbf2 : (W.drewN nq).frozen? ⟨w.heap.size + 1, 0, none⟩ = false := hbf; have hof2 : (W.drewN nq).frozen? ⟨w.heap.size + 1 + 1, 0, none⟩ = false := hof; have hz2 : W.heap.size ≤ (W.drewN nq).heap.size := hd.size; generalize W.drewN nq = W2 at hd hb2 ho2 hk2 hbf2 hof2 hz2 ⊢; gi_wp2
    refine ⟨keeps_below hd, kpg_below hd (by omega) (by omega), ⟨by omega, hk2, ⟨by rw [HF.out]; exact hb2, hbf2⟩, ⟨by rw [HF.out]; exact ho2, hof2⟩⟩, hB.trans (hd.mono hB.size)⟩
 case done =>
  rintro D ys W hD rfl ⟨⟨hwz, hk0, ⟨hb, hbf⟩, ⟨ho, hof⟩⟩, hB⟩ hK; rw [show (listM m).foldl (lstep loads) (0, false) = leastL loads m from rfl] at hb ho; obtain ⟨x1, hx1⟩ : ∃ x, (leastL loads m).1 = x := ⟨_, rfl⟩
  obtain ⟨x2, hx2⟩ : ∃ x, (leastL loads m).2 = x := ⟨_, rfl⟩
  rw [hx1] at hb; rw [hx2] at ho; have HX1 := lH hx1; have HX2 := lH hx2; clear hx1 hx2; go_wp2_with fail
  go_quiet (fail)
  go_wp2_with fail
  have hK' : (W.drewN nq).heap[D]? = some (.deferred (some [])) := hK; have hB' : Below w.heap.size w (W.drewN nq) := below_drewN hB _; generalize W.drewN nq = W2 at hK' hB' ⊢; refine ⟨by simp, .inl ⟨_, _, rfl, run_takeDeferred hK', ?_⟩⟩; refine ⟨.tuple #[.int .i64 x1, .bool x2], ?_, by rw [HX1.out, HX2.out], hB'.trans (belowK_b (w := w) (Nat.le_refl _) _ D _ _ (by omega) hK' rfl rfl)⟩; simp [results, Tryz.f150, go_sem]
 case stop =>
  rintro D c pre W _ _ h _; exact h.elim
end
section
attribute [local go_sem] Oper.semAt_some
structure Lt where
 id : Int
 w : Int
 core : Int
 mask : Int
instance : Inhabited Lt := ⟨⟨0, 0, 0, 0⟩⟩
def LtsAt (W : World) (g : Nat) (l : List Lt) : Prop := ∀ k, k < l.length → W.cell? ⟨g, k * 4, none⟩ = some (.int .i64 l[k]!.id) ∧ W.cell? ⟨g, k * 4 + 1, none⟩ = some (.int .i64 l[k]!.w) ∧ W.cell? ⟨g, k * 4 + 2, none⟩ = some (.int .i64 l[k]!.core) ∧ W.cell? ⟨g, k * 4 + 3, none⟩ = some (.int .u16 l[k]!.mask)
theorem LtsAt.below {W W' : World} {g : Nat} {l : List Lt} (h : LtsAt W g l) (hb : Below W.heap.size W W') (hg : g < W.heap.size) : LtsAt W' g l := fun k hk => by
 have e := hb.block g hg; obtain ⟨h1, h2, h3, h4⟩ := h k hk; exact ⟨(World.cell?_of_block e).trans h1, (World.cell?_of_block e).trans h2, (World.cell?_of_block e).trans h3, (World.cell?_of_block e).trans h4⟩
set_option maxRecDepth 100000 in
theorem may_ok (g c N gl cl M : Nat) (p : Option Addr) (xs : List Int) (l : List Lt) (W : World) (hN : xs.length = N) (hM : l.length = M) (hx : ∀ i, i < N → W.cell? ⟨g, i, none⟩ = some (.int .i64 (xs.getD i 0))) (hxs : ∀ i, i < N → 0 ≤ xs.getD i 0 ∧ xs.getD i 0 ≤ 1099511627776)
 (hl : LtsAt W gl l) (hls : ∀ k, k < M → 1 ≤ l[k]!.w ∧ l[k]!.w ≤ 20 ∧ 0 ≤ l[k]!.core ∧ l[k]!.core < N) (h1 : N < 1000000) (h2 : M < 1000000) (hg : 0 < M → p = some ⟨gl, 0, none⟩ ∧ gl < W.heap.size) :
 Calls Tryz.prog 161 #[.slice (some ⟨g, 0, none⟩) N c, .slice p M cl] W fun e w' => e = .returned (.bool true) ∧ Below W.heap.size W w' := by
 have HX := lH hx; have HXS := lH hxs; have HL := lH hl; have HLS := lH hls; have HN := lH hN; have HM := lH hM; have HG := lH hg; clear hx hxs hl hls hN hM hg; go_enter Tryz.func161, Tryz.ntmps161; go_wp2_with fail
 go_loop [11] (fun x => ∃ k : Nat, k ≤ N ∧ x = .int .i64 (k : Int)) (fun i => N - (intOf i).toNat)
 case atStart => exact ⟨0, by omega, rfl⟩
 case round =>
  obtain ⟨k, hk, rfl⟩ := hrel; by_cases hkn : k < N
  · have c1 := HX.out k (by omega); have c2 := HXS.out k (by omega); generalize xs.getD k 0 = y at c1 c2; obtain ⟨y1, y2⟩ := c2; have k1 : (k : Int) < (N : Int) := by omega
    have k0 : 0 ≤ (k : Int) := by omega
    go_wp2_with fail
    go_round
    case rel => exact ⟨k + 1, by omega, by go_num⟩
    case measure => simp [intOf]; omega
  · obtain rfl : k = N := by omega
    go_wp2_with fail
    go_loopw [24] (fun x wr => ∃ q : Nat, q ≤ M ∧ x = .int .i64 (q : Int) ∧ Hid (Below W.heap.size W wr)) (fun i _ => M - (intOf i).toNat)
    case atStart => exact ⟨0, by omega, rfl, lH (Below.refl _ _)⟩
    case round =>
     obtain ⟨q, hq, rfl, HB⟩ := hrel; by_cases hqm : q < M
     · obtain ⟨hp, hg⟩ := HG.out (by omega); subst hp; obtain ⟨a0, a1, a2, a3⟩ := (HL.out.below HB.out hg) q (by rw [HM.out]; exact hqm); obtain ⟨b1, b2, b3, b4⟩ := HLS.out q hqm; generalize l[q]!.id = z0 at a0; generalize l[q]!.w = z1 at a1 b1 b2; generalize l[q]!.core = z2 at a2 b3 b4; generalize l[q]!.mask = z3 at a3; have k1 : (q : Int) < (M : Int) := by omega
       have k0 : 0 ≤ (q : Int) := by omega
       have n1 : ¬ z1 < 1 := by omega
       have n2 : ¬ 20 < z1 := by omega
       have n3 : ¬ z2 < 0 := by omega
       have n4 : ¬ (k : Int) ≤ z2 := by omega
       have hbz := HB.out.size; go_wp2_with fail
       go_roundw
       case rel => exact ⟨q + 1, by omega, by go_num, lH (HB.out.alloc hbz _)⟩
       case measure => simp [intOf]; omega
     · obtain rfl : q = M := by omega
       go_wp2_with fail
       go_ret
       exact ⟨rfl, HB.out⟩
def dropM (m : Int) (c : Nat) : Int := bits .andNot .u16 m (2 ^ c)
def mvStep (xs : List Int) (l : List Lt) (fr : Int) (a : Int × Int × Bool) (k : Nat) : Int × Int × Bool :=
 if l[k]!.core = fr ∧ (leastL xs (dropM l[k]!.mask l[k]!.core.toNat)).2 = true ∧ xs.getD (leastL xs (dropM l[k]!.mask l[k]!.core.toNat)).1.toNat 0 + l[k]!.w < xs.getD fr.toNat 0 ∧ (a.2.2 = false ∨ l[a.1.toNat]!.w < l[k]!.w)
 then ((k : Int), (leastL xs (dropM l[k]!.mask l[k]!.core.toNat)).1, true) else a
def mvTo (xs : List Int) (l : List Lt) (fr : Int) : Nat → Int × Int × Bool
 | 0 => (0, 0, false)
 | k + 1 => mvStep xs l fr (mvTo xs l fr k) k
theorem mvTo_bd (xs : List Int) (l : List Lt) (fr : Int) : ∀ k, (mvTo xs l fr k).2.2 = true → 0 ≤ (mvTo xs l fr k).1 ∧ (mvTo xs l fr k).1 < k
 | 0, h => by cases h
 | k + 1, h => by
  have ih := mvTo_bd xs l fr k; unfold mvTo at h ⊢; unfold mvStep at h ⊢; split
  · simp only; omega
  · rename_i hn; rw [if_neg hn] at h; have := ih h; omega
theorem andNot_bd (m : Int) (c : Nat) (hm : 0 ≤ m ∧ m < 65536) : 0 ≤ dropM m c ∧ dropM m c < 65536 := by
 have hw : ∀ n, IntKind.u16.wrap n = n % 65536 := fun n => by simp [IntKind.wrap, IntKind.bits, IntKind.signed]
 unfold dropM bits; simp only [hw]; omega
theorem maxTo_mem (xs : List Int) : ∀ k, k < xs.length → ∃ j, j ≤ k ∧ xs.getD j 0 = maxTo xs k
 | 0, h => ⟨0, Nat.le_refl _, rfl⟩
 | k + 1, h => by
  obtain ⟨j, hj, e⟩ := maxTo_mem xs k (by omega); by_cases hm : maxTo xs k ≤ xs.getD (k + 1) 0
  · exact ⟨k + 1, Nat.le_refl _, by show _ = max _ _; rw [Int.max_def, if_pos hm]⟩
  · exact ⟨j, by omega, by show _ = max _ _; rw [Int.max_def, if_neg hm]; exact e⟩
theorem mostL_bd (xs : List Int) (h : 1 ≤ xs.length) : 0 ≤ mostL xs ∧ mostL xs < xs.length := by
 obtain ⟨j, hj, e⟩ := maxTo_mem xs (xs.length - 1) (by omega); unfold mostL idxL; cases hf : xs.findIdx? (fun x => x == maxTo xs (xs.length - 1)) with
 | some i =>
  have := (List.findIdx?_eq_some_iff_findIdx_eq.1 hf).1; simp only; omega
 | none =>
  have := List.findIdx?_eq_none_iff.1 hf (xs.getD j 0) (by rw [List.getD_eq_getElem?_getD, List.getElem?_eq_getElem (by omega)]; exact List.getElem_mem _); rw [e] at this; simp at this
set_option maxRecDepth 100000 in
theorem lmove_any (g c N gl cl M : Nat) (p : Option Addr) (xs : List Int) (l : List Lt) (W : World) (hN : xs.length = N) (hM : l.length = M) (hx : ∀ i, i < N → W.cell? ⟨g, i, none⟩ = some (.int .i64 (xs.getD i 0))) (hxs : ∀ i, i < N → 0 ≤ xs.getD i 0 ∧ xs.getD i 0 ≤ 1099511627776)
 (hl : LtsAt W gl l) (hls : ∀ k, k < M → 1 ≤ l[k]!.w ∧ l[k]!.w ≤ 20 ∧ 0 ≤ l[k]!.core ∧ l[k]!.core < N) (hms : ∀ k, k < M → 0 ≤ l[k]!.mask ∧ l[k]!.mask < 65536) (h0 : 1 ≤ N) (h1 : N ≤ 16) (h2 : M < 1000000) (hg : 0 < M → p = some ⟨gl, 0, none⟩ ∧ gl < W.heap.size) (hgx : g < W.heap.size) :
 Calls Tryz.prog 162 #[.slice (some ⟨g, 0, none⟩) N c, .slice p M cl] W fun e w' => e = .returned (.tuple #[.int .i64 (mvTo xs l (mostL xs) M).1, .int .i64 (mvTo xs l (mostL xs) M).2.1, .bool (mvTo xs l (mostL xs) M).2.2]) ∧ Below W.heap.size W w' := by
 have hmost := most_any g c N xs W hN h0 hx (by omega); have hbd := mostL_bd xs (by omega); rw [hN] at hbd; obtain ⟨fr, hfr⟩ := Int.eq_ofNat_of_zero_le hbd.1; rw [hfr] at hmost hbd ⊢; have HX := lH hx; have HXS := lH hxs; have HL := lH hl; have HLS := lH hls; have HMS := lH hms; have HN := lH hN; have HM := lH hM; have HBD := lH hbd; have HG := lH hg; clear hg hx hxs hl hls hms hN hM hfr hbd; go_enter Tryz.func162, Tryz.ntmps162; go_wp2_with fail
 refine hmost.mono ?_; rintro e w' ⟨rfl, rfl⟩; clear hmost; go_wp2_with fail
 go_loopw [4, 5, 6, 22] (fun x4 x5 x6 x wr => ∃ (k : Nat) (at1 to1 : Int) (ok : Bool), k ≤ M ∧ x = .int .i64 (k : Int) ∧ x4 = .int .i64 at1 ∧ x5 = .int .i64 to1 ∧ x6 = .bool ok ∧ Hid (mvTo xs l fr k = (at1, to1, ok)) ∧ Hid (Below W.heap.size W wr)) (fun _ _ _ i _ => M - (intOf i).toNat)
 case atStart => exact ⟨0, 0, 0, false, by omega, rfl, rfl, rfl, rfl, lH rfl, lH (Below.refl _ _)⟩
 case round =>
  obtain ⟨k, at1, to1, ok, hk, rfl, rfl, rfl, rfl, HACC, HB⟩ := hrel; by_cases hkm : k < M
  · obtain ⟨hp, hg⟩ := HG.out (by omega); subst hp; have hcells := (HL.out.below HB.out hg)
    obtain ⟨a0, a1, a2, a3⟩ := hcells k (by rw [HM.out]; exact hkm); obtain ⟨b1, b2, b3, b4⟩ := HLS.out k hkm; have hmk := HMS.out k hkm; have hbt := mvTo_bd xs l fr k; have hnx : mvTo xs l fr (k + 1) = mvStep xs l fr (mvTo xs l fr k) k := rfl; have hacc := HACC.out; rw [hacc] at hnx hbt; simp only at hbt; unfold mvStep at hnx; simp only at hnx; obtain ⟨cn, hcn⟩ := Int.eq_ofNat_of_zero_le b3; have hcn16 : cn < 16 := by omega
    have hcnt : l[k]!.core.toNat = cn := by omega
    rw [hcnt] at hnx; have hdm := andNot_bd l[k]!.mask cn hmk; have hlb := lfold_bd (loads := xs) (listM (dropM l[k]!.mask cn)) (0, false) (by simp); have hle : leastL xs (dropM l[k]!.mask cn) = (listM (dropM l[k]!.mask cn)).foldl (lstep xs) (0, false) := rfl; rw [← hle] at hlb; have hleast := fun W' h' => lleast_any g c xs (dropM l[k]!.mask cn) W' hdm (by rw [HN.out]; exact h1) h'; rw [HN.out] at hleast hlb; obtain ⟨⟨r1, r2⟩, hr⟩ : ∃ r, leastL xs (dropM l[k]!.mask cn) = r := ⟨_, rfl⟩
    rw [hr] at hnx hlb hleast; simp only at hnx hlb hleast; have hbz := HB.out.size; have hwz : ∀ i, i < N → wr.cell? ⟨g, i, none⟩ = some (.int .i64 (xs.getD i 0)) := fun i hi => (HB.out.cell (p := ⟨g, i, none⟩) hgx).trans (HX.out i hi)
    have HWZ := lH hwz; have HCE := lH hcells; have HNX := lH hnx; have HBT := lH hbt; have HLB := lH hlb; have HCN := lH hcn; rw [hcn] at a2; obtain ⟨z0, hz0⟩ : ∃ x, l[k]!.id = x := ⟨_, rfl⟩
    obtain ⟨z1, hz1⟩ : ∃ x, l[k]!.w = x := ⟨_, rfl⟩
    obtain ⟨z3, hz3⟩ : ∃ x, l[k]!.mask = x := ⟨_, rfl⟩
    rw [hz0] at a0; rw [hz1] at a1 b1 b2; rw [hz3] at a3 hleast; rw [hz1, hcn] at HNX; clear hmk hnx hbt hacc hcnt hdm hlb hle hr hcells hwz hcn b3 b4 hz0 hz1 hz3; have k1 : (k : Int) < (M : Int) := by omega
    have k0 : 0 ≤ (k : Int) := by omega
    have hHL : Hid (∀ W', (∀ i, i < N → W'.cell? ⟨g, i, none⟩ = some (.int .i64 (xs.getD i 0))) → Calls Tryz.prog 150 #[.slice (some ⟨g, 0, none⟩) N c, .int .u16 (bits .andNot .u16 z3 (2 ^ cn))] W' fun e w' => e = .returned (.tuple #[.int .i64 r1, .bool r2]) ∧ Below W'.heap.size W' w') := lH hleast; clear hleast; go_wp2_with fail
    obtain ⟨W0, hW0⟩ : ∃ x, wr.alloc (.cells #[.int .i64 z0, .int .i64 z1, .int .i64 cn, .int .u16 z3] 207) = x := ⟨_, rfl⟩
    have hn0 := heap_alloc_new wr (.cells #[.int .i64 z0, .int .i64 z1, .int .i64 cn, .int .u16 z3] 207); have hB0 : Below wr.heap.size wr (wr.alloc (.cells #[.int .i64 z0, .int .i64 z1, .int .i64 cn, .int .u16 z3] 207)) := (Below.refl _ wr).alloc (Nat.le_refl _) _; have hs0 : (wr.alloc (.cells #[.int .i64 z0, .int .i64 z1, .int .i64 cn, .int .u16 z3] 207)).heap.size = wr.heap.size + 1 := by simp
    rw [hW0] at hn0 hB0 hs0 ⊢; have d1 : W0.cell? ⟨wr.heap.size, 1, none⟩ = some (.int .i64 z1) := by simp [World.cell?, hn0]
    have d2 : W0.cell? ⟨wr.heap.size, 2, none⟩ = some (.int .i64 cn) := by simp [World.cell?, hn0]
    have d3 : W0.cell? ⟨wr.heap.size, 3, none⟩ = some (.int .u16 z3) := by simp [World.cell?, hn0]
    clear hW0 hn0 a0 a1 a2 a3; obtain ⟨e8, -⟩ := cell_new_l W0 (.int .i64 cn) 3; have hB8 : Below wr.heap.size wr (W0.alloc (.cells #[.int .i64 cn] 3)).drew := (hB0.alloc (by omega) _).drew; have hz8 : (W0.alloc (.cells #[.int .i64 cn] 3)).drew.heap.size = wr.heap.size + 1 + 1 := by show (W0.alloc _).heap.size = _; simp; omega
    rw [hs0] at e8; have hS8 : (W0.alloc (.cells #[.int .i64 cn] 3)).drew.cell? ⟨wr.heap.size, 3, none⟩ = some (.int .u16 z3) ∧ (W0.alloc (.cells #[.int .i64 cn] 3)).drew.cell? ⟨wr.heap.size, 2, none⟩ = some (.int .i64 cn) := ⟨c2a _ d3, c2a _ d2⟩
    have hd8 : (W0.alloc (.cells #[.int .i64 cn] 3)).drew.cell? ⟨wr.heap.size, 1, none⟩ = some (.int .i64 z1) := c2a _ d1; have h184 := mof_any (wr.heap.size + 1) 1 cn (W0.alloc (.cells #[.int .i64 cn] 3)).drew hcn16 e8; have h150 := hHL.out (W0.alloc (.cells #[.int .i64 cn] 3)).drew (fun i hi => (hB8.cell (p := ⟨g, i, none⟩) (by show g < wr.heap.size; omega)).trans (HWZ.out i hi)); clear hHL e8; go_region_held3 (fun W2 => W2.cell? ⟨wr.heap.size, 3, none⟩ = some (.int .u16 z3) ∧ W2.cell? ⟨wr.heap.size, 2, none⟩ = some (.int .i64 cn)) (first | exact ⟨d3, d2⟩ | exact hS8 | exact hS9) (first | (go_at_call 184; refine h184.mono ?_; rintro e w8 ⟨rfl, rfl⟩) | (go_at_call 150; refine h150.mono ?_; rintro e w9 ⟨rfl, hb9⟩; have hS9 := And.intro ((hb9.cell (p := ⟨wr.heap.size, 3, none⟩) (by show wr.heap.size < _; omega)).trans hS8.1) ((hb9.cell (p := ⟨wr.heap.size, 2, none⟩) (by show wr.heap.size < _; omega)).trans hS8.2)) | fail)
    have hB9 : Below W.heap.size W w9 := HB.out.trans ((hB8.trans (hb9.mono hB8.size)).mono hbz)
    have hd9 := (hb9.cell (p := ⟨wr.heap.size, 1, none⟩) (by show wr.heap.size < _; omega)).trans hd8; have hx9 : ∀ i, i < N → w9.cell? ⟨g, i, none⟩ = some (.int .i64 (xs.getD i 0)) := fun i hi => (hB9.cell (p := ⟨g, i, none⟩) hgx).trans (HX.out i hi)
    have hl9 := HL.out.below hB9 hg; have HB9 := lH hB9; have d9 := hS9.2; have hfrN : fr < N := by have := HBD.out.2; omega
    have cfr := hx9 fr hfrN; have bfr := HXS.out fr hfrN; obtain ⟨yf, hyf⟩ : ∃ y, xs.getD fr 0 = y := ⟨_, rfl⟩
    rw [hyf] at cfr bfr; have hyf2 : xs.getD (fr : Int).toNat 0 = yf := hyf; rw [hyf2] at HNX; have hf1 : (fr : Int) < (N : Int) := by omega
    have hf0 : 0 ≤ (fr : Int) := by omega
    clear hb9 hB9 hS8 hd8 h184 h150 hS9 d1 d2 d3 hyf hyf2 hB8 hz8 hB0 hs0; by_cases hcf : (cn : Int) = (fr : Int)
    · cases r2 with
      | false =>
       clear hx9 hl9; have HRES : Hid (mvTo xs l fr (k + 1) = (at1, to1, ok)) := lH (HNX.out.trans (if_neg (fun h => by cases h.2.1))); clear HNX; go_wp2_with fail
       go_quiet (fail)
       go_wp2_with fail
       go_roundw
       case rel => exact ⟨k + 1, at1, to1, ok, by omega, by go_num, rfl, rfl, rfl, HRES, lH (HB9.out.trans (below_dN _ w9 _))⟩
       case measure => simp [intOf]; omega
      | true =>
       obtain ⟨l1, l2⟩ := HLB.out rfl; obtain ⟨rn, hrn⟩ := Int.eq_ofNat_of_zero_le l1; subst hrn; have hrN : rn < N := by omega
       have cr := hx9 rn hrN; have br := HXS.out rn hrN; obtain ⟨yr, hyr⟩ : ∃ y, xs.getD rn 0 = y := ⟨_, rfl⟩
       rw [hyr] at cr br; have hyr2 : xs.getD (rn : Int).toNat 0 = yr := hyr; rw [hyr2] at HNX; have hr1 : (rn : Int) < (N : Int) := by omega
       clear hyr hyr2 hx9; by_cases hlt : yr + z1 < yf
       · cases ok with
         | false =>
          clear hl9; have HRES : Hid (mvTo xs l fr (k + 1) = ((k : Int), (rn : Int), true)) := lH (HNX.out.trans (if_pos ⟨hcf, rfl, hlt, .inl rfl⟩)); clear HNX; go_wp2_with fail
          go_quiet (fail)
          go_wp2_with fail
          go_roundw
          case rel => exact ⟨k + 1, (k : Int), (rn : Int), true, by omega, by go_num, rfl, rfl, rfl, HRES, lH (HB9.out.trans (below_dN _ w9 _))⟩
          case measure => simp [intOf]; omega
         | true =>
          obtain ⟨t1, t2⟩ := HBT.out rfl; obtain ⟨an, han⟩ := Int.eq_ofNat_of_zero_le t1; subst han; obtain ⟨-, ca, -, -⟩ := hl9 an (by rw [HM.out]; omega); obtain ⟨wa, hwa⟩ : ∃ x, l[an]!.w = x := ⟨_, rfl⟩
          rw [hwa] at ca; have hwa2 : l[(an : Int).toNat]!.w = wa := hwa; rw [hwa2] at HNX; have ha1 : (an : Int) < (M : Int) := by omega
          clear hl9 hwa hwa2; by_cases hgt : wa < z1
          · have HRES : Hid (mvTo xs l fr (k + 1) = ((k : Int), (rn : Int), true)) := lH (HNX.out.trans (if_pos ⟨hcf, rfl, hlt, .inr hgt⟩)); clear HNX; go_wp2_with fail
            go_quiet (fail)
            go_wp2_with fail
            go_roundw
            case rel => exact ⟨k + 1, (k : Int), (rn : Int), true, by omega, by go_num, rfl, rfl, rfl, HRES, lH (HB9.out.trans (below_dN _ w9 _))⟩
            case measure => simp [intOf]; omega
          · have HRES : Hid (mvTo xs l fr (k + 1) = ((an : Int), to1, true)) := lH (HNX.out.trans (if_neg (fun h => h.2.2.2.elim (fun h => by cases h) hgt))); clear HNX; go_wp2_with fail
            go_quiet (fail)
            go_wp2_with fail
            go_roundw
            case rel => exact ⟨k + 1, (an : Int), to1, true, by omega, by go_num, rfl, rfl, rfl, HRES, lH (HB9.out.trans (below_dN _ w9 _))⟩
            case measure => simp [intOf]; omega
       · clear hl9; have hlt2 : decide (yr + z1 < yf) = false := decide_eq_false hlt; have hlt3 : yf ≤ yr + z1 := by omega
         have HRES : Hid (mvTo xs l fr (k + 1) = (at1, to1, ok)) := lH (HNX.out.trans (if_neg (fun h => hlt h.2.2.1))); clear HNX; go_wp2_with fail
         go_quiet (fail)
         go_wp2_with fail
         go_roundw
         case rel => exact ⟨k + 1, at1, to1, ok, by omega, by go_num, rfl, rfl, rfl, HRES, lH (HB9.out.trans (below_dN _ w9 _))⟩
         case measure => simp [intOf]; omega
    · clear hx9 hl9; have hcf2 : ((cn : Int) == (fr : Int)) = false := by simpa using hcf
      have hcf3 : decide ((cn : Int) = (fr : Int)) = false := decide_eq_false hcf; have HRES : Hid (mvTo xs l fr (k + 1) = (at1, to1, ok)) := lH (HNX.out.trans (if_neg (fun h => hcf h.1))); clear HNX; go_wp2_with fail
      go_quiet (fail)
      go_wp2_with fail
      go_roundw
      case rel => exact ⟨k + 1, at1, to1, ok, by omega, by go_num, rfl, rfl, rfl, HRES, lH (HB9.out.trans (below_dN _ w9 _))⟩
      case measure => simp [intOf]; omega
  · obtain rfl : k = M := by omega
    go_wp2_with fail
    go_ret3
    rw [HACC.out]; exact ⟨rfl, HB.out⟩
end
section
attribute [local go_sem] Oper.semAt_some
theorem gadd_none (gb : Nat) (gs : List (Bool × Int)) (up : Int) (W : World) (h : GroupsAt W gb gs) (hh : hasG gs up = false) :
 Calls Tryz.prog 98 #[.pointer (some ⟨gb, 0, none⟩), .int .i64 up] W fun e w' => e = .returned (.tuple #[.int .i64 0, .int .i64 2]) ∧ W = w' := by
 have hhas := has_any gb gs up W h; rw [hh] at hhas; clear h hh; go_enter Tryz.func98, Tryz.ntmps98; go_wp2_with fail
 refine hhas.mono ?_; rintro e w' ⟨rfl, rfl⟩; go_wp2_with fail
 go_ret2
 exact ⟨rfl, rfl⟩
theorem gadd_deep (gb : Nat) (gs : List (Bool × Int)) (up : Int) (xs : List G16) (W : World) (h : GroupsAt W gb gs) (hL : IsPath gs up xs) (hne : hasG gs up = true) (hlen : 4 ≤ xs.length) (h1000 : xs.length ≤ 1000) :
 Calls Tryz.prog 98 #[.pointer (some ⟨gb, 0, none⟩), .int .i64 up] W fun e w' => e = .returned (.tuple #[.int .i64 0, .int .i64 6]) ∧ Below W.heap.size W w' := by
 have hhas := has_any gb gs up W h; have hdep := depth_any gb gs up xs W h hL h1000; rw [hne] at hhas; clear h hL hne; obtain ⟨n, hn⟩ : ∃ n, xs.length = n := ⟨_, rfl⟩
 rw [hn] at hdep hlen; have g1 : 4 ≤ (n : Int) := by omega
 clear hn; go_enter Tryz.func98, Tryz.ntmps98; go_wp2_with fail
 refine hhas.mono ?_; rintro e w' ⟨rfl, rfl⟩; go_wp2_with fail
 refine hdep.mono ?_; rintro e w1 ⟨rfl, hb1⟩; have HB := lH hb1; clear hb1 hdep; go_wp2_with fail
 go_ret2
 exact ⟨rfl, HB.out⟩
def gaddP (gs : List (Bool × Int)) (up : Int) : Int × Int × List (Bool × Int) :=
 match gs.findIdx? (fun p => !p.1) with
 | some i => ((i : Int), 0, gs.set i (true, up))
 | none => (0, 3, gs)
theorem gadd_at {gs : List (Bool × Int)} {up : Int} {k : Nat} (hk : k < gs.length) (h : ∀ j, j < k → (gs.getD j default).1 = true) (hf : (gs.getD k default).1 = false) : gaddP gs up = ((k : Int), 0, gs.set k (true, up)) := by
 have hfi : gs.findIdx? (fun p => !p.1) = some k := by
  rw [List.findIdx?_eq_some_iff_getElem]; have hg : ∀ j (hj : j < gs.length), gs.getD j default = gs[j] := fun j hj => by rw [List.getD_eq_getElem?_getD, List.getElem?_eq_getElem hj]; rfl
  refine ⟨hk, by rw [← hg k hk, hf]; rfl, fun j hj => ?_⟩; rw [← hg j (by omega), h j hj]; simp
 unfold gaddP; rw [hfi]
theorem gadd_full {gs : List (Bool × Int)} {up : Int} (h : ∀ j, j < gs.length → (gs.getD j default).1 = true) : gaddP gs up = (0, 3, gs) := by
 have hfi : gs.findIdx? (fun p => !p.1) = none := by
  rw [List.findIdx?_eq_none_iff]; intro x hx; obtain ⟨j, hj, rfl⟩ := List.mem_iff_getElem.1 hx; have := h j hj; rw [List.getD_eq_getElem?_getD, List.getElem?_eq_getElem hj] at this; simpa using this
 unfold gaddP; rw [hfi]
theorem GroupsAt.set {W : World} {gb : Nat} {gs : List (Bool × Int)} (h : GroupsAt W gb gs) (k : Nat) (hk : k < 16) (a : Bool) (u : Int) :
 GroupsAt ((W.setCell ⟨gb, k * 2, none⟩ (.bool a)).setCell ⟨gb, k * 2 + 1, none⟩ (.int .i64 u)) gb (gs.set k (a, u)) := by
 have hl := h.len; have hg : ∀ i, i < 16 → (gs.set k (a, u)).getD i default = if i = k then (a, u) else gs.getD i default := fun i hi => by
  simp only [List.getD_eq_getElem?_getD, List.getElem?_set]; by_cases e : i = k
  · subst e; rw [if_pos rfl, if_pos rfl, if_pos (by omega)]; rfl
  · rw [if_neg (fun e2 => e e2.symm), if_neg e]
 refine ⟨by simpa using hl, fun i hi => ?_, fun i hi => ?_, fun i => ?_⟩
 · rw [hg i hi, cell_setCell_ne _ (fun e => by have := congrArg Addr.off e; simp at this; omega)]; by_cases e : i = k
   · subst e; rw [if_pos rfl]; exact World.cell?_setCell_same _ _ _ (h.there i hi)
   · rw [if_neg e, cell_setCell_ne _ (fun e2 => by have := congrArg Addr.off e2; simp at this; omega)]; exact h.there i hi
 · rw [hg i hi]; by_cases e : i = k
   · subst e; rw [if_pos rfl]; exact World.cell?_setCell_same _ _ _ ((cell_setCell_ne _ (fun e2 => by have := congrArg Addr.off e2; simp at this)).trans (h.up i hi))
   · rw [if_neg e, cell_setCell_ne _ (fun e2 => by have := congrArg Addr.off e2; simp at this; omega), cell_setCell_ne _ (fun e2 => by have := congrArg Addr.off e2; simp at this; omega)]; exact h.up i hi
 · rw [World.frozen?_setCell, World.frozen?_setCell]; exact h.live i
def flatG (gs : List (Bool × Int)) : List Value := gs.flatMap fun p => [.bool p.1, .int .i64 p.2]
theorem flatG_len (gs : List (Bool × Int)) : (flatG gs).length = gs.length * 2 := by
 induction gs with
 | nil => rfl
 | cons a b ih => simp only [flatG, List.flatMap_cons, List.length_append] at ih ⊢; rw [ih]; simp; omega
theorem flatG_get : ∀ (gs : List (Bool × Int)) (k : Nat), k < gs.length → (flatG gs)[k * 2]? = some (.bool (gs.getD k default).1) ∧ (flatG gs)[k * 2 + 1]? = some (.int .i64 (gs.getD k default).2)
 | [], k, h => by simp at h
 | p :: l, 0, _ => by simp [flatG]
 | p :: l, k + 1, h => by
  have ih := flatG_get l k (by simpa using h); have e : flatG (p :: l) = [.bool p.1, .int .i64 p.2] ++ flatG l := by simp [flatG]
  rw [e, List.getElem?_append_right (by simp; omega), List.getElem?_append_right (by simp; omega)]; simp only [List.length_cons, List.length_nil]; rw [show (k + 1) * 2 - (0 + 1 + 1) = k * 2 by omega, show (k + 1) * 2 + 1 - (0 + 1 + 1) = k * 2 + 1 by omega, ih.1, ih.2]; simp
theorem gload (gb : Nat) (gs : List (Bool × Int)) (W : World) (h : GroupsAt W gb gs) : Sem.run Tryz.prog (loadCellsFrom ⟨gb, 0, none⟩ 0 32 #[]) W = .ok (flatG gs).toArray W := by
 refine run_loadCellsFrom_list Tryz.prog W ⟨gb, 0, none⟩ (flatG gs) 32 (by rw [flatG_len, h.len]) (fun j v hv => ?_); have hj : j < 32 := by
  have := (List.getElem?_eq_some_iff.1 hv).1; rw [flatG_len, h.len] at this; exact this
 simp only [Addr.add_lit, Nat.zero_add]; obtain ⟨f1, f2⟩ := flatG_get gs (j / 2) (by rw [h.len]; omega); by_cases e : j % 2 = 0
 · rw [show j / 2 * 2 = j by omega] at f1; rw [f1] at hv; cases hv; have := h.there (j / 2) (by omega); rwa [show j / 2 * 2 = j by omega] at this
 · rw [show j / 2 * 2 + 1 = j by omega] at f2; rw [f2] at hv; cases hv; have := h.up (j / 2) (by omega); rwa [show j / 2 * 2 + 1 = j by omega] at this
def GAddP (gb : Nat) (r : Int × Int × List (Bool × Int)) (W : World) (e : Ending) (w' : World) : Prop :=
 e = .returned (.tuple #[.int .i64 r.1, .int .i64 r.2.1]) ∧ GroupsAt w' gb r.2.2 ∧ Touch (fun k => k = gb) W w'
theorem wpList_load_run {P : Program} {w : World} {ops : Array Oper} {rest : List Oper} {o : Oper} {a : Act} {Q : Exit → Act → World → Prop} (hg : o.guard = none) (ty : TypeId) (x : Operand) (hop : o.op = .load ty x) (p v : Value) (hx : a.eval x = p)
 (hr : Sem.run P (Instr.loadAt ty p) w = .ok v w) (hK : wpList P ops Q rest (a.put o.dst v) w) : wpList P ops Q (o :: rest) a w := by
 refine wpList_plain hg fun K hK' => ?_; unfold Oper.wp; subst hx; simp [execOp, hop, hr, Result.andThen]
 exact hK' _ _ hK
theorem wpList_index_run {P : Program} {w : World} {ops : Array Oper} {rest : List Oper} {o : Oper} {a : Act} {Q : Exit → Act → World → Prop} (hg : o.guard = none) (ty : TypeId) (x i : Operand) (hop : o.op = .index ty x i) (p q v : Value) (hx : a.eval x = p) (hi : a.eval i = q)
 (hr : Sem.run P (Instr.index ty p q) w = .ok v w) (hK : wpList P ops Q rest (a.put o.dst v) w) : wpList P ops Q (o :: rest) a w := by
 refine wpList_plain hg fun K hK' => ?_; unfold Oper.wp; subst hx hi; simp [execOp, hop, hr, Result.andThen]
 exact hK' _ _ hK
theorem gund176 : Tryz.prog.underlying 176 = some (.array 16 175) := by kernel_rfl
theorem gund175 : (Tryz.prog.underlying 175).map (fun d => match d with | .struct _ | .array _ _ => true | _ => false) = some true := by kernel_rfl
theorem gsize176 : (Tryz.prog.info? 176).map (fun i => i.size) = some 32 := by kernel_rfl
theorem gsize175 : (Tryz.prog.info? 175).map (fun i => i.size) = some 2 := by kernel_rfl
theorem gloadAt (gb : Nat) (gs : List (Bool × Int)) (W : World) (h : GroupsAt W gb gs) : Sem.run Tryz.prog (Instr.loadAt 176 (.pointer (some ⟨gb, 0, none⟩))) W = .ok (.agg (flatG gs).toArray) W := by
 have h1 := gload gb gs W h; obtain ⟨i, hi, hs⟩ := Option.map_eq_some_iff.1 gsize176; have hagg : (isAgg 176).run Tryz.prog W = .ok true W := by
  unfold isAgg; rw [Sem.run_bind, run_underlying gund176 W]; simp
 simp [Instr.loadAt, Instr.sureAddr, loadVar, Sem.run_bind, hagg, sizeOf, typeInfo, hi, hs, loadCells, h1, Result.andThen]
theorem gidx (gs : List (Bool × Int)) (k : Nat) (hk : k < gs.length) (hl : gs.length = 16) (W : World) :
 Sem.run Tryz.prog (Instr.index 176 (.agg (flatG gs).toArray) (.int .i64 (k : Int))) W = .ok (.agg #[.bool (gs.getD k default).1, .int .i64 (gs.getD k default).2]) W := by
 obtain ⟨f1, f2⟩ := flatG_get gs k hk; have hfl := flatG_len gs; obtain ⟨i, hi, hs⟩ := Option.map_eq_some_iff.1 gsize175; obtain ⟨d, hd, hd2⟩ := Option.map_eq_some_iff.1 gund175; have hagg : (isAgg 175).run Tryz.prog W = .ok true W := by
  unfold isAgg; rw [Sem.run_bind, run_underlying hd W]; cases d <;> simp_all
 have hex : (flatG gs).toArray.extract (k * 2) (k * 2 + 2) = #[.bool (gs.getD k default).1, .int .i64 (gs.getD k default).2] := by
  apply Array.ext'
  simp only [Array.toList_extract, List.extract_eq_take_drop]; apply List.ext_getElem?
  intro n; simp only [List.getElem?_take, List.getElem?_drop]; match n with
  | 0 => simp [f1]
  | 1 => simp [f2]
  | n + 2 => simp; omega
 have hex2 : (List.drop (k * 2) (flatG gs)).take 2 = [.bool (gs.getD k default).1, .int .i64 (gs.getD k default).2] := by
  have := congrArg Array.toList hex; simpa only [Array.toList_extract, List.extract_eq_take_drop, Nat.add_sub_cancel_left] using this
 have g1 : (k : Int) < 16 := by omega
 simp only [Instr.index, asIntOf, Sem.run_bind, Sem.run_pure, Result.andThen_ok, run_underlying gund176 W]; simp only [List.getD_eq_getElem?_getD] at hex2; simp [part, Sem.run_bind, hagg, sizeOf, typeInfo, hi, hs, hex2, Result.andThen, g1]
set_option maxRecDepth 100000 in
theorem gadd_any (gb : Nat) (gs : List (Bool × Int)) (up : Int) (xs : List G16) (W : World) (h : GroupsAt W gb gs) (hL : IsPath gs up xs) (hne : hasG gs up = true) (hlen : xs.length < 4) :
 Calls Tryz.prog 98 #[.pointer (some ⟨gb, 0, none⟩), .int .i64 up] W (GAddP gb (gaddP gs up) W) := by
 have hhas := has_any gb gs up W h; have hdep := depth_any gb gs up xs W h hL (by omega); rw [hne] at hhas; have HG := lH h; have hl16 := h.len; have hgl : gb < W.heap.size := World.block_lt_of_cell? _ _ (h.there 0 (by omega)); obtain ⟨n, hn⟩ : ∃ n, xs.length = n := ⟨_, rfl⟩
 rw [hn] at hdep hlen; have g1 : ¬ 4 ≤ (n : Int) := by omega
 obtain ⟨r, hr⟩ : ∃ r, gaddP gs up = r := ⟨_, rfl⟩
 rw [hr]; have HR := lH hr; have HL16 := lH hl16; have HGL := lH hgl; clear h hL hne hn hr hl16 hgl; go_enter Tryz.func98, Tryz.ntmps98; go_wp2_with fail
 refine hhas.mono ?_; rintro e w' ⟨rfl, rfl⟩; go_wp2_with fail
 refine hdep.mono ?_; rintro e w1 ⟨rfl, hb1⟩; have HG1 := lH (HG.out.same (hb1.block gb HGL.out)); have HB := lH hb1; clear hb1 hdep hhas; have HLD := lH (gload gb gs w1 HG1.out); obtain ⟨A, hA⟩ : ∃ x, (flatG gs).toArray = x := ⟨_, rfl⟩
 have HA := lH hA; clear hA; go_wp2_with (refine wpList_load_run rfl 176 _ rfl (.pointer (some ⟨gb, 0, none⟩)) (.agg A) rfl (by rw [← HA.out]; exact gloadAt gb gs w1 HG1.out) ?_)
 have HSL : Hid (w1.heap.size = w1.heap.size) := lH rfl; go_loopw [22] (fun x wr => ∃ k : Nat, k ≤ 16 ∧ x = .int .i64 k ∧ Hid (∀ j, j < k → (gs.getD j default).1 = true) ∧ Hid (Below W.heap.size W wr)) (fun x _ => 16 - (intOf x).toNat)
 case atStart => exact ⟨0, by omega, rfl, lH (fun j hj => by omega), HB⟩
 case round =>
  obtain ⟨k, hk, rfl, HT, HBr⟩ := hrel; by_cases hkn : k < 16
  · have hidx := gidx gs k (by rw [HL16.out]; exact hkn) HL16.out; rw [HA.out] at hidx; have HI := lH hidx; have HGr := lH (HG.out.same (HBr.out.block gb HGL.out)); have hk1 : (k : Int) < 16 := by omega
    have hk0 : 0 ≤ (k : Int) := by omega
    obtain ⟨pv, hpv⟩ : ∃ x, (gs.getD k default).1 = x := ⟨_, rfl⟩
    obtain ⟨qv, hqv⟩ : ∃ x, (gs.getD k default).2 = x := ⟨_, rfl⟩
    rw [hpv, hqv] at HI; have HP := lH hpv; clear hidx hpv hqv; cases pv with
    | true =>
     go_wp2_with (refine wpList_index_run rfl 176 _ _ rfl (.agg A) (.int .i64 (k : Int)) _ rfl rfl (HI.out _) ?_)
     go_roundw
     case rel => exact ⟨k + 1, hkn, by go_num, lH (fun j hj => by
      by_cases e : j = k
      · subst e; exact HP.out
      · exact HT.out j (by omega)), lH (HBr.out.alloc HBr.out.size _)⟩
     case measure => simp [intOf]; omega
    | false =>
     obtain ⟨wz, hwz⟩ : ∃ x, wr.alloc (.cells #[.bool false, .int .i64 qv] 175) = x := ⟨_, rfl⟩
     have hbz : Below W.heap.size W wz := by rw [← hwz]; exact HBr.out.alloc HBr.out.size _
     have hgz := HG.out.same (hbz.block gb HGL.out); have c1 := hgz.there k hkn; have c2 := hgz.up k hkn; have c3 := hgz.live (k * 2); have c4 := hgz.live (k * 2 + 1); have c5 : (wz.setCell ⟨gb, k * 2, none⟩ (.bool true)).cell? ⟨gb, k * 2 + 1, none⟩ = some (.int .i64 (gs.getD k default).2) := (cell_setCell_ne _ (fun e2 => by have := congrArg Addr.off e2; simp at this)).trans c2; have c6 : (wz.setCell ⟨gb, k * 2, none⟩ (.bool true)).frozen? ⟨gb, k * 2 + 1, none⟩ = false := by rw [World.frozen?_setCell]; exact c4
     have HG2 := lH (hgz.set k hkn true up); have HT2 : Hid (Touch (fun k => k = gb) W ((wz.setCell ⟨gb, k * 2, none⟩ (.bool true)).setCell ⟨gb, k * 2 + 1, none⟩ (.int .i64 up))) :=
      lH (((Touch.of_below (F := fun k => k = gb) hbz).setCell (t := none) (Or.inl rfl) _).setCell (t := none) (Or.inl rfl) _)
     have HAT := lH (gadd_at (up := up) (by rw [HL16.out]; exact hkn) HT.out HP.out); clear hgz hbz; subst hwz; go_wp2_with (refine wpList_index_run rfl 176 _ _ rfl (.agg A) (.int .i64 (k : Int)) _ rfl rfl (HI.out _) ?_)
     go_ret2
     have hr2 : ((k : Int), 0, gs.set k (true, up)) = r := HAT.out.symm.trans HR.out; subst hr2; exact ⟨rfl, HG2.out, HT2.out⟩
  · obtain rfl : k = 16 := by omega
    have HAT := lH (gadd_full (gs := gs) (up := up) (by rw [HL16.out]; exact HT.out)); go_wp2_with fail
    go_ret2
    have hr2 : ((0 : Int), (3 : Int), gs) = r := HAT.out.symm.trans HR.out; subst hr2; exact ⟨rfl, HG.out.same (HBr.out.block gb HGL.out), Touch.of_below HBr.out⟩
end
end Go.Proofs.YtoiajjobecinpaaGreat
