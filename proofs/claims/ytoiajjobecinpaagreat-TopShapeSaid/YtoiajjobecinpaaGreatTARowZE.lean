/- TopShape: for every input the law returns true, and each argument reads as it did; no condition. -/
import Derived.Test.YtoiajjobecinpaaGreatChecked
import Derived.ShutString
import Derived.ChangeOld
import Derived.Test.YtoiajjobecinpaaGreatTA36
set_option maxHeartbeats 4000000
namespace Go.Proofs.YtoiajjobecinpaaGreat
open Go.RowKit Go.Shelf Go.Lib Go.Proofs
set_option linter.unusedVariables false
set_option linter.unusedSimpArgs false
section
attribute [local go_sem] Oper.semAt_some
theorem filter_more (p : Nat → Bool) (j : Nat) : ∀ l : List Nat, l.Nodup → (j ∉ l → (l.filter fun x => decide (x = j) || p x) = l.filter p) ∧ (j ∈ l → p j = false → (l.filter fun x => decide (x = j) || p x).length = (l.filter p).length + 1)
 | [], _ => ⟨fun _ => rfl, fun h => by cases h⟩
 | a :: l, h => by
  obtain ⟨h1, h2⟩ := List.nodup_cons.1 h; obtain ⟨i1, i2⟩ := filter_more p j l h2; refine ⟨fun hn => ?_, fun hj hp => ?_⟩
  · have ha : a ≠ j := fun e => hn (e ▸ List.mem_cons_self); have hl : j ∉ l := fun e => hn (List.mem_cons_of_mem _ e); rw [List.filter_cons, List.filter_cons, i1 hl]; simp [ha]
  · by_cases e : a = j
    · subst e; rw [List.filter_cons, List.filter_cons, i1 h1]; simp [hp]
    · have hl : j ∈ l := by
       rcases List.mem_cons.1 hj with h | h
       · exact absurd h.symm e
       · exact h
      have := i2 hl hp; rw [List.filter_cons, List.filter_cons]; simp only [e, decide_false, Bool.false_or]; split <;> simp [this]
theorem cntG_set {gs : List (Bool × Int)} {j : Nat} {up : Int} (hl : gs.length = 16) (hj : j < 16) (hf : hasG gs j = false) : cntG (gs.set j (true, up)) = cntG gs + 1 := by
 have := (filter_more (fun g : Nat => hasG gs (g : Int)) j (List.range 16) List.nodup_range).2 (List.mem_range.2 hj) hf; unfold cntG; rw [← this]; congr 1
 apply List.filter_congr
 intro x hx; rw [hasG_set hl hj]; congr 1
 simp only [decide_eq_decide]; omega
theorem cntG_act {s s' : Sy} {op a y : Int} (hl : s.gs.length = 16) (h : GsR s op a y s') : (cntG s'.gs : Int) = if op = 1 ∧ y = 0 then (cntG s.gs : Int) + 1 else cntG s.gs := by
 by_cases e : op = 1 ∧ y = 0
 · obtain ⟨j, hj, hf, hg⟩ := h.1 e; rw [if_pos e, hg, cntG_set hl hj hf]; omega
 · rw [if_neg e, h.2 e]
def ShapeI (W : World) (ob n : Nat) (k : Nat) (g : Int) (wr : World) : Prop := ∃ s, LawW W ob n k s wr ∧ (cntG s.gs : Int) = g
set_option maxRecDepth 100000 in
theorem shape_any (tp : Option Addr) (tn tc : Nat) (zs : List Int) (p : Option Addr) (len c : Nat) (W : World) (ht : ReadsI W tp tn zs) (hl : ActsAt W p len) :
 Calls Tryz.prog 7 #[.slice tp tn tc, .slice p len c] W fun e w' => e = .returned (.bool true) ∧ Below W.heap.size W w' := by
 have haw := awake2_any W; have HT := lH ht; have HL := lH hl; clear ht hl; go_enter Tryz.func7, Tryz.ntmps7; go_wp2_with fail
 refine haw.mono ?_; rintro e w0 ⟨rfl, hb0⟩; have HB0 := lH hb0; have hacts0 : ActsAt w0 p len := fun j hj => by
  obtain ⟨g, o, hp, g1, op, a, b, c', n, m, bl, nb, ⟨k0, k1, k2, k3, k4, k5, k6⟩, hbd, hbl⟩ := HL.out j hj; have hc : ∀ i, w0.cell? ⟨g, i, none⟩ = W.cell? ⟨g, i, none⟩ := fun i => World.cell?_of_block (a := ⟨g, i, none⟩) (hb0.block g g1); exact ⟨g, o, hp, Nat.lt_of_lt_of_le g1 hb0.size, op, a, b, c', n, m, bl, nb, ⟨(hc _).trans k0, (hc _).trans k1, (hc _).trans k2, (hc _).trans k3, (hc _).trans k4, (hc _).trans k5, (hc _).trans k6⟩, hbd, hbl.below hb0⟩
 have hfar := far_any w0 tp tn tc p len c hacts0; clear hb0 haw hacts0; go_wp2_with fail
 refine hfar.mono ?_; rintro e w1 ⟨f, rfl, rfl, hf⟩; cases f with
 | true =>
  clear hf hfar; go_wp2_with fail
  go_ret
  exact ⟨rfl, HB0.out⟩
 | false =>
  obtain ⟨t8, l150, few⟩ := hf rfl; have hreads : ReadsI w0 tp tn zs := by
   rcases HT.out with h | ⟨b, off, hp, hbl, hcell⟩
   · exact .inl h
   · exact .inr ⟨b, off, hp, Nat.lt_of_lt_of_le hbl HB0.out.size, fun j hj => (HB0.out.cell (p := ⟨b, off + j, none⟩) hbl).trans (hcell j hj)⟩
  have hnew := law_new w0 tp tn tc zs hreads t8; have HF := lH (And.intro t8 (And.intro l150 few)); clear hf hfar hreads t8 l150 few; go_wp2_with fail
  refine hnew.mono ?_; rintro e w1 (⟨rfl, hb1⟩ | ⟨ob, rfl, hW1, h1n⟩)
  · have HB1 := lH (HB0.out.trans (hb1.mono HB0.out.size)); clear hb1 hnew; go_wp2_with fail
    go_ret
    exact ⟨rfl, HB1.out⟩
  · have HW1 := lH hW1; have HST : Hid (ShapeI w0 ob tn 0 1 w1) := lH ⟨_, hW1, by show (cntG topG : Int) = 1; rw [cntG_top]; rfl⟩; clear hW1 hnew h1n; go_wp2_with fail
    go_loopw [7, 8] (fun g x wr => ∃ (k : Nat) (q : Int), k ≤ len ∧ x = .int .i64 k ∧ g = .int .i64 q ∧ (1 ≤ q ∧ q ≤ k + 1) ∧ Hid (ShapeI w0 ob tn k q wr)) (fun _ x _ => len - (intOf x).toNat)
    case atStart => exact ⟨0, 1, Nat.zero_le _, rfl, rfl, by omega, HST⟩
    case round =>
     obtain ⟨k, q, hk, rfl, rfl, ⟨hq1, hq2⟩, HR⟩ := hrel; have hk0 : 0 ≤ (k : Int) := by omega
     have hl150 := HF.out.2.1; by_cases hkn : (k : Int) < (len : Int)
     · obtain ⟨s, hLW, hcnt⟩ := HR.out; have hbel := hLW.bel; obtain ⟨g, o, rfl, g1, op, a, b, c', n, m, bl, nb, ⟨k0, k1, k2, k3, k4, k5, k6⟩, ⟨⟨a1, a2⟩, n2⟩, hbl⟩ := HL.out k (by omega); have g2 : g < w0.heap.size := Nat.lt_of_lt_of_le g1 HB0.out.size; have hnb : nb ≤ 8 := by
        obtain ⟨pb, cb, hv, -⟩ := id hbl; refine HF.out.2.2 k (by omega) g o rfl pb nb cb ?_; rw [← hv]; exact (HB0.out.cell (p := ⟨g, o + k * 7 + 6, none⟩) g1).trans k6
       have hdo := hLW.do_ (by omega) op a b c' n m bl nb (hbl.below HB0.out) hnb a1 a2 n2; unfold actV at hdo; have hcc : ∀ i, wr.cell? ⟨g, i, none⟩ = W.cell? ⟨g, i, none⟩ := fun i => (hbel.cell (p := ⟨g, i, none⟩) g2).trans (HB0.out.cell (p := ⟨g, i, none⟩) g1)
       have d0 := (hcc _).trans k0; have d1 := (hcc _).trans k1; have d2 := (hcc _).trans k2; have d3 := (hcc _).trans k3; have d4 := (hcc _).trans k4; have d5 := (hcc _).trans k5; have d6 := (hcc _).trans k6; have HK0 := lH k0; have HG1 := lH g1; have HG2 := lH g2; have HCN := lH hcnt; have HLN := lH hLW.inv.gs.len; clear hLW hbel k0 k1 k2 k3 k4 k5 k6 hbl hnb hcc a1 a2 n2 g1 g2 hcnt HR; go_wp2_with fail
       refine hdo.mono ?_; rintro e w6 ⟨x, y, s', rfl, hact, hL6⟩; have e0 : w6.cell? ⟨g, o + k * 7, none⟩ = some (.int .i64 op) := (hL6.bel.cell (p := ⟨g, o + k * 7, none⟩) HG2.out).trans ((HB0.out.cell (p := ⟨g, o + k * 7, none⟩) HG1.out).trans HK0.out)
       obtain ⟨v, hv⟩ : ∃ v, (if y = 0 then x else 0) = v := ⟨_, rfl⟩
       rw [hv]; have e0' := c2a (.cells #[.int .i64 v, .int .i64 y] 37) e0; have hcg := cntG_act HLN.out hact.2; rw [HCN.out] at hcg; have HCG := lH hcg; have HL6 := lH (hL6.below ((Below.refl _ w6).alloc (Nat.le_refl _) (.cells #[.int .i64 v, .int .i64 y] 37))); clear hdo hact hL6 hcg hv d0 d1 d2 d3 d4 d5 d6 e0; by_cases h1 : op = 1
       · by_cases h2 : y = 0
         · have HQ : Hid (ShapeI w0 ob tn (k + 1) (q + 1) (w6.alloc (.cells #[.int .i64 v, .int .i64 y] 37))) := lH ⟨s', HL6.out, by rw [HCG.out, if_pos ⟨h1, h2⟩]⟩; subst h1 h2; go_wp2_with fail
           go_roundw
           case rel => exact ⟨k + 1, q + 1, by omega, by go_num, by go_num, by omega, HQ⟩
           case measure => simp [intOf]; omega
         · have HQ : Hid (ShapeI w0 ob tn (k + 1) q (w6.alloc (.cells #[.int .i64 v, .int .i64 y] 37))) := lH ⟨s', HL6.out, by rw [HCG.out, if_neg (fun hh => h2 hh.2)]⟩; subst h1; go_wp2_with fail
           go_roundw
           case rel => exact ⟨k + 1, q, by omega, by go_num, rfl, by omega, HQ⟩
           case measure => simp [intOf]; omega
       · have HQ : Hid (ShapeI w0 ob tn (k + 1) q (w6.alloc (.cells #[.int .i64 v, .int .i64 y] 37))) := lH ⟨s', HL6.out, by rw [HCG.out, if_neg (fun hh => h1 hh.1)]⟩; go_wp2_with fail
         go_roundw
         case rel => exact ⟨k + 1, q, by omega, by go_num, rfl, by omega, HQ⟩
         case measure => simp [intOf]; omega
     · obtain ⟨s, hLW, hcnt⟩ := HR.out; have hst := law_state w0 wr ob tn k s hLW (by omega); have hI := hLW.inv; have HBL := lH hLW.bel; have hmod : ∀ i, i + 1 < (listP s.ps).length → (listP s.ps).getD i 0 % 64 < (listP s.ps).getD (i + 1) 0 % 64 ∧ 0 ≤ (listP s.ps).getD i 0 ∧ (listP s.ps).getD i 0 ≤ 1000000 ∧ 0 ≤ (listP s.ps).getD (i + 1) 0 ∧ (listP s.ps).getD (i + 1) 0 ≤ 1000000 := fun i hi => by
        have hp := List.pairwise_iff_getElem.1 (listFrom_mod s.ps 0 (by rw [hI.pslen]; omega)) i (i + 1) (by show i < (listP s.ps).length; omega) hi (by omega); have hin : ∀ j (hj : j < (listP s.ps).length), 0 ≤ (listP s.ps)[j] ∧ (listP s.ps)[j] ≤ 1000000 := fun j hj => by
         obtain ⟨t, xs, ht, -⟩ := hI.some_ (List.getElem_mem hj); have := hI.idle ht; omega
        rw [List.getD_eq_getElem?_getD, List.getD_eq_getElem?_getD, List.getElem?_eq_getElem hi, List.getElem?_eq_getElem (show i < (listP s.ps).length by omega)]; have h1 := hin i (by omega); have h2 := hin (i + 1) hi; exact ⟨hp, h1.1, h1.2, h2.1, h2.2⟩
       have hids : ∀ i, i < (listP s.ps).length → (flatT ((listP s.ps).map (taskY s)))[i * 7]? = some (.int .i64 ((listP s.ps).getD i 0)) := fun i hi => by
        have := flatT_get ((listP s.ps).map (taskY s)) i 0 (by simpa using hi) (by omega); rw [Nat.add_zero] at this; rw [this, List.getElem_map]; show some (Value.int .i64 (taskY s (listP s.ps)[i]).id) = _; rw [taskY_id hI (List.getElem_mem hi), List.getD_eq_getElem?_getD, List.getElem?_eq_getElem hi]; rfl
       have h64 : (listP s.ps).length ≤ 64 := by rw [← hI.pslen]; exact listFrom_len _ _
       rw [accsK_cnt] at hst; obtain ⟨G, hG⟩ : ∃ G, cntG s.gs = G := ⟨_, rfl⟩
       rw [hG] at hst hcnt; obtain ⟨T, hT⟩ : ∃ T, (listP s.ps).length = T := ⟨_, rfl⟩
       rw [hT] at hst hmod hids h64; have HMOD := lH hmod; have HIDS := lH hids; have H64 := lH h64; have HCN := lH hcnt; clear hI hmod hids h64 hT hG HR hLW hcnt; go_wp2_with fail
       refine hst.mono ?_; rintro e w5 ⟨a0, a1, a2, a3, a4, c0, c1, c2, c3, c4, fl, P, rfl, hr1, hf, hr2, hb5⟩; have HB5 := lH ((HB0.out.trans (HBL.out.mono HB0.out.size)).trans (hb5.mono (Nat.le_trans HB0.out.size HBL.out.size))); have HR2 := lH hr2.f; clear hst hr1 hf hr2 hb5; go_wp2_with fail
       have hbox := heap_alloc_new w5 (.cells #[.slice a0 tn c0, .slice a1 tn c1, .slice a2 T c2, .slice a3 G c3, .slice a4 G c4] 44); have HBX := lH hbox; have HBZ := lH (show w5.heap.size < (w5.alloc (.cells #[.slice a0 tn c0, .slice a1 tn c1, .slice a2 T c2, .slice a3 G c3, .slice a4 G c4] 44)).heap.size by simp); have HBW := lH (HB5.out.alloc HB5.out.size (.cells #[.slice a0 tn c0, .slice a1 tn c1, .slice a2 T c2, .slice a3 G c3, .slice a4 G c4] 44)); have HRW : Hid (RowF (w5.alloc (.cells #[.slice a0 tn c0, .slice a1 tn c1, .slice a2 T c2, .slice a3 G c3, .slice a4 G c4] 44)) a2 (flatT ((listP s.ps).map (taskY s)))) := lH (HR2.out.below ((Below.refl _ w5).alloc (Nat.le_refl _) _)); clear hbox; obtain ⟨B, hB⟩ : ∃ B, w5.heap.size = B := ⟨_, rfl⟩
       rw [hB] at HBX HBZ ⊢; obtain ⟨W1, hW1⟩ : ∃ W1, w5.alloc (.cells #[.slice a0 tn c0, .slice a1 tn c1, .slice a2 T c2, .slice a3 G c3, .slice a4 G c4] 44) = W1 := ⟨_, rfl⟩
       rw [hW1] at HBX HBZ HBW HRW; rw [hW1]; clear hW1 hB HR2; go_loopw [11] (fun x wr2 => ∃ i : Nat, x = .int .i64 ((i : Int) + 1) ∧ i ≤ T ∧ Hid (Below W1.heap.size W1 wr2)) (fun x _ => T + 1 - (intOf x).toNat)
       case atStart => exact ⟨0, rfl, Nat.zero_le _, lH (Below.refl _ _)⟩
       case round =>
        obtain ⟨i, rfl, hi, HBQ⟩ := hrel; have hi0 : 0 ≤ (i : Int) := by omega
        have h64 := H64.out; have hbx : wr.heap[B]? = _ := (HBQ.out.block B HBZ.out).trans HBX.out; obtain ⟨⟨b0, b1, b2, b3, b4⟩, -, -⟩ := cells5 hbx; clear hbx; by_cases hiT : i + 1 < T
        · obtain ⟨hm, u1, u2, v1, v2⟩ := HMOD.out i hiT; have r1 := HIDS.out i (by omega); have r2 := HIDS.out (i + 1) hiT; obtain ⟨u, hu⟩ : ∃ u, (listP s.ps).getD i 0 = u := ⟨_, rfl⟩
          obtain ⟨v, hv⟩ : ∃ v, (listP s.ps).getD (i + 1) 0 = v := ⟨_, rfl⟩
          rw [hu] at hm u1 u2 r1; rw [hv] at hm v1 v2 r2; obtain ⟨g, rfl, g1, t1⟩ := HRW.out _ _ r1; obtain ⟨g', hg', -, t2⟩ := HRW.out _ _ r2; simp only [Option.some.injEq, Addr.mk.injEq, and_true] at hg'; subst hg'; have t1' := (HBQ.out.cell (p := ⟨g, i * 7, none⟩) g1).trans t1; have t2' := (HBQ.out.cell (p := ⟨g, (i + 1) * 7, none⟩) g1).trans t2; have HME : Hid (¬ v % 64 ≤ u % 64) := lH (by omega); have hiT' : (i : Int) + 1 < (T : Int) := by omega
          clear hm hu hv r1 r2 t1 t2 g1; go_wp2_with fail
          go_quiet (fail)
          go_wp2_with fail
          all_goals first | (exfalso; have := HME.out; omega) | (exact ⟨⟨i + 1, by go_num, by omega, lH (below_drewN HBQ.out _)⟩, by simp [intOf]; omega⟩) | skip
        · have HQ := lH (HBW.out.trans (HBQ.out.mono HBW.out.size)); have hT64 : (T : Int) ≤ 64 := by omega
          go_wp2_with fail
          go_ret
          exact ⟨rfl, HQ.out⟩
end
end Go.Proofs.YtoiajjobecinpaaGreat

namespace Go.Proofs.YtoiajjobecinpaaGreat.topShape
open Go.ChangeShapes Go.WideShapes Go.ChangeAt Go.RowKit
open Go.ChangeMaps (open_string shut_string)
set_option linter.unusedVariables false
set_option linter.unusedSimpArgs false
theorem own : ownKnob Tryz.prog.godebug = none := by kernel_rfl
theorem laidOut : laidOutB Tryz.prog = true := by kernel_rfl
def IsRow (k : IntKind) (w : World) (a : Option Addr) (len cap : Nat) (zs : List Int) : Prop :=
 (a = none ∧ len = 0 ∧ cap = 0 ∧ zs = []) ∨
 ∃ x, a = some x ∧ len ≤ cap ∧ cap ≤ maxLen ∧ zs.length = cap ∧ (∀ i, i < zs.length → w.cell? (x.add i) = some (.int k (zs.getD i 0))) ∧ ∀ n ∈ zs, (Lit.int k n).wf = true
theorem reads_of {w : World} {a : Option Addr} {len cap : Nat} {zs : List Int} (h : IsRow .i64 w a len cap zs) : ReadsI w a len zs := by
 rcases h with ⟨_, h, _⟩ | ⟨x, rfl, hl, _, hz, hc, _⟩
 · exact .inl h
 · by_cases h0 : len = 0
   · exact .inl h0
   · obtain ⟨b, off, rfl, hc'⟩ := ints_at hc (by omega); exact .inr ⟨b, off, rfl, World.block_lt_of_cell? w _ (hc' 0 (by omega)), fun j hj => hc' j (by omega)⟩
theorem walk (a0 : Option Addr) (len0 cap0 : Nat) (z0 : List Int) (a1 : Option Addr) (len1 cap1 : Nat) (w : World) (w0 : IsRow .i64 w a0 len0 cap0 z0) (w1 : ActsAt w a1 len1) :
 Calls Tryz.prog 7 #[.slice a0 len0 cap0, .slice a1 len1 cap1] w fun e w' => e = .returned (.bool true) ∧ Below w.heap.size w w' :=
 shape_any a0 len0 cap0 z0 a1 len1 cap1 w (reads_of w0) w1
set_option maxRecDepth 100000 in
theorem lifted (os : Os) (started : os.Started) (H : Type) (enc : TypeId × Value → H) :
 ReturnsInHanded {} Tryz.checked os 7 .any (Rows.topShapeSpec.pre6 enc Tryz.prog Tryz.f7 Rows.topShapeRow.domain false) (Rows.topShapeSpec.post enc Tryz.prog Tryz.f7 false true false false) := by
 refine returnsInHanded_of_change (C := Tryz.checked) own started (by kernel_rfl) Tryz.func7
  (ChangeSpec.witness6 (enc := enc) (C := Tryz.checked) false ⟨#[], #[.slice none 0 0, .slice none 0 0], []⟩ 7 (by kernel_rfl) (by kernel_rfl) (by kernel_rfl) (by kernel_rfl)) ?_
 intro W base args ds gs before hval0 hW hcnd _; have hval : ∀ (j : Nat) t v, Tryz.f7.params[j]? = some t → args[j]? = some v → Value.okWide Tryz.prog W .any base t v := hval0; have hW' := hW; obtain ⟨p, q, hA0, hV, rfl, hfz, hnd⟩ := hW; have hA : DataW.TrodAll enc Tryz.prog W 0 (fun _ => true) true Tryz.f7.params.toList args.toList ds p := hA0; rw [Tryz.params7] at hA hval; obtain ⟨v0, vs0, d0, ds0, p0, q0, hargs, rfl, rfl, h0, r0⟩ := trodAll_cons hA; obtain ⟨v1, vs1, d1, ds1, p1, q1, rfl, rfl, rfl, h1, r1⟩ := trodAll_cons r0; obtain ⟨rfl, rfl, rfl⟩ := trodAll_nil r1; obtain rfl : args = #[v0, v1] := by cases args; simp_all
 obtain ⟨rfl, rfl⟩ := trodVars_none hV; obtain ⟨a0, len0, cap0, rfl⟩ := okWide_slice Tryz.underlying22 (hval 0 22 v0 rfl rfl); have k0 := h0; have lt0 : ∀ x ∈ p0, x.block < W.heap.size := by obtain ⟨m, hm⟩ := k0; exact DataW.trod_lt m _ _ _ hm
 obtain ⟨z0, w0⟩ : ∃ zs, IsRow .i64 W a0 len0 cap0 zs := by
  obtain ⟨fuel, hf⟩ := h0; rcases open_ints Tryz.underlying22 Tryz.underlying3 (by kernel_rfl) hf with ⟨hcs, _⟩ | ⟨x, l, c, zs, hcs, _, hl, hm, hz, _, hcell, hwz⟩
  · simp [Value.cells] at hcs
    obtain ⟨rfl, rfl, rfl⟩ := hcs; exact ⟨[], .inl ⟨rfl, rfl, rfl, rfl⟩⟩
  · simp [Value.cells] at hcs
    obtain ⟨rfl, rfl, rfl⟩ := hcs; exact ⟨zs, .inr ⟨_, rfl, hl, hm, by simpa using hz, hcell, hwz⟩⟩
 obtain ⟨a1, len1, cap1, rfl⟩ := okWide_slice Tryz.underlying23 (hval 1 23 v1 rfl rfl); have k1 := h1; have lt1 : ∀ x ∈ p1, x.block < W.heap.size := by obtain ⟨m, hm⟩ := k1; exact DataW.trod_lt m _ _ _ hm
 have w1 : ActsAt W a1 len1 := by
  obtain ⟨fuel, hf⟩ := h1; obtain ⟨p, l, c, hcs, hacts⟩ := acts_open hf; simp [Value.cells] at hcs
  obtain ⟨rfl, rfl, rfl⟩ := hcs; exact hacts
 clear hA0 hval0; refine (walk a0 len0 cap0 z0 a1 len1 cap1 W w0 w1).mono fun e W' ⟨he, bel⟩ => ?_; subst he; exact ⟨_, rfl, _, _, _, [], _, [], hW', trodAll_mk1 (shut_bool Tryz.underlying4 _), (trodAll_cons_mk (Below.trod laidOut (by kernel_rfl) (of_decide_eq_true (by kernel_rfl)) k0 bel lt0) (trodAll_cons_mk (Below.trod laidOut (by kernel_rfl) (of_decide_eq_true (by kernel_rfl)) k1 bel lt1) trodAll_mk0)), rfl, bel.frame _, fun h => by cases h⟩
theorem over : Rows.topShapeRow.holds Tryz.pinned (OpenSpec.ofChange Rows.topShapeSpec) :=
 OpenClaim.holds_of_wide 7 Tryz.f7 rfl rfl rfl rfl rfl rfl rfl ⟨rfl, rfl, rfl, rfl, rfl⟩ rfl rfl rfl rfl rfl (by kernel_rfl) Tryz.func7 (by kernel_rfl)
  (of_decide_eq_true (by kernel_rfl)) (by unfold Func.isWrapper; first | (rw [if_pos (by decide +kernel)]; kernel_rfl) | (rw [if_neg (by decide +kernel)]; exact ⟨rfl, rfl⟩))
  (fun os started H enc _ => lifted os started H enc)
theorem proved : Rows.TopShapeSaid := over
#print axioms proved
end Go.Proofs.YtoiajjobecinpaaGreat.topShape
