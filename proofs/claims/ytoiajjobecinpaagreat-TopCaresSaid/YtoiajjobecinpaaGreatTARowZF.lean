/- TopCares: for every input the law returns true, and each argument reads as it did; no condition. -/
import Derived.Test.YtoiajjobecinpaaGreatChecked
import Derived.ShutString
import Derived.ChangeOld
import Derived.Test.YtoiajjobecinpaaGreatTA36
set_option maxHeartbeats 4000000
namespace Go.Proofs.YtoiajjobecinpaaGreat
open Go.RowKit Go.Shelf Go.Lib Go.Proofs
set_option linter.unusedVariables false
set_option linter.unusedSimpArgs false
section
attribute [local go_sem] Oper.semAt_some
theorem run_cares {k n : Nat} {b : Int} {s s' : Sy} {a x : Int} (h : InvY k b n s) (hk : k ≤ 300) (hb : b ≤ 900000000000000000) (hr : RunR s a x 0 s') (hx : 0 ≤ x) :
 x ∈ listP s.ps ∧ (taskY s x).id = x ∧ (taskY s x).state = 2 ∧ (taskY s x).core = a ∧ hasM (taskY s x).mask a = true ∧ (0 ≤ (taskY s x).mask ∧ (taskY s x).mask < 65536) := by
 rcases hr with ⟨-, -, h0, -⟩ | ⟨i, rfl, hi, -, c', hc⟩
 · exact absurd h0 (by decide)
 · obtain ⟨c2, -, h2⟩ := h.run1 (by omega) hb (by rw [← h.len]; exact hi); have key : ∃ t, s.tasks x = some t ∧ t.state = 2 ∧ t.core = (i : Int) := by
    rcases hc with ⟨rfl, -⟩ | ⟨t, xs, ids, hrun, ht, -⟩
    · omega
    · rcases h2 with h2 | ⟨id, u, h2, hu, h3, h4⟩
      · rw [hrun] at h2; simp only [Prod.mk.injEq] at h2; omega
      · rw [hrun] at h2; simp only [Prod.mk.injEq] at h2; rw [← h2.1] at hu; exact ⟨u, hu, h3, h4⟩
   obtain ⟨t, ht, h3, h4⟩ := key; have hT := h.task x t ht; have e : taskY s x = toldT s t := by
    unfold taskY; rw [ht]; rfl
   rw [e]; exact ⟨(h.names x).1 (by rw [ht]; simp), hT.id, h3, h4, by have := hT.has (.inl h3); rw [h4] at this; exact this, hT.mask.1⟩
def upTo (l : List Int) (x : Int) (k : Nat) : Bool := decide (x ∈ l.take k)
theorem upTo_succ {l : List Int} {x : Int} {k : Nat} (hk : k < l.length) : upTo l x (k + 1) = (upTo l x k || decide (l.getD k 0 = x)) := by
 unfold upTo; have e : l.getD k 0 = l[k] := by rw [List.getD_eq_getElem?_getD, List.getElem?_eq_getElem hk]; rfl
 have e2 : l.take (k + 1) = l.take k ++ [l[k]] := by rw [List.take_add_one, List.getElem?_eq_getElem hk]; rfl
 rw [e2, e]; by_cases h1 : x ∈ l.take k
 · rw [decide_eq_true (List.mem_append_left _ h1), decide_eq_true h1]; rfl
 · by_cases h2 : l[k] = x
   · rw [decide_eq_true (List.mem_append_right _ (List.mem_singleton.2 h2.symm)), decide_eq_true h2, Bool.or_true]
   · rw [decide_eq_false, decide_eq_false h1, decide_eq_false h2]
     · rfl
     · intro h; rcases List.mem_append.1 h with h | h
       · exact h1 h
       · exact h2 (List.mem_singleton.1 h).symm
theorem upTo_all {l : List Int} {x : Int} (h : x ∈ l) : upTo l x l.length = true := by
 unfold upTo; rw [List.take_length]; simpa using h
set_option maxRecDepth 100000 in
theorem cares_any (tp : Option Addr) (tn tc : Nat) (zs : List Int) (p : Option Addr) (len c : Nat) (W : World) (ht : ReadsI W tp tn zs) (hl : ActsAt W p len) :
 Calls Tryz.prog 5 #[.slice tp tn tc, .slice p len c] W fun e w' => e = .returned (.bool true) ∧ Below W.heap.size W w' := by
 have haw := awake2_any W; have HT := lH ht; have HL := lH hl; clear ht hl; go_enter Tryz.func5, Tryz.ntmps5; go_wp2_with fail
 refine haw.mono ?_; rintro e w0 ⟨rfl, hb0⟩; have HB0 := lH hb0; have hfar := far_any w0 tp tn tc p len c (HL.out.below hb0); clear hb0 haw; go_wp2_with fail
 refine hfar.mono ?_; rintro e w1 ⟨f, rfl, rfl, hf⟩; cases f with
 | true =>
  clear hf hfar; go_wp2_with fail
  go_ret
  exact ⟨rfl, HB0.out⟩
 | false =>
  obtain ⟨t8, l150, few⟩ := hf rfl; have hnew := law_new w0 tp tn tc zs (HT.out.below HB0.out) t8; have HF := lH (And.intro t8 (And.intro l150 few)); clear hf hfar t8 l150 few; go_wp2_with fail
  refine hnew.mono ?_; rintro e w1 (⟨rfl, hb1⟩ | ⟨ob, rfl, hW1, h1n⟩)
  · have HB1 := lH (HB0.out.trans (hb1.mono HB0.out.size)); clear hb1 hnew; go_wp2_with fail
    go_ret
    exact ⟨rfl, HB1.out⟩
  · have HST : Hid (CareI w0 ob tn 0 w1) := lH ⟨_, hW1⟩; clear hW1 hnew h1n; go_wp2_with fail
    go_loopw [7] (fun x wr => ∃ (k : Nat), k ≤ len ∧ x = .int .i64 k ∧ Hid (CareI w0 ob tn k wr)) (fun x _ => len - (intOf x).toNat)
    case atStart => exact ⟨0, Nat.zero_le _, rfl, HST⟩
    case round =>
     obtain ⟨k, hk, rfl, HR⟩ := hrel; have hk0 : 0 ≤ (k : Int) := by omega
     have hl150 := HF.out.2.1; by_cases hkn : (k : Int) < (len : Int)
     · obtain ⟨s, hLW⟩ := HR.out; have hst := law_state w0 wr ob tn k s hLW (by omega); have HLW := lH hLW; rw [accsK_cnt] at hst; obtain ⟨G, hG⟩ : ∃ G, cntG s.gs = G := ⟨_, rfl⟩
       rw [hG] at hst; obtain ⟨T, hT⟩ : ∃ T, (listP s.ps).length = T := ⟨_, rfl⟩
       rw [hT] at hst; have HTT := lH hT; have h64 : T ≤ 64 := by rw [← hT, ← hLW.inv.pslen]; exact listFrom_len _ _
       have H64 := lH h64; clear hLW hG hT HR h64; go_wp2_with fail
       refine hst.mono ?_; rintro e w5 ⟨a0, a1, a2, a3, a4, c0, c1, c2, c3, c4, fl, P, rfl, hr1, hf, hr2, hb5⟩; obtain ⟨Ob, hOb⟩ : ∃ o : Obj, o = .cells #[.slice a0 tn c0, .slice a1 tn c1, .slice a2 T c2, .slice a3 G c3, .slice a4 G c4] 44 := ⟨_, rfl⟩
       have hb6 : Below wr.heap.size wr (w5.alloc (.cells #[.slice a0 tn c0, .slice a1 tn c1, .slice a2 T c2, .slice a3 G c3, .slice a4 G c4] 44)) := hb5.alloc hb5.size _; obtain ⟨g, o, rfl, g1, op, a, b, c', n, m, bl, nb, ⟨k0, k1, k2, k3, k4, k5, k6⟩, ⟨⟨aa1, aa2⟩, n2⟩, hbl⟩ := HL.out k (by omega); have g2 : g < w0.heap.size := Nat.lt_of_lt_of_le g1 HB0.out.size; have hnb : nb ≤ 8 := by
        obtain ⟨pb, cb, hv, -⟩ := id hbl; refine HF.out.2.2 k (by omega) g o rfl pb nb cb ?_; rw [← hv]; exact (HB0.out.cell (p := ⟨g, o + k * 7 + 6, none⟩) g1).trans k6
       have hdo := HLW.out.do2 hb6 (by omega) op a b c' n m bl nb (hbl.below HB0.out) hnb aa1 aa2 n2; unfold actV at hdo; have hbl6 := (HLW.out.below hb6).bel; have hcc : ∀ i, (w5.alloc (.cells #[.slice a0 tn c0, .slice a1 tn c1, .slice a2 T c2, .slice a3 G c3, .slice a4 G c4] 44)).cell? ⟨g, i, none⟩ = W.cell? ⟨g, i, none⟩ := fun i => (hbl6.cell (p := ⟨g, i, none⟩) g2).trans (HB0.out.cell (p := ⟨g, i, none⟩) g1)
       have d0 := (hcc _).trans k0; have d1 := (hcc _).trans k1; have d2 := (hcc _).trans k2; have d3 := (hcc _).trans k3; have d4 := (hcc _).trans k4; have d5 := (hcc _).trans k5; have d6 := (hcc _).trans k6; have HK0 := lH k0; have HK1 := lH k1; have HG1 := lH g1; have HG2 := lH g2; have HR2 := lH hr2; have HB5 := lH hb5; have hbox := heap_alloc_new w5 (.cells #[.slice a0 tn c0, .slice a1 tn c1, .slice a2 T c2, .slice a3 G c3, .slice a4 G c4] 44); have HBX := lH hbox; have hsz : (w5.alloc (.cells #[.slice a0 tn c0, .slice a1 tn c1, .slice a2 T c2, .slice a3 G c3, .slice a4 G c4] 44)).heap.size = w5.heap.size + 1 := by simp
       have HSZ := lH hsz; clear k0 k1 k2 k3 k4 k5 k6 hbl hnb hcc aa1 aa2 n2 g1 g2 hr1 hf hr2 hb5 hb6 hbl6 hst hbox hsz hOb; obtain ⟨W6, hW6⟩ : ∃ x, w5.alloc (.cells #[.slice a0 tn c0, .slice a1 tn c1, .slice a2 T c2, .slice a3 G c3, .slice a4 G c4] 44) = x := ⟨_, rfl⟩
       rw [hW6] at hdo d0 d1 d2 d3 d4 d5 d6 HBX HSZ; go_wp2_with fail
       refine hdo.mono ?_; rintro e w7 ⟨x, y, s', rfl, hact, hL7, hz7, hkeep⟩; obtain ⟨v, hv⟩ : ∃ v, (if y = 0 then x else 0) = v := ⟨_, rfl⟩
       rw [hv]; have e0 : w7.cell? ⟨g, o + k * 7, none⟩ = some (.int .i64 op) := (hL7.bel.cell (p := ⟨g, o + k * 7, none⟩) HG2.out).trans ((HB0.out.cell (p := ⟨g, o + k * 7, none⟩) HG1.out).trans HK0.out)
       have e1 : w7.cell? ⟨g, o + k * 7 + 1, none⟩ = some (.int .i64 a) := (hL7.bel.cell (p := ⟨g, o + k * 7 + 1, none⟩) HG2.out).trans ((HB0.out.cell (p := ⟨g, o + k * 7 + 1, none⟩) HG1.out).trans HK1.out)
       have hw5 := HB5.out.size; have hsz := HSZ.out; have hbx7 : w7.heap[w5.heap.size]? = _ := (hkeep _ hw5 (by omega)).trans HBX.out; have hrow7 : RowF w7 a2 (flatT ((listP s.ps).map (taskY s))) := fun i u hu => by
        obtain ⟨g', q1, q2, q3, q4⟩ := HR2.out i u hu; have hsame : w7.heap[g']? = w5.heap[g']? := (hkeep g' q2 (by omega)).trans (by rw [← hW6]; exact Below.heap_alloc _ _ _ q3)
        exact ⟨g', q1, by omega, (World.cell?_of_block (a := ⟨g', i, none⟩) hsame).trans q4⟩
       have e0' := c2a (.cells #[.int .i64 v, .int .i64 y] 37) e0; have HE1 := lH e1; have hL8 := hL7.below ((Below.refl _ w7).alloc (Nat.le_refl _) (.cells #[.int .i64 v, .int .i64 y] 37)); have HL8 : Hid (CareI w0 ob tn (k + 1) (w7.alloc (.cells #[.int .i64 v, .int .i64 y] 37))) := lH ⟨s', hL8⟩; have hb78 : Below w7.heap.size w7 (w7.alloc (.cells #[.int .i64 v, .int .i64 y] 37)) := (Below.refl _ w7).alloc (Nat.le_refl _) _; have HRW : Hid (RowF (w7.alloc (.cells #[.int .i64 v, .int .i64 y] 37)) a2 (flatT ((listP s.ps).map (taskY s)))) := lH (hrow7.below hb78); have HBX8 : Hid ((w7.alloc (.cells #[.int .i64 v, .int .i64 y] 37)).heap[w5.heap.size]? = some (.cells #[.slice a0 tn c0, .slice a1 tn c1, .slice a2 T c2, .slice a3 G c3, .slice a4 G c4] 44 (0, 0))) := lH ((hb78.block _ (by omega)).trans hbx7); have HX8 := lH (heap_alloc_new w7 (.cells #[.int .i64 v, .int .i64 y] 37)); have HSZ8 := lH (show (w7.alloc (.cells #[.int .i64 v, .int .i64 y] 37)).heap.size = w7.heap.size + 1 by simp); have HZZ := lH (show w5.heap.size < w7.heap.size + 1 ∧ g < w7.heap.size by have := hL7.bel.size; have := HG2.out; omega); have HV := lH hv; have HACT := lH hact; clear hdo hact hL7 hv d0 d1 d2 d3 d4 d5 d6 e0 e1 hkeep hbx7 hrow7 hb78 hL8 hz7 hw5 hsz hW6 HBX HSZ HB5 HR2; by_cases h1 : op = 10
       · by_cases h2 : y = 0
         · by_cases h3 : v < 0
           · subst h1 h2; go_wp2_with fail
             go_roundw
             case rel => exact ⟨k + 1, by omega, by go_num, HL8⟩
             case measure => simp [intOf]; omega
           · have HC := lH (run_cares HLW.out.inv (by omega) (by omega) (by have := (HACT.out.1 (by omega)); rw [h1, h2] at this; exact this.at10) (by have := HV.out; rw [if_pos h2] at this; omega : 0 ≤ x)); have HXV : Hid (x = v) := lH (by have := HV.out; rw [if_pos h2] at this; exact this); have h3' : 0 ≤ v := by omega
             subst h1 h2; go_wp2_with fail
             obtain ⟨W8, hW8⟩ : ∃ x, w7.alloc (.cells #[.int .i64 v, .int .i64 0] 37) = x := ⟨_, rfl⟩
             rw [hW8] at HL8 HRW HBX8 HX8 HSZ8 ⊢; have HE18 : Hid (W8.cell? ⟨g, o + k * 7 + 1, none⟩ = some (.int .i64 a)) := lH (by rw [← hW8]; exact c2a _ HE1.out); obtain ⟨B7, hB7⟩ : ∃ x, w7.heap.size = x := ⟨_, rfl⟩
             obtain ⟨B5, hB5⟩ : ∃ x, w5.heap.size = x := ⟨_, rfl⟩
             rw [hB7] at HX8 HSZ8 HZZ ⊢; rw [hB5] at HBX8 HZZ ⊢; clear hW8 hB7 hB5 e0' HE1; go_loopw [10, 11] (fun th q wr => ∃ i : Nat, i ≤ T ∧ q = .int .i64 i ∧ th = .bool (upTo (listP s.ps) v i) ∧ Hid (Below W8.heap.size W8 wr)) (fun _ q _ => T - (intOf q).toNat)
             case atStart => exact ⟨0, Nat.zero_le _, rfl, rfl, lH (Below.refl _ _)⟩
             case round =>
              obtain ⟨i, hi, rfl, rfl, HBQ⟩ := hrel; have hi0 : 0 ≤ (i : Int) := by omega
              have h64 := H64.out; have hzz := HZZ.out; have hsz8 := HSZ8.out; have hbx : wr.heap[B5]? = _ := (HBQ.out.block B5 (by omega)).trans HBX8.out; obtain ⟨⟨b0, b1, b2, b3, b4⟩, -, -⟩ := cells5 hbx; have hxx : wr.heap[B7]? = _ := (HBQ.out.block B7 (by omega)).trans HX8.out; have x0 : wr.cell? ⟨B7, 0, none⟩ = some (.int .i64 v) := by simp only [World.cell?, hxx]; rfl
              have q1 := (HBQ.out.cell (p := ⟨g, o + k * 7 + 1, none⟩) (by show g < _; omega)).trans HE18.out; clear hbx hxx; by_cases hiT : i < T
              · obtain ⟨t, htk, hid, hin, r0, r1, r2, r3, r4, r5, r6⟩ := tasks_rows HLW.out.inv HTT.out i hiT; have hup := upTo_succ (l := listP s.ps) (x := v) (k := i) (by rw [HTT.out]; exact hiT); have HUP := lH hup; have htm := taskY_mask HLW.out.inv hin; rw [← htk] at htm; obtain ⟨gt, rfl, u0, s0⟩ := HRW.out _ _ r0; have hall : ∀ f z, (flatT ((listP s.ps).map (taskY s)))[i * 7 + f]? = some z → wr.cell? ⟨gt, i * 7 + f, none⟩ = some z := fun f z hz => by
                 obtain ⟨g', hg', u1, s1⟩ := HRW.out _ _ hz; simp only [Option.some.injEq, Addr.mk.injEq, and_true] at hg'; subst hg'; exact (HBQ.out.cell (p := ⟨gt, i * 7 + f, none⟩) u1).trans s1
                have z0 := hall 0 _ r0; have z1 := hall 1 _ r1; have z2 := hall 2 _ r2; have z3 := hall 3 _ r3; have z4 := hall 4 _ r4; have z5 := hall 5 _ r5; have z6 := hall 6 _ r6; rw [Nat.add_zero] at z0; have hiT' : (i : Int) < (T : Int) := by omega
                have HHIT : Hid (t.id = v → t.state = 2 ∧ t.core = a ∧ hasM t.mask a = true) := lH (fun he => by
                 obtain ⟨-, -, q2, q3, q4, -⟩ := HC.out; rw [HXV.out] at q2 q3 q4; have : t = taskY s v := by rw [htk, ← hid, he]
                 rw [this]; exact ⟨q2, q3, q4⟩)
                have HID := lH hid; obtain ⟨tm1, tm2⟩ := htm; clear hup hin r0 r1 r2 r3 r4 r5 r6 u0 s0 hall htk hid b0 b1 b3 b4; obtain ⟨tid, tw, tg, tcr, tst, tms, tlg⟩ := t; simp only at z0 z1 z2 z3 z4 z5 z6 tm1 tm2; have x0' := c2a (.cells #[.int .i64 tid, .int .i64 tw, .int .i64 tg, .int .i64 tcr, .int .i64 tst, .int .u16 tms, .int .i64 tlg] 60) x0; by_cases hit : tid = v
                · obtain ⟨rfl, rfl, hh⟩ := HHIT.out hit; simp only at hh; have hbt := heap_alloc_new wr (.cells #[.int .i64 tid, .int .i64 tw, .int .i64 tg, .int .i64 tcr, .int .i64 2, .int .u16 tms, .int .i64 tlg] 60); have hmh := mhas_any tms tcr ⟨tm1, tm2⟩ ((wr.alloc (.cells #[.int .i64 tid, .int .i64 tw, .int .i64 tg, .int .i64 tcr, .int .i64 2, .int .u16 tms, .int .i64 tlg] 60)).drew); rw [hh] at hmh; have f3 : (wr.alloc (.cells #[.int .i64 tid, .int .i64 tw, .int .i64 tg, .int .i64 tcr, .int .i64 2, .int .u16 tms, .int .i64 tlg] 60)).cell? ⟨wr.heap.size, 3, none⟩ = some (.int .i64 tcr) := by simp only [World.cell?, hbt]; rfl
                  have f4 : (wr.alloc (.cells #[.int .i64 tid, .int .i64 tw, .int .i64 tg, .int .i64 tcr, .int .i64 2, .int .u16 tms, .int .i64 tlg] 60)).cell? ⟨wr.heap.size, 4, none⟩ = some (.int .i64 2) := by simp only [World.cell?, hbt]; rfl
                  have f5 : (wr.alloc (.cells #[.int .i64 tid, .int .i64 tw, .int .i64 tg, .int .i64 tcr, .int .i64 2, .int .u16 tms, .int .i64 tlg] 60)).cell? ⟨wr.heap.size, 5, none⟩ = some (.int .u16 tms) := by simp only [World.cell?, hbt]; rfl
                  have f1 := c2a (.cells #[.int .i64 tid, .int .i64 tw, .int .i64 tg, .int .i64 tcr, .int .i64 2, .int .u16 tms, .int .i64 tlg] 60) q1; subst hit; clear hbt hh; go_wp2_with fail
                  go_region_held3 (fun W2 => W2.cell? ⟨wr.heap.size, 3, none⟩ = some (.int .i64 tcr) ∧ W2.cell? ⟨wr.heap.size, 4, none⟩ = some (.int .i64 2) ∧ W2.cell? ⟨wr.heap.size, 5, none⟩ = some (.int .u16 tms) ∧ W2.cell? ⟨g, o + k * 7 + 1, none⟩ = some (.int .i64 tcr)) (first | exact ⟨f3, f4, f5, f1⟩) (first | (go_at_call 20; refine hmh.mono ?_; rintro e w9 ⟨rfl, rfl⟩) | fail)
                  all_goals
                   go_wp2_with fail
                   go_roundw
                   case rel => exact ⟨i + 1, by omega, by go_num, by rw [HUP.out, ← HID.out]; simp, lH (HBQ.out.alloc HBQ.out.size _).drew⟩
                   case measure => simp [intOf]; omega
                · go_wp2_with fail
                  go_roundw
                  case rel => exact ⟨i + 1, by omega, by go_num, by rw [HUP.out, ← HID.out, decide_eq_false hit, Bool.or_false], lH (HBQ.out.alloc HBQ.out.size _)⟩
                  case measure => simp [intOf]; omega
              · obtain rfl : i = T := by omega
                have hup : upTo (listP s.ps) v i = true := by
                 have := upTo_all (l := listP s.ps) (x := v) (by rw [← HXV.out]; exact HC.out.1); rw [HTT.out] at this; exact this
                rw [hup]; have HQ : Hid (CareI w0 ob tn (k + 1) wr) := lH (by
                 obtain ⟨s2, h2⟩ := HL8.out; exact ⟨s2, h2.below HBQ.out⟩)
                clear hup; go_wp2_with fail
                go_roundw
                case rel => exact ⟨k + 1, by omega, by go_num, HQ⟩
                case measure => simp [intOf]; omega
         · subst h1; go_wp2_with fail
           go_roundw
           case rel => exact ⟨k + 1, by omega, by go_num, HL8⟩
           case measure => simp [intOf]; omega
       · go_wp2_with fail
         go_roundw
         case rel => exact ⟨k + 1, by omega, by go_num, HL8⟩
         case measure => simp [intOf]; omega
     · obtain ⟨s, hLW⟩ := HR.out; have HQ := lH (HB0.out.trans (hLW.bel.mono HB0.out.size)); clear hLW HR; go_wp2_with fail
       go_ret
       exact ⟨rfl, HQ.out⟩
end
end Go.Proofs.YtoiajjobecinpaaGreat

namespace Go.Proofs.YtoiajjobecinpaaGreat.topCares
open Go.ChangeShapes Go.WideShapes Go.ChangeAt Go.RowKit
open Go.ChangeMaps (open_string shut_string)
set_option linter.unusedVariables false
set_option linter.unusedSimpArgs false
theorem own : ownKnob Tryz.prog.godebug = none := by kernel_rfl
theorem laidOut : laidOutB Tryz.prog = true := by kernel_rfl
def IsRow (k : IntKind) (w : World) (a : Option Addr) (len cap : Nat) (zs : List Int) : Prop :=
 (a = none ∧ len = 0 ∧ cap = 0 ∧ zs = []) ∨
 ∃ x, a = some x ∧ len ≤ cap ∧ cap ≤ maxLen ∧ zs.length = cap ∧ (∀ i, i < zs.length → w.cell? (x.add i) = some (.int k (zs.getD i 0))) ∧ ∀ n ∈ zs, (Lit.int k n).wf = true
theorem reads_of {w : World} {a : Option Addr} {len cap : Nat} {zs : List Int} (h : IsRow .i64 w a len cap zs) : ReadsI w a len zs := by
 rcases h with ⟨_, h, _⟩ | ⟨x, rfl, hl, _, hz, hc, _⟩
 · exact .inl h
 · by_cases h0 : len = 0
   · exact .inl h0
   · obtain ⟨b, off, rfl, hc'⟩ := ints_at hc (by omega); exact .inr ⟨b, off, rfl, World.block_lt_of_cell? w _ (hc' 0 (by omega)), fun j hj => hc' j (by omega)⟩
theorem walk (a0 : Option Addr) (len0 cap0 : Nat) (z0 : List Int) (a1 : Option Addr) (len1 cap1 : Nat) (w : World) (w0 : IsRow .i64 w a0 len0 cap0 z0) (w1 : ActsAt w a1 len1) :
 Calls Tryz.prog 5 #[.slice a0 len0 cap0, .slice a1 len1 cap1] w fun e w' => e = .returned (.bool true) ∧ Below w.heap.size w w' :=
 cares_any a0 len0 cap0 z0 a1 len1 cap1 w (reads_of w0) w1
set_option maxRecDepth 100000 in
theorem lifted (os : Os) (started : os.Started) (H : Type) (enc : TypeId × Value → H) :
 ReturnsInHanded {} Tryz.checked os 5 .any (Rows.topCaresSpec.pre6 enc Tryz.prog Tryz.f5 Rows.topCaresRow.domain false) (Rows.topCaresSpec.post enc Tryz.prog Tryz.f5 false true false false) := by
 refine returnsInHanded_of_change (C := Tryz.checked) own started (by kernel_rfl) Tryz.func5
  (ChangeSpec.witness6 (enc := enc) (C := Tryz.checked) false ⟨#[], #[.slice none 0 0, .slice none 0 0], []⟩ 5 (by kernel_rfl) (by kernel_rfl) (by kernel_rfl) (by kernel_rfl)) ?_
 intro W base args ds gs before hval0 hW hcnd _; have hval : ∀ (j : Nat) t v, Tryz.f5.params[j]? = some t → args[j]? = some v → Value.okWide Tryz.prog W .any base t v := hval0; have hW' := hW; obtain ⟨p, q, hA0, hV, rfl, hfz, hnd⟩ := hW; have hA : DataW.TrodAll enc Tryz.prog W 0 (fun _ => true) true Tryz.f5.params.toList args.toList ds p := hA0; rw [Tryz.params5] at hA hval; obtain ⟨v0, vs0, d0, ds0, p0, q0, hargs, rfl, rfl, h0, r0⟩ := trodAll_cons hA; obtain ⟨v1, vs1, d1, ds1, p1, q1, rfl, rfl, rfl, h1, r1⟩ := trodAll_cons r0; obtain ⟨rfl, rfl, rfl⟩ := trodAll_nil r1; obtain rfl : args = #[v0, v1] := by cases args; simp_all
 obtain ⟨rfl, rfl⟩ := trodVars_none hV; obtain ⟨a0, len0, cap0, rfl⟩ := okWide_slice Tryz.underlying22 (hval 0 22 v0 rfl rfl); have k0 := h0; have lt0 : ∀ x ∈ p0, x.block < W.heap.size := by obtain ⟨m, hm⟩ := k0; exact DataW.trod_lt m _ _ _ hm
 obtain ⟨z0, w0⟩ : ∃ zs, IsRow .i64 W a0 len0 cap0 zs := by
  obtain ⟨fuel, hf⟩ := h0; rcases open_ints Tryz.underlying22 Tryz.underlying3 (by kernel_rfl) hf with ⟨hcs, _⟩ | ⟨x, l, c, zs, hcs, _, hl, hm, hz, _, hcell, hwz⟩
  · simp [Value.cells] at hcs
    obtain ⟨rfl, rfl, rfl⟩ := hcs; exact ⟨[], .inl ⟨rfl, rfl, rfl, rfl⟩⟩
  · simp [Value.cells] at hcs
    obtain ⟨rfl, rfl, rfl⟩ := hcs; exact ⟨zs, .inr ⟨_, rfl, hl, hm, by simpa using hz, hcell, hwz⟩⟩
 obtain ⟨a1, len1, cap1, rfl⟩ := okWide_slice Tryz.underlying23 (hval 1 23 v1 rfl rfl); have k1 := h1; have lt1 : ∀ x ∈ p1, x.block < W.heap.size := by obtain ⟨m, hm⟩ := k1; exact DataW.trod_lt m _ _ _ hm
 have w1 : ActsAt W a1 len1 := by
  obtain ⟨fuel, hf⟩ := h1; obtain ⟨p, l, c, hcs, hacts⟩ := acts_open hf; simp [Value.cells] at hcs
  obtain ⟨rfl, rfl, rfl⟩ := hcs; exact hacts
 clear hA0 hval0; refine (walk a0 len0 cap0 z0 a1 len1 cap1 W w0 w1).mono fun e W' ⟨he, bel⟩ => ?_; subst he; exact ⟨_, rfl, _, _, _, [], _, [], hW', trodAll_mk1 (shut_bool Tryz.underlying4 _), (trodAll_cons_mk (Below.trod laidOut (by kernel_rfl) (of_decide_eq_true (by kernel_rfl)) k0 bel lt0) (trodAll_cons_mk (Below.trod laidOut (by kernel_rfl) (of_decide_eq_true (by kernel_rfl)) k1 bel lt1) trodAll_mk0)), rfl, bel.frame _, fun h => by cases h⟩
theorem over : Rows.topCaresRow.holds Tryz.pinned (OpenSpec.ofChange Rows.topCaresSpec) :=
 OpenClaim.holds_of_wide 5 Tryz.f5 rfl rfl rfl rfl rfl rfl rfl ⟨rfl, rfl, rfl, rfl, rfl⟩ rfl rfl rfl rfl rfl (by kernel_rfl) Tryz.func5 (by kernel_rfl)
  (of_decide_eq_true (by kernel_rfl)) (by unfold Func.isWrapper; first | (rw [if_pos (by decide +kernel)]; kernel_rfl) | (rw [if_neg (by decide +kernel)]; exact ⟨rfl, rfl⟩))
  (fun os started H enc _ => lifted os started H enc)
theorem proved : Rows.TopCaresSaid := over
#print axioms proved
end Go.Proofs.YtoiajjobecinpaaGreat.topCares
