/- A task leaves a core; another weight on a core. A ready task leaves its core; Sleep. Contract of package account: Tick.  -/
import Derived.Test.YtoiajjobecinpaaGreatTA24
set_option maxHeartbeats 4000000
namespace Go.Proofs.YtoiajjobecinpaaGreat
open Go.RowKit Go.Shelf Go.Lib Go.Proofs
set_option linter.unusedVariables false
set_option linter.unusedSimpArgs false
def coreLeave (c : Co) (id : Int) : Int × Int × Co :=
 ((leaveL c.l id).1, (leaveL c.l id).2.1, ⟨c.tag, (leaveL c.l id).2.2, ageE (leaveL c.l id).2.1 c.age, c.srv⟩)
def coreWeigh (c : Co) (id w : Int) : Int × Co :=
 ((weighL c.l id w).1, ⟨c.tag, (weighL c.l id w).2, ageE (weighL c.l id w).1 c.age, c.srv⟩)
def CLeaveP (cb : Nat) (F : Nat → Prop) (r : Int × Int × Co) (W : World) (e : Ending) (w' : World) : Prop :=
 e = .returned (.tuple #[.int .i64 r.1, .int .i64 r.2.1]) ∧ CoreIn w' cb F r.2.2 ∧ Touch F W w'
theorem QIn.line0 {W : World} {qb : Nat} {G : Nat → Prop} {tag : Int} {l : Ln} (h : QIn W qb G tag l) : ∃ lb v, W.cell? ⟨qb, 0, none⟩ = some (.iface (qty tag) (.pointer (some ⟨lb, 0, none⟩))) ∧ LineAt W lb v l ∧ (tag = 0 ∨ tag = 1 ∨ tag = 2) ∧
 ∀ (w1 : World) (v' : Value) (l' : Ln), LineAt w1 lb v' l' → Touch (lfp lb v) W w1 → (∀ k, v'.ownBlock = some k → v.ownBlock = some k) → QIn w1 qb G tag l' ∧ Touch G W w1 := by
 obtain ⟨lb, v, h1, h2, h3, h4, h5, h6, h7, h8⟩ := h; refine ⟨lb, v, h1, h4, h7, fun w1 v' l' hl ht hv => ?_⟩; have hqb : w1.heap[qb]? = W.heap[qb]? := ht.block qb (h8 qb h5) (fun hk => (h6 qb hk).2 rfl); have h0 : ∀ i, w1.cell? ⟨qb, i, none⟩ = W.cell? ⟨qb, i, none⟩ := fun i => World.cell?_of_block hqb; have h0' : ∀ i, w1.frozen? ⟨qb, i, none⟩ = W.frozen? ⟨qb, i, none⟩ := fun i => World.frozen?_of_block hqb; exact ⟨⟨lb, v', (h0 0).trans h1, (h0 1).trans h2, fun i => (h0' i).trans (h3 i), hl, h5, fun k hk => hk.elim (fun e => h6 k (.inl e)) (fun e => h6 k (.inr (hv k e))), h7, fun k hk => Nat.lt_of_lt_of_le (h8 k hk) ht.size⟩, ht.wider (fun k hk => (h6 k hk).1)⟩
theorem qleave_stride (b : Nat) (v : Value) (l : Ln) (id : Int) (W : World) (h : LineAt W b v l) (hf : Fits l) :
 Calls Tryz.prog 263 #[.pointer (some ⟨b, 0, none⟩), .int .i64 id] W (LeaveP b v (leaveL l id) W) := by
 have hp := leave_any b v l id W h hf.1 hf.2.2.1 (fun p hp => (hf.2.2.2 p hp).1); generalize leaveL l id = r at hp ⊢; unfold LeaveP at hp; obtain ⟨r1, r2, r3⟩ := r; simp only at hp; clear h hf; go_enter Tryz.func263, Tryz.ntmps263; go_wp2_with fail
 refine hp.mono ?_; rintro e w' ⟨rfl, hb⟩; have HB := lH hb; clear hb hp; go_wp2_with fail
 go_ret2
 exact ⟨rfl, HB.out⟩
theorem qweigh_stride (b : Nat) (v : Value) (l : Ln) (id w : Int) (W : World) (h : LineAt W b v l) (hf : Fits l) :
 Calls Tryz.prog 266 #[.pointer (some ⟨b, 0, none⟩), .int .i64 id, .int .i64 w] W (WeighP b v (weighL l id w) W) := by
 have hp := weigh_any b v l id w W h hf.1 (fun p hp => (hf.2.2.2 p hp).1); generalize weighL l id w = r at hp ⊢; unfold WeighP at hp; obtain ⟨r1, r3⟩ := r; simp only at hp; clear h hf; go_enter Tryz.func266, Tryz.ntmps266; go_wp2_with fail
 refine hp.mono ?_; rintro e w' ⟨rfl, hb⟩; have HB := lH hb; clear hb hp; go_wp2_with fail
 go_ret
 exact ⟨rfl, HB.out⟩
set_option maxRecDepth 100000 in
theorem cleave_stride (cb : Nat) (F : Nat → Prop) (c : Co) (id : Int) (W : World) (h : CoreIn W cb F c) (hf : Fits c.l) (ht : c.tag = 0) :
 Calls Tryz.prog 151 #[.pointer (some ⟨cb, 0, none⟩), .int .i64 id] W (CLeaveP cb F (coreLeave c id) W) := by
 obtain ⟨qb, G, c0, hQ, hGF, hback⟩ := h.q; obtain ⟨lb, v, q0, hL, -, hq⟩ := hQ.line0; have HLT : Hid (∀ k, F k → k < W.heap.size) := lH (fun k hk => h.lt k hk); have HQT : Hid (qty c.tag = 235) := lH (by rw [ht]; unfold qty; simp); rw [HQT.out] at q0; have hmeth := fun W' => meth_Leave_stride (.pointer (some ⟨lb, 0, none⟩)) W'; have hent := qleave_stride lb v c.l id W hL hf; unfold coreLeave; generalize leaveL c.l id = r at hent ⊢; obtain ⟨r1, r2, l'⟩ := r; unfold LeaveP at hent; simp only at hent ⊢; have HQ := lH hq; have HBK := lH hback; have HGF := lH hGF; clear h hf ht hQ hGF hback hq hL; go_enter Tryz.func151, Tryz.ntmps151; go_wp2_with fail
 refine hent.mono ?_; rintro e w1 ⟨rfl, v', hL1, ht1, hv1⟩; obtain ⟨q1, q2⟩ := HQ.out w1 v' l' hL1 ht1 hv1; have hC1 := HBK.out w1 G c.tag l' q1 q2 (fun k hk => .inl hk); have hdone := done_any cb _ _ r2 w1 hC1; have HT1 := lH (q2.wider HGF.out); have HF1 : Hid (∀ k, (F k ∨ G k) → F k) := lH (fun k hk => hk.elim (fun h => h) (HGF.out k)); clear hL1 ht1 hv1 q1 q2 hC1 hent; go_wp2_with fail
 refine hdone.mono ?_; rintro e w2 ⟨rfl, hC2, hT2⟩; have HC2 := lH hC2; have HT2 := lH hT2; clear hC2 hT2 hdone; go_wp2_with fail
 go_ret2
 exact ⟨rfl, HC2.out.wider HF1.out (fun k hk => Nat.lt_of_lt_of_le (Nat.lt_of_lt_of_le (HLT.out k hk) HT1.out.size) HT2.out.size), HT1.out.trans (fun k hk => .inl (HF1.out k hk)) HT2.out⟩
set_option maxRecDepth 100000 in
theorem cweigh_stride (cb : Nat) (F : Nat → Prop) (c : Co) (id w : Int) (W : World) (h : CoreIn W cb F c) (hf : Fits c.l) (ht : c.tag = 0) :
 Calls Tryz.prog 108 #[.pointer (some ⟨cb, 0, none⟩), .int .i64 id, .int .i64 w] W (CEnterP cb F (coreWeigh c id w) W) := by
 obtain ⟨qb, G, c0, hQ, hGF, hback⟩ := h.q; obtain ⟨lb, v, q0, hL, -, hq⟩ := hQ.line; have HQT : Hid (qty c.tag = 235) := lH (by rw [ht]; unfold qty; simp); rw [HQT.out] at q0; have hmeth := fun W' => meth_Weigh_stride (.pointer (some ⟨lb, 0, none⟩)) W'; have hent := qweigh_stride lb v c.l id w W hL hf; unfold coreWeigh; generalize weighL c.l id w = r at hent ⊢; obtain ⟨r2, l'⟩ := r; unfold WeighP at hent; simp only at hent ⊢; have HQ := lH hq; have HBK := lH hback; have HGF := lH hGF; clear h hf ht hQ hGF hback hq hL; go_enter Tryz.func108, Tryz.ntmps108; go_wp2_with fail
 refine hent.mono ?_; rintro e w1 ⟨rfl, hL1, ht1⟩; obtain ⟨G', q1, q2, q3⟩ := HQ.out w1 v l' hL1 ht1 (fun k hk => .inl hk); have hC1 := HBK.out w1 G' c.tag l' q1 q2 q3; have hdone := done_any cb _ _ r2 w1 hC1; have HT1 := lH (q2.wider HGF.out); have HF1 : Hid (∀ k, (F k ∨ G' k) → F k ∨ W.heap.size ≤ k) := lH (fun k hk => hk.elim .inl (fun h => (q3 k h).imp (HGF.out k) (fun h => h))); clear hL1 ht1 q1 q2 q3 hC1 hent; go_wp2_with fail
 refine hdone.mono ?_; rintro e w2 ⟨rfl, hC2, hT2⟩; have HC2 := lH hC2; have HT2 := lH hT2; clear hC2 hT2 hdone; go_wp2_with fail
 go_ret
 exact ⟨rfl, _, HC2.out, HT1.out.trans (fun k hk => HF1.out k hk) HT2.out, HF1.out⟩
theorem qleave_fair (b : Nat) (v : Value) (l : Ln) (id : Int) (W : World) (h : LineAt W b v l) (hf : Fits l) :
 Calls Tryz.prog 304 #[.pointer (some ⟨b, 0, none⟩), .int .i64 id] W (LeaveP b v (leaveL l id) W) := by
 have hp := leave_any b v l id W h hf.1 hf.2.2.1 (fun p hp => (hf.2.2.2 p hp).1); generalize leaveL l id = r at hp ⊢; unfold LeaveP at hp; obtain ⟨r1, r2, r3⟩ := r; simp only at hp; clear h hf; go_enter Tryz.func304, Tryz.ntmps304; go_wp2_with fail
 refine hp.mono ?_; rintro e w' ⟨rfl, hb⟩; have HB := lH hb; clear hb hp; go_wp2_with fail
 go_ret2
 exact ⟨rfl, HB.out⟩
theorem qweigh_fair (b : Nat) (v : Value) (l : Ln) (id w : Int) (W : World) (h : LineAt W b v l) (hf : Fits l) :
 Calls Tryz.prog 307 #[.pointer (some ⟨b, 0, none⟩), .int .i64 id, .int .i64 w] W (WeighP b v (weighL l id w) W) := by
 have hp := weigh_any b v l id w W h hf.1 (fun p hp => (hf.2.2.2 p hp).1); generalize weighL l id w = r at hp ⊢; unfold WeighP at hp; obtain ⟨r1, r3⟩ := r; simp only at hp; clear h hf; go_enter Tryz.func307, Tryz.ntmps307; go_wp2_with fail
 refine hp.mono ?_; rintro e w' ⟨rfl, hb⟩; have HB := lH hb; clear hb hp; go_wp2_with fail
 go_ret
 exact ⟨rfl, HB.out⟩
set_option maxRecDepth 100000 in
theorem cleave_fair (cb : Nat) (F : Nat → Prop) (c : Co) (id : Int) (W : World) (h : CoreIn W cb F c) (hf : Fits c.l) (ht : c.tag = 1) :
 Calls Tryz.prog 151 #[.pointer (some ⟨cb, 0, none⟩), .int .i64 id] W (CLeaveP cb F (coreLeave c id) W) := by
 obtain ⟨qb, G, c0, hQ, hGF, hback⟩ := h.q; obtain ⟨lb, v, q0, hL, -, hq⟩ := hQ.line0; have HLT : Hid (∀ k, F k → k < W.heap.size) := lH (fun k hk => h.lt k hk); have HQT : Hid (qty c.tag = 239) := lH (by rw [ht]; unfold qty; simp); rw [HQT.out] at q0; have hmeth := fun W' => meth_Leave_fair (.pointer (some ⟨lb, 0, none⟩)) W'; have hent := qleave_fair lb v c.l id W hL hf; unfold coreLeave; generalize leaveL c.l id = r at hent ⊢; obtain ⟨r1, r2, l'⟩ := r; unfold LeaveP at hent; simp only at hent ⊢; have HQ := lH hq; have HBK := lH hback; have HGF := lH hGF; clear h hf ht hQ hGF hback hq hL; go_enter Tryz.func151, Tryz.ntmps151; go_wp2_with fail
 refine hent.mono ?_; rintro e w1 ⟨rfl, v', hL1, ht1, hv1⟩; obtain ⟨q1, q2⟩ := HQ.out w1 v' l' hL1 ht1 hv1; have hC1 := HBK.out w1 G c.tag l' q1 q2 (fun k hk => .inl hk); have hdone := done_any cb _ _ r2 w1 hC1; have HT1 := lH (q2.wider HGF.out); have HF1 : Hid (∀ k, (F k ∨ G k) → F k) := lH (fun k hk => hk.elim (fun h => h) (HGF.out k)); clear hL1 ht1 hv1 q1 q2 hC1 hent; go_wp2_with fail
 refine hdone.mono ?_; rintro e w2 ⟨rfl, hC2, hT2⟩; have HC2 := lH hC2; have HT2 := lH hT2; clear hC2 hT2 hdone; go_wp2_with fail
 go_ret2
 exact ⟨rfl, HC2.out.wider HF1.out (fun k hk => Nat.lt_of_lt_of_le (Nat.lt_of_lt_of_le (HLT.out k hk) HT1.out.size) HT2.out.size), HT1.out.trans (fun k hk => .inl (HF1.out k hk)) HT2.out⟩
set_option maxRecDepth 100000 in
theorem cweigh_fair (cb : Nat) (F : Nat → Prop) (c : Co) (id w : Int) (W : World) (h : CoreIn W cb F c) (hf : Fits c.l) (ht : c.tag = 1) :
 Calls Tryz.prog 108 #[.pointer (some ⟨cb, 0, none⟩), .int .i64 id, .int .i64 w] W (CEnterP cb F (coreWeigh c id w) W) := by
 obtain ⟨qb, G, c0, hQ, hGF, hback⟩ := h.q; obtain ⟨lb, v, q0, hL, -, hq⟩ := hQ.line; have HQT : Hid (qty c.tag = 239) := lH (by rw [ht]; unfold qty; simp); rw [HQT.out] at q0; have hmeth := fun W' => meth_Weigh_fair (.pointer (some ⟨lb, 0, none⟩)) W'; have hent := qweigh_fair lb v c.l id w W hL hf; unfold coreWeigh; generalize weighL c.l id w = r at hent ⊢; obtain ⟨r2, l'⟩ := r; unfold WeighP at hent; simp only at hent ⊢; have HQ := lH hq; have HBK := lH hback; have HGF := lH hGF; clear h hf ht hQ hGF hback hq hL; go_enter Tryz.func108, Tryz.ntmps108; go_wp2_with fail
 refine hent.mono ?_; rintro e w1 ⟨rfl, hL1, ht1⟩; obtain ⟨G', q1, q2, q3⟩ := HQ.out w1 v l' hL1 ht1 (fun k hk => .inl hk); have hC1 := HBK.out w1 G' c.tag l' q1 q2 q3; have hdone := done_any cb _ _ r2 w1 hC1; have HT1 := lH (q2.wider HGF.out); have HF1 : Hid (∀ k, (F k ∨ G' k) → F k ∨ W.heap.size ≤ k) := lH (fun k hk => hk.elim .inl (fun h => (q3 k h).imp (HGF.out k) (fun h => h))); clear hL1 ht1 q1 q2 q3 hC1 hent; go_wp2_with fail
 refine hdone.mono ?_; rintro e w2 ⟨rfl, hC2, hT2⟩; have HC2 := lH hC2; have HT2 := lH hT2; clear hC2 hT2 hdone; go_wp2_with fail
 go_ret
 exact ⟨rfl, _, HC2.out, HT1.out.trans (fun k hk => HF1.out k hk) HT2.out, HF1.out⟩
theorem qleave_due (b : Nat) (v : Value) (l : Ln) (id : Int) (W : World) (h : LineAt W b v l) (hf : Fits l) :
 Calls Tryz.prog 314 #[.pointer (some ⟨b, 0, none⟩), .int .i64 id] W (LeaveP b v (leaveL l id) W) := by
 have hp := leave_any b v l id W h hf.1 hf.2.2.1 (fun p hp => (hf.2.2.2 p hp).1); generalize leaveL l id = r at hp ⊢; unfold LeaveP at hp; obtain ⟨r1, r2, r3⟩ := r; simp only at hp; clear h hf; go_enter Tryz.func314, Tryz.ntmps314; go_wp2_with fail
 refine hp.mono ?_; rintro e w' ⟨rfl, hb⟩; have HB := lH hb; clear hb hp; go_wp2_with fail
 go_ret2
 exact ⟨rfl, HB.out⟩
theorem qweigh_due (b : Nat) (v : Value) (l : Ln) (id w : Int) (W : World) (h : LineAt W b v l) (hf : Fits l) :
 Calls Tryz.prog 317 #[.pointer (some ⟨b, 0, none⟩), .int .i64 id, .int .i64 w] W (WeighP b v (weighL l id w) W) := by
 have hp := weigh_any b v l id w W h hf.1 (fun p hp => (hf.2.2.2 p hp).1); generalize weighL l id w = r at hp ⊢; unfold WeighP at hp; obtain ⟨r1, r3⟩ := r; simp only at hp; clear h hf; go_enter Tryz.func317, Tryz.ntmps317; go_wp2_with fail
 refine hp.mono ?_; rintro e w' ⟨rfl, hb⟩; have HB := lH hb; clear hb hp; go_wp2_with fail
 go_ret
 exact ⟨rfl, HB.out⟩
set_option maxRecDepth 100000 in
theorem cleave_due (cb : Nat) (F : Nat → Prop) (c : Co) (id : Int) (W : World) (h : CoreIn W cb F c) (hf : Fits c.l) (ht : c.tag = 2) :
 Calls Tryz.prog 151 #[.pointer (some ⟨cb, 0, none⟩), .int .i64 id] W (CLeaveP cb F (coreLeave c id) W) := by
 obtain ⟨qb, G, c0, hQ, hGF, hback⟩ := h.q; obtain ⟨lb, v, q0, hL, -, hq⟩ := hQ.line0; have HLT : Hid (∀ k, F k → k < W.heap.size) := lH (fun k hk => h.lt k hk); have HQT : Hid (qty c.tag = 242) := lH (by rw [ht]; unfold qty; simp); rw [HQT.out] at q0; have hmeth := fun W' => meth_Leave_due (.pointer (some ⟨lb, 0, none⟩)) W'; have hent := qleave_due lb v c.l id W hL hf; unfold coreLeave; generalize leaveL c.l id = r at hent ⊢; obtain ⟨r1, r2, l'⟩ := r; unfold LeaveP at hent; simp only at hent ⊢; have HQ := lH hq; have HBK := lH hback; have HGF := lH hGF; clear h hf ht hQ hGF hback hq hL; go_enter Tryz.func151, Tryz.ntmps151; go_wp2_with fail
 refine hent.mono ?_; rintro e w1 ⟨rfl, v', hL1, ht1, hv1⟩; obtain ⟨q1, q2⟩ := HQ.out w1 v' l' hL1 ht1 hv1; have hC1 := HBK.out w1 G c.tag l' q1 q2 (fun k hk => .inl hk); have hdone := done_any cb _ _ r2 w1 hC1; have HT1 := lH (q2.wider HGF.out); have HF1 : Hid (∀ k, (F k ∨ G k) → F k) := lH (fun k hk => hk.elim (fun h => h) (HGF.out k)); clear hL1 ht1 hv1 q1 q2 hC1 hent; go_wp2_with fail
 refine hdone.mono ?_; rintro e w2 ⟨rfl, hC2, hT2⟩; have HC2 := lH hC2; have HT2 := lH hT2; clear hC2 hT2 hdone; go_wp2_with fail
 go_ret2
 exact ⟨rfl, HC2.out.wider HF1.out (fun k hk => Nat.lt_of_lt_of_le (Nat.lt_of_lt_of_le (HLT.out k hk) HT1.out.size) HT2.out.size), HT1.out.trans (fun k hk => .inl (HF1.out k hk)) HT2.out⟩
set_option maxRecDepth 100000 in
theorem cweigh_due (cb : Nat) (F : Nat → Prop) (c : Co) (id w : Int) (W : World) (h : CoreIn W cb F c) (hf : Fits c.l) (ht : c.tag = 2) :
 Calls Tryz.prog 108 #[.pointer (some ⟨cb, 0, none⟩), .int .i64 id, .int .i64 w] W (CEnterP cb F (coreWeigh c id w) W) := by
 obtain ⟨qb, G, c0, hQ, hGF, hback⟩ := h.q; obtain ⟨lb, v, q0, hL, -, hq⟩ := hQ.line; have HQT : Hid (qty c.tag = 242) := lH (by rw [ht]; unfold qty; simp); rw [HQT.out] at q0; have hmeth := fun W' => meth_Weigh_due (.pointer (some ⟨lb, 0, none⟩)) W'; have hent := qweigh_due lb v c.l id w W hL hf; unfold coreWeigh; generalize weighL c.l id w = r at hent ⊢; obtain ⟨r2, l'⟩ := r; unfold WeighP at hent; simp only at hent ⊢; have HQ := lH hq; have HBK := lH hback; have HGF := lH hGF; clear h hf ht hQ hGF hback hq hL; go_enter Tryz.func108, Tryz.ntmps108; go_wp2_with fail
 refine hent.mono ?_; rintro e w1 ⟨rfl, hL1, ht1⟩; obtain ⟨G', q1, q2, q3⟩ := HQ.out w1 v l' hL1 ht1 (fun k hk => .inl hk); have hC1 := HBK.out w1 G' c.tag l' q1 q2 q3; have hdone := done_any cb _ _ r2 w1 hC1; have HT1 := lH (q2.wider HGF.out); have HF1 : Hid (∀ k, (F k ∨ G' k) → F k ∨ W.heap.size ≤ k) := lH (fun k hk => hk.elim .inl (fun h => (q3 k h).imp (HGF.out k) (fun h => h))); clear hL1 ht1 q1 q2 q3 hC1 hent; go_wp2_with fail
 refine hdone.mono ?_; rintro e w2 ⟨rfl, hC2, hT2⟩; have HC2 := lH hC2; have HT2 := lH hT2; clear hC2 hT2 hdone; go_wp2_with fail
 go_ret
 exact ⟨rfl, _, HC2.out, HT1.out.trans (fun k hk => HF1.out k hk) HT2.out, HF1.out⟩
theorem cleave_any (cb : Nat) (F : Nat → Prop) (c : Co) (id : Int) (W : World) (h : CoreIn W cb F c) (hf : Fits c.l) :
 Calls Tryz.prog 151 #[.pointer (some ⟨cb, 0, none⟩), .int .i64 id] W (CLeaveP cb F (coreLeave c id) W) := by
 obtain ⟨qb, G, c0, hQ, hGF, hback⟩ := h.q; obtain ⟨lb, v, q0, hL, ht, hq⟩ := hQ.line; rcases ht with ht | ht | ht
 · exact cleave_stride cb F c id W h hf ht
 · exact cleave_fair cb F c id W h hf ht
 · exact cleave_due cb F c id W h hf ht
theorem cweigh_any (cb : Nat) (F : Nat → Prop) (c : Co) (id w : Int) (W : World) (h : CoreIn W cb F c) (hf : Fits c.l) :
 Calls Tryz.prog 108 #[.pointer (some ⟨cb, 0, none⟩), .int .i64 id, .int .i64 w] W (CEnterP cb F (coreWeigh c id w) W) := by
 obtain ⟨qb, G, c0, hQ, hGF, hback⟩ := h.q; obtain ⟨lb, v, q0, hL, ht, hq⟩ := hQ.line; rcases ht with ht | ht | ht
 · exact cweigh_stride cb F c id w W h hf ht
 · exact cweigh_fair cb F c id w W h hf ht
 · exact cweigh_due cb F c id w W h hf ht
def lagT (t : Tk) (x : Int) : Tk := ⟨t.id, t.w, t.group, t.core, t.state, t.mask, x⟩
def leaveY (s : Sy) (id : Int) (t : Tk) (i : Nat) : Sy :=
 if t.state = 2 then setTk (setCo s i (coreLeave s.cores[i]! t.id).2.2) id (lagT t (coreLeave s.cores[i]! t.id).1) else s
def leaveT (s : Sy) (t : Tk) (i : Nat) : Tk := if t.state = 2 then lagT t (coreLeave s.cores[i]! t.id).1 else t
theorem TaskAt.setLag {W : World} {b : Nat} {t : Tk} (h : TaskAt W b t) (x : Int) : TaskAt (W.setCell ⟨b, 6, none⟩ (.int .i64 x)) b (lagT t x) := by
 refine ⟨?_, ?_, ?_, ?_, ?_, ?_, World.cell?_setCell_same _ _ _ h.lag, fun i => (World.frozen?_setCell _ _ _ _).trans (h.live i)⟩
 · rw [cell_setCell_ne _ (by simp)]; exact h.id
 · rw [cell_setCell_ne _ (by simp)]; exact h.w
 · rw [cell_setCell_ne _ (by simp)]; exact h.group
 · rw [cell_setCell_ne _ (by simp)]; exact h.core
 · rw [cell_setCell_ne _ (by simp)]; exact h.state
 · rw [cell_setCell_ne _ (by simp)]; exact h.mask
theorem keep6 {W : World} {sb g b : Nat} {o : Nat} {v1 v2 v3 v4 : Value} (h : (W.cell? ⟨sb, 0, none⟩ = some v1 ∧ W.cell? ⟨g, o, none⟩ = some v2) ∧ W.cell? ⟨b, 0, none⟩ = some v3 ∧ W.cell? ⟨b, 3, none⟩ = some v4) (h1 : sb ≠ b) (h2 : g ≠ b) (x : Value) :
 ((W.setCell ⟨b, 6, none⟩ x).cell? ⟨sb, 0, none⟩ = some v1 ∧ (W.setCell ⟨b, 6, none⟩ x).cell? ⟨g, o, none⟩ = some v2) ∧ (W.setCell ⟨b, 6, none⟩ x).cell? ⟨b, 0, none⟩ = some v3 ∧ (W.setCell ⟨b, 6, none⟩ x).cell? ⟨b, 3, none⟩ = some v4 := by
 refine ⟨⟨?_, ?_⟩, ?_, ?_⟩
 · rw [cell_setCell_ne _ (by simp [h1])]; exact h.1.1
 · rw [cell_setCell_ne _ (by simp [h2])]; exact h.1.2
 · rw [cell_setCell_ne _ (by simp)]; exact h.2.1
 · rw [cell_setCell_ne _ (by simp)]; exact h.2.2
def YO (sb gb nb pb mb n : Nat) (cv : Value) (D : DataW Unit) (cbs : List Nat) (tb : Int → Nat) (own : Nat → Option Own) (s' : Sy) (W w' : World) : Prop :=
 SysAt w' sb gb nb pb mb n cv D cbs tb own s' ∧ Touch (fun k => own k ≠ none) W w'
theorem SysAt.setCore0 {W W' : World} {sb gb nb pb mb n : Nat} {cv : Value} {D : DataW Unit} {cbs : List Nat} {tb : Int → Nat} {own : Nat → Option Own} {s : Sy} (h : SysAt W sb gb nb pb mb n cv D cbs tb own s)
 {i : Nat} (hi : i < cbs.length) {c' : Co} (hc : CoreIn W' cbs[i]! (fun k => own k = some (.core i)) c') (ht : Touch (fun k => own k = some (.core i)) W W') :
 SysAt W' sb gb nb pb mb n cv D cbs tb own ⟨s.cores.set i c', s.gs, s.acc, s.ps, s.tasks, s.cnt⟩ := by
 have hb : ∀ k x, own k = some x → x ≠ .core i → W'.heap[k]? = W.heap[k]? := fun k x hk hx => ht.block k (h.lt k (by rw [hk]; simp)) (by rw [hk]; simpa using hx); have bsb := hb sb _ h.osb (by simp); have h0 : ∀ i, W'.cell? ⟨sb, i, none⟩ = W.cell? ⟨sb, i, none⟩ := fun i => World.cell?_of_block bsb; have h1 : ∀ i, W'.frozen? ⟨sb, i, none⟩ = W.frozen? ⟨sb, i, none⟩ := fun i => World.frozen?_of_block bsb; have hlt' : ∀ k, own k ≠ none → k < W'.heap.size := fun k hk => Nat.lt_of_lt_of_le (h.lt k hk) ht.size; refine ⟨(h0 _).trans h.head, (h0 _).trans h.c1, fun j hj => ?_, (h0 _).trans h.c66, (h0 _).trans h.c67, fun j => (h1 j).trans (h.live j), h.groups.same (hb gb _ h.ogb (by simp)), h.slots.same (hb nb _ h.onb (by simp)) (hb pb _ h.opb (by simp)),
  ownsMap_same h.map (hb mb _ h.omb (by simp)), h.cnt, h.reads, fun id t hid => ?_, ownsRow_same h.row (fun k hk => hb k _ (h.rown k hk) (by simp)), h.rown, by rw [List.length_set]; exact h.num, fun j hj => ?_,
  h.osb, h.ogb, h.onb, h.opb, h.omb, hlt'⟩
 · obtain ⟨a1, a2, a3, a4⟩ := h.acc j hj; exact ⟨(h0 _).trans a1, (h0 _).trans a2, (h0 _).trans a3, (h0 _).trans a4⟩
 · obtain ⟨t1, t2⟩ := h.task id t hid; exact ⟨t1.same (hb _ _ t2 (by simp)), t2⟩
 · simp only
   rw [getElem!_set_co _ _ _ _ (by rw [← h.num]; exact hj)]; by_cases e : i = j
   · subst e; rw [if_pos rfl]; exact hc
   · rw [if_neg e]; have hcj := h.core j hj; exact hcj.same ht.size (fun k hk => hb k _ hk (by simp; omega))
set_option maxRecDepth 100000 in
theorem sleave0 (sb gb nb pb mb n : Nat) (cv : Value) (D : DataW Unit) (cbs : List Nat) (tb : Int → Nat) (own : Nat → Option Own) (s : Sy) (id : Int) (t : Tk) (i : Nat) (W : World) (h : SysAt W sb gb nb pb mb n cv D cbs tb own s)
 (ht : s.tasks id = some t) (hi : t.state = 2 → t.core = (i : Int) ∧ i < cbs.length) (hf : FitsY s) :
 Calls Tryz.prog 105 #[.pointer (some ⟨sb, 0, none⟩), .pointer (some ⟨tb id, 0, none⟩)] W fun e w' => e = .returned (.tuple #[]) ∧
  YO sb gb nb pb mb n cv D cbs tb own (leaveY s id t i) W w' := by
 obtain ⟨hT, hto⟩ := h.task id t ht; have c4 := hT.state; by_cases hst : t.state = 2
 · obtain ⟨hic, hil⟩ := hi hst; have hres : leaveY s id t i = setTk (setCo s i (coreLeave s.cores[i]! t.id).2.2) id (lagT t (coreLeave s.cores[i]! t.id).1) := by unfold leaveY; rw [if_pos hst]
   rw [hres]; obtain ⟨g, c, hcv⟩ := h.form (by omega); have hci := h.core i hil; have hfi := hf i (by rw [← h.num]; exact hil); obtain ⟨b, hb⟩ : ∃ b, tb id = b := ⟨_, rfl⟩
   obtain ⟨cb, hcb⟩ : ∃ cb, cbs[i]! = cb := ⟨_, rfl⟩
   rw [hb] at c4 ⊢; rw [hcb] at hci; have hcl : ∀ W', W'.heap = W.heap → Calls Tryz.prog 151 #[.pointer (some ⟨cb, 0, none⟩), .int .i64 t.id] W' (CLeaveP cb (fun k => own k = some (.core i)) (coreLeave s.cores[i]! t.id) W') := fun W' hW' =>
    cleave_any cb _ s.cores[i]! t.id W' (hci.same (by rw [hW']; exact Nat.le_refl _) (fun k _ => by rw [hW'])) hfi
   obtain ⟨r, hr⟩ : ∃ r, coreLeave s.cores[i]! t.id = r := ⟨_, rfl⟩
   rw [hr] at hcl ⊢; obtain ⟨m, hm⟩ : ∃ m, cbs.length = m := ⟨_, rfl⟩
   have hi1 : (i : Int) < (m : Int) := by omega
   have hi0 : 0 ≤ (i : Int) := by omega
   have k1 : W.cell? ⟨sb, 0, none⟩ = some (.slice (some ⟨g, 0, none⟩) m c) := h.head.trans (by rw [hcv, hm])
   have k2 : W.cell? ⟨g, i, none⟩ = some (.pointer (some ⟨cb, 0, none⟩)) := by
    have hcv' := hcv; subst hcv'; rw [← hcb]; exact h.coreCell i hil
   have k3 : W.cell? ⟨b, 0, none⟩ = some (.int .i64 t.id) := by rw [← hb]; exact hT.id
   have k4 : W.cell? ⟨b, 3, none⟩ = some (.int .i64 i) := by rw [← hb, ← hic]; exact hT.core
   have hg : own g = some .row := h.rown g (by rw [hcv]; rfl); have HE : Hid (∀ W' : World, (∀ j, own j ≠ some (.core i) → j < W.heap.size → W'.heap[j]? = W.heap[j]?) →
    (W'.cell? ⟨sb, 0, none⟩ = some (.slice (some ⟨g, 0, none⟩) m c) ∧ W'.cell? ⟨g, i, none⟩ = some (.pointer (some ⟨cb, 0, none⟩))) ∧ W'.cell? ⟨b, 0, none⟩ = some (.int .i64 t.id) ∧ W'.cell? ⟨b, 3, none⟩ = some (.int .i64 i)) := lH (fun W' hW' => by
    have e : ∀ j x, own j = some x → x ≠ .core i → W'.heap[j]? = W.heap[j]? := fun j x hj hx => hW' j (by rw [hj]; simpa using hx) (h.lt j (by rw [hj]; simp)); have e1 := e sb _ h.osb (by simp); have e2 := e g _ hg (by simp); have e3 := e b _ (by rw [← hb]; exact hto) (by simp); exact ⟨⟨(World.cell?_of_block (a := ⟨sb, 0, none⟩) e1).trans k1, (World.cell?_of_block (a := ⟨g, i, none⟩) e2).trans k2⟩, (World.cell?_of_block (a := ⟨b, 0, none⟩) e3).trans k3, (World.cell?_of_block (a := ⟨b, 3, none⟩) e3).trans k4⟩)
   have HN1 : Hid (sb ≠ b ∧ g ≠ b) := lH ⟨(fun e => by have a := h.osb; rw [e, ← hb, hto] at a; cases a), (fun e => by have a := hg; rw [e, ← hb, hto] at a; cases a)⟩; have HE6 : Hid (∀ W' : World, (∀ j, own j ≠ some (.core i) → j < W.heap.size → W'.heap[j]? = W.heap[j]?) → W'.cell? ⟨b, 6, none⟩ = some (.int .i64 t.lag) ∧ W'.frozen? ⟨b, 6, none⟩ = false) := lH (fun W' hW' => by
    have e3 : W'.heap[b]? = W.heap[b]? := hW' b (by rw [← hb, hto]; simp) (h.lt b (by rw [← hb, hto]; simp)); exact ⟨(World.cell?_of_block (a := ⟨b, 6, none⟩) e3).trans (by rw [← hb]; exact hT.lag), (World.frozen?_of_block (a := ⟨b, 6, none⟩) e3).trans (by rw [← hb]; exact hT.live 6)⟩)
   have HS := lH h; have HT := lH ht; have HB := lH hb; have HCB := lH hcb; have HM := lH hm; have HIL := lH hil; have HTO := lH hto; have hst' : (t.state == 2) = true := by simp [hst]
   rw [hst] at c4; clear h ht hi hf hT hto hcv hci hfi hb hcb hr hm hil hg hres hst hic; go_enter Tryz.func105, Tryz.ntmps105; go_wp2_with fail
   go_region_held3 (fun W2 => (W2.cell? ⟨sb, 0, none⟩ = some (.slice (some ⟨g, 0, none⟩) m c) ∧ W2.cell? ⟨g, i, none⟩ = some (.pointer (some ⟨cb, 0, none⟩))) ∧ W2.cell? ⟨b, 0, none⟩ = some (.int .i64 t.id) ∧ W2.cell? ⟨b, 3, none⟩ = some (.int .i64 i)) (first | exact ⟨⟨k1, k2⟩, k3, k4⟩ | exact hE9 | exact hE10) (first | (go_at_call 151; refine (hcl W.drew rfl).mono ?_; rintro e w9 ⟨rfl, hC9⟩; have hE9 := HE.out w9 (fun j hj hjl => hC9.2.block j hjl hj); obtain ⟨c6, f6⟩ := HE6.out w9 (fun j hj hjl => hC9.2.block j hjl hj); have hE10 := keep6 hE9 HN1.out.1 HN1.out.2 (.int .i64 r.1)) | fail)
   obtain ⟨c1, c2⟩ := hC9; have ht9 : Touch (fun k => own k = some (.core i)) W w9 := ((Touch.refl _ W).drew).self c2; have hS9 := HS.out.setCore0 (i := i) HIL.out (by rw [HCB.out]; exact c1) ht9; have HS9 : Hid (SysAt w9 sb gb nb pb mb n cv D cbs tb own (setCo s i r.2.2)) := lH hS9; have HT9 := lH ht9; have hT9 := HS9.out.task id t HT.out; have HTT := lH hT9; clear hE9 hE10 c1 c2 ht9 hS9 k1 k2 k3 k4 c6 f6 hT9 hcl c4; go_end0
   have hTT := HTT.out; rw [HB.out] at hTT; refine ⟨rfl, HS9.out.setTask HT.out (by rw [HB.out]; exact hTT.1.setLag _) (by rw [HB.out]; exact touch1 _ _ _ _), ?_⟩; have e1 : Touch (fun k => own k ≠ none) W w9 := HT9.out.wider (fun k hk => by rw [hk]; simp); exact e1.self ((touch1 w9 b 6 (.int .i64 r.1)).wider (fun k hk => by rw [hk, ← HB.out, HTO.out]; simp))
 · have hres : leaveY s id t i = s := by unfold leaveY; rw [if_neg hst]
   rw [hres]; have HS := lH h; clear h ht hi hf hT hto hres; go_enter Tryz.func105, Tryz.ntmps105; go_wp2_with fail
   go_end0
   exact ⟨rfl, HS.out, Touch.refl _ _⟩
theorem sleave_any (sb gb nb pb mb n : Nat) (cv : Value) (D : DataW Unit) (cbs : List Nat) (tb : Int → Nat) (own : Nat → Option Own) (s : Sy) (id : Int) (t : Tk) (i : Nat) (W : World) (h : SysAt W sb gb nb pb mb n cv D cbs tb own s)
 (ht : s.tasks id = some t) (hi : t.state = 2 → t.core = (i : Int) ∧ i < cbs.length) (hf : FitsY s) :
 Calls Tryz.prog 105 #[.pointer (some ⟨sb, 0, none⟩), .pointer (some ⟨tb id, 0, none⟩)] W fun e w' => e = .returned (.tuple #[]) ∧
  YP sb gb nb pb mb n cv D cbs tb own (leaveY s id t i) W w' :=
 (sleave0 sb gb nb pb mb n cv D cbs tb own s id t i W h ht hi hf).mono (fun e w' h => ⟨h.1, own, h.2.1, fun _ _ => rfl, h.2.2⟩)
def sleepY (s : Sy) (id : Int) (i : Nat) : Int × Sy :=
 match s.tasks id with
 | none => (2, s)
 | some t => if (nxt t.state 4).2 = 0 then (0, setTk (leaveY s id t i) id (stT (leaveT s t i) (nxt t.state 4).1)) else ((nxt t.state 4).2, s)
theorem leaveY_task (s : Sy) (id : Int) (t : Tk) (i : Nat) (ht : s.tasks id = some t) : (leaveY s id t i).tasks id = some (leaveT s t i) := by
 unfold leaveY leaveT; by_cases h : t.state = 2
 · rw [if_pos h, if_pos h]; simp [setTk]
 · rw [if_neg h, if_neg h]; exact ht
theorem leaveT_state (s : Sy) (t : Tk) (i : Nat) : (leaveT s t i).state = t.state := by
 unfold leaveT; split <;> rfl
set_option maxRecDepth 100000 in
theorem sleep_any (sb gb nb pb mb n : Nat) (cv : Value) (D : DataW Unit) (cbs : List Nat) (tb : Int → Nat) (own : Nat → Option Own) (s : Sy) (id : Int) (i : Nat) (W : World) (h : SysAt W sb gb nb pb mb n cv D cbs tb own s)
 (h1 : -9223372036854775808 ≤ id) (h2 : id ≤ 9223372036854775807) (hi : ∀ t, s.tasks id = some t → t.state = 2 → t.core = (i : Int) ∧ i < cbs.length) (hf : FitsY s) :
 Calls Tryz.prog 49 #[.pointer (some ⟨sb, 0, none⟩), .int .i64 id] W fun e w' => e = .returned (.int .i64 (sleepY s id i).1) ∧ YP sb gb nb pb mb n cv D cbs tb own (sleepY s id i).2 W w' := by
 cases ht : s.tasks id with
 | none =>
  have hfind := find_none sb gb nb pb mb n cv D cbs tb own s id 4 W h h1 h2 ht; have hr : sleepY s id i = (2, s) := by unfold sleepY; rw [ht]
  rw [hr]; have HS := lH h; clear h ht hi hf hr; go_enter Tryz.func49, Tryz.ntmps49; go_wp2_with fail
  refine hfind.mono ?_; rintro e w' ⟨rfl, rfl⟩; clear hfind; go_wp2_with fail
  go_ret
  exact ⟨rfl, own, HS.out, fun _ _ => rfl, Touch.refl _ _⟩
 | some t =>
  have hfind := find_task sb gb nb pb mb n cv D cbs tb own s id 4 t W h h1 h2 ht; by_cases he : (nxt t.state 4).2 = 0
  · have hr : sleepY s id i = (0, setTk (leaveY s id t i) id (stT (leaveT s t i) (nxt t.state 4).1)) := by unfold sleepY; rw [ht]; simp only; rw [if_pos he]
    rw [hr]; rw [he] at hfind; have hlv := sleave_any sb gb nb pb mb n cv D cbs tb own s id t i W h ht (hi t ht) hf; have HL := lH (leaveY_task s id t i ht); have HTO := lH (h.task id t ht).2; have HLT := lH (leaveT_state s t i); have HLTK := lH ((h.lt (tb id) (by rw [(h.task id t ht).2]; simp))); obtain ⟨b, hb⟩ : ∃ b, tb id = b := ⟨_, rfl⟩
    rw [hb] at hfind hlv; have HB := lH hb; clear h ht hi hf hr he hb; go_enter Tryz.func49, Tryz.ntmps49; go_wp2_with fail
    refine hfind.mono ?_; rintro e w1 ⟨rfl, rfl⟩; clear hfind; go_wp2_with fail
    refine hlv.mono ?_; rintro e w2 ⟨rfl, own', hS2, ho2, ht2⟩; have hT2 := hS2.task id _ HL.out; rw [HB.out] at hT2; have hbe := become_any b _ 4 w2 hT2.1; rw [HLT.out] at hbe; have HS2 := lH hS2; have HO2 := lH ho2; have HT2 := lH ht2; have HTT := lH hT2; clear hS2 ho2 ht2 hT2 hlv; go_wp2_with fail
    refine hbe.mono ?_; rintro e w3 ⟨rfl, rfl⟩; clear hbe; go_wp2_with fail
    go_ret
    refine ⟨rfl, own', HS2.out.setTask HL.out (by rw [HB.out]; exact HTT.out.1.setState _) (by rw [HB.out]; exact touch1 _ _ _ _), HO2.out, ?_⟩; exact HT2.out.self ((touch1 w2 b 4 _).wider (fun k hk => by rw [hk, ← HB.out, HTO.out]; simp))
  · have hr : sleepY s id i = ((nxt t.state 4).2, s) := by unfold sleepY; rw [ht]; simp only; rw [if_neg he]
    rw [hr]; have HS := lH h; generalize (nxt t.state 4).2 = er at hfind he ⊢; generalize tb id = b at hfind; clear h ht hi hf hr; go_enter Tryz.func49, Tryz.ntmps49; go_wp2_with fail
    refine hfind.mono ?_; rintro e w1 ⟨rfl, rfl⟩; clear hfind; go_wp2_with fail
    go_ret
    exact ⟨rfl, own, HS.out, fun _ _ => rfl, Touch.refl _ _⟩
theorem tick_end (q p l f n : Int) (w : World) (hn1 : -9223372036854775808 ≤ n) (hn2 : n ≤ 9223372036854775807) (h : FullA q p l f) (hn : 0 < n) (ht : p - f ≤ n) :
 Calls Tryz.prog 116 #[acc q p l f, .int .i64 n] w fun e w' => e = .returned (.tuple #[accT (tickP q p l f n).1, .bool (tickP q p l f n).2]) ∧ Below w.heap.size w w' := by
 have hg := agood_any q p l f; have hf := afree_any q p l f; rw [full_good h] at hg; rw [full_not_free h] at hf; rw [show tickP q p l f n = ((q, p, q, (f + n % p) % p), true) from by unfold tickP; rw [if_pos ⟨h, hn⟩, if_pos ht]]; obtain ⟨x1, x2, x3, x4, x5, x6, x7, x8⟩ := h; go_enter Tryz.func116, Tryz.ntmps116; go_wp2_with fail
 refine (hg _).mono ?_; rintro e w1 ⟨rfl, hb1⟩; have b1 := first_of_two hb1; have b2 := second_of_two hb1; have hz1 := hb1.size; rw [World.size_alloc, World.size_alloc] at hz1; have hz : w.heap.size + 1 < w1.heap.size := by omega
 obtain ⟨u0, u1, u2, u3⟩ := cells4 b1; go_wp2_with fail
 refine (hf _).mono ?_; rintro e w2 ⟨rfl, hb2⟩; have hz2 := hb2.size; replace b1 := kept_row hb2 b1; replace b2 := kept_row hb2 b2; obtain ⟨y0, y1, y2, y3⟩ := cells4 b1; obtain ⟨t0, t1, t2, t3⟩ := cells4 b2; have f1 := frozen_row b1; have f2 := frozen_row b2; have B1 := lH b1; have B2 := lH b2; clear b1 b2; have hp : p ≠ 0 := by omega
 have hp' : (p == 0) = false := beq_eq_false_iff_ne.2 hp; have HX2 : Hid (((wrap64 (f + n % p)).tmod p) = (f + n % p) % p) := lH (by
  have e1 := Int.emod_nonneg n (show p ≠ 0 by omega); have e2 := Int.emod_lt_of_pos n (show 0 < p by omega); have e3 : wrap64 (f + n % p) = f + n % p := by unfold wrap64; omega
  rw [e3, Int.tmod_eq_emod_of_nonneg (by omega)])
 have hbb := (below_two hb1).trans (hb2.mono (by omega))
 go_wp2_with fail
 go_region
 go_wp2_with fail
 have n1 : ((w2.setCell ⟨w.heap.size, 3, none⟩ (.int .i64 ((wrap64 (f + n % p)).tmod p))).setCell ⟨w.heap.size, 2, none⟩ (.int .i64 q)).heap[w.heap.size + 1]? = _ := (Below.heap_setCell _ _ _ _ (by simp)).trans ((Below.heap_setCell _ _ _ _ (by simp)).trans B2.out)
 obtain ⟨r0, r1, r2, r3⟩ := cells4 (blk4 n1 (.int .i64 q) (.int .i64 p) (.int .i64 q) (.int .i64 ((wrap64 (f + n % p)).tmod p))); refine bodyPost_ret (v := .tuple #[acc q p q ((wrap64 (f + n % p)).tmod p), .bool true]) (by simp [results, Tryz.results116, go_sem, r0, r1, r2, r3]) rfl ⟨by rw [HX2.out], ?_⟩; refine Below.drew ?_; repeat (first | exact hbb | refine Below.setCell ?_ (by simp) _)
theorem tick_go (q p l f n : Int) (w : World) (hn1 : -9223372036854775808 ≤ n) (hn2 : n ≤ 9223372036854775807) (h : FullA q p l f) (hn : 0 < n) (ht : ¬ p - f ≤ n) :
 Calls Tryz.prog 116 #[acc q p l f, .int .i64 n] w fun e w' => e = .returned (.tuple #[accT (tickP q p l f n).1, .bool (tickP q p l f n).2]) ∧ Below w.heap.size w w' := by
 have hg := agood_any q p l f; have hf := afree_any q p l f; rw [full_good h] at hg; rw [full_not_free h] at hf; rw [show tickP q p l f n = ((q, p, l, (f + n % p) % p), false) from by unfold tickP; rw [if_pos ⟨h, hn⟩, if_neg ht]]; obtain ⟨x1, x2, x3, x4, x5, x6, x7, x8⟩ := h; have hd : decide (p - f ≤ n) = false := decide_eq_false ht; go_enter Tryz.func116, Tryz.ntmps116; go_wp2_with fail
 refine (hg _).mono ?_; rintro e w1 ⟨rfl, hb1⟩; have b1 := first_of_two hb1; have b2 := second_of_two hb1; have hz1 := hb1.size; rw [World.size_alloc, World.size_alloc] at hz1; have hz : w.heap.size + 1 < w1.heap.size := by omega
 obtain ⟨u0, u1, u2, u3⟩ := cells4 b1; go_wp2_with fail
 refine (hf _).mono ?_; rintro e w2 ⟨rfl, hb2⟩; have hz2 := hb2.size; replace b1 := kept_row hb2 b1; replace b2 := kept_row hb2 b2; obtain ⟨y0, y1, y2, y3⟩ := cells4 b1; obtain ⟨t0, t1, t2, t3⟩ := cells4 b2; have f1 := frozen_row b1; have f2 := frozen_row b2; have B1 := lH b1; have B2 := lH b2; clear b1 b2; have hp : p ≠ 0 := by omega
 have hp' : (p == 0) = false := beq_eq_false_iff_ne.2 hp; have HX2 : Hid (((wrap64 (f + n % p)).tmod p) = (f + n % p) % p) := lH (by
  have e1 := Int.emod_nonneg n (show p ≠ 0 by omega); have e2 := Int.emod_lt_of_pos n (show 0 < p by omega); have e3 : wrap64 (f + n % p) = f + n % p := by unfold wrap64; omega
  rw [e3, Int.tmod_eq_emod_of_nonneg (by omega)])
 have hbb := (below_two hb1).trans (hb2.mono (by omega))
 go_wp2_with fail
 go_region
 go_wp2_with fail
 have n1 : (w2.setCell ⟨w.heap.size, 3, none⟩ (.int .i64 ((wrap64 (f + n % p)).tmod p))).heap[w.heap.size + 1]? = _ := (Below.heap_setCell _ _ _ _ (by simp)).trans B2.out; obtain ⟨r0, r1, r2, r3⟩ := cells4 (blk4 n1 (.int .i64 q) (.int .i64 p) (.int .i64 l) (.int .i64 ((wrap64 (f + n % p)).tmod p))); refine bodyPost_ret (v := .tuple #[acc q p l ((wrap64 (f + n % p)).tmod p), .bool false]) (by simp [results, Tryz.results116, go_sem, r0, r1, r2, r3]) rfl ⟨by rw [HX2.out], ?_⟩; refine Below.drew ?_; repeat (first | exact hbb | refine Below.setCell ?_ (by simp) _)
theorem tick_stay (q p l f n : Int) (w : World) (hn1 : -9223372036854775808 ≤ n) (hn2 : n ≤ 9223372036854775807) (h : FullA q p l f) (hn : ¬ 0 < n) :
 Calls Tryz.prog 116 #[acc q p l f, .int .i64 n] w fun e w' => e = .returned (.tuple #[accT (tickP q p l f n).1, .bool (tickP q p l f n).2]) ∧ Below w.heap.size w w' := by
 have hg := agood_any q p l f; have hf := afree_any q p l f; rw [full_good h] at hg; rw [full_not_free h] at hf; rw [show tickP q p l f n = ((q, p, l, f), false) from by unfold tickP; rw [if_neg (fun g => hn g.2)]]; clear h; go_enter Tryz.func116, Tryz.ntmps116; go_wp2_with fail
 refine (hg _).mono ?_; rintro e w1 ⟨rfl, hb1⟩; have b1 := first_of_two hb1; have b2 := second_of_two hb1; have hz1 := hb1.size; rw [World.size_alloc, World.size_alloc] at hz1; have hz : w.heap.size + 1 < w1.heap.size := by omega
 obtain ⟨u0, u1, u2, u3⟩ := cells4 b1; go_wp2_with fail
 refine (hf _).mono ?_; rintro e w2 ⟨rfl, hb2⟩; have hz2 := hb2.size; replace b1 := kept_row hb2 b1; replace b2 := kept_row hb2 b2; obtain ⟨y0, y1, y2, y3⟩ := cells4 b1; obtain ⟨t0, t1, t2, t3⟩ := cells4 b2; have f2 := frozen_row b2; obtain ⟨r0, r1, r2, r3⟩ := cells4 (blk4 b2 (.int .i64 q) (.int .i64 p) (.int .i64 l) (.int .i64 f)); have hbb := (below_two hb1).trans (hb2.mono (by omega))
 clear b1 b2; go_wp2_with fail
 refine bodyPost_ret (v := .tuple #[acc q p l f, .bool false]) (by simp [results, Tryz.results116, go_sem, r0, r1, r2, r3]) rfl ⟨rfl, ?_⟩; repeat (first | exact hbb | refine Below.setCell ?_ (by simp) _)
theorem tick_free (q p l f n : Int) (w : World) (hn1 : -9223372036854775808 ≤ n) (hn2 : n ≤ 9223372036854775807) (h : FreeA q p l f) :
 Calls Tryz.prog 116 #[acc q p l f, .int .i64 n] w fun e w' => e = .returned (.tuple #[accT (tickP q p l f n).1, .bool (tickP q p l f n).2]) ∧ Below w.heap.size w w' := by
 have hg := agood_any q p l f; have hf := afree_any q p l f; rw [free_good h] at hg; rw [show freeB q p l f = true from decide_eq_true h] at hf; rw [show tickP q p l f n = ((q, p, l, f), false) from by unfold tickP; rw [if_neg (fun g => free_not_full h g.1)]]; clear h; go_enter Tryz.func116, Tryz.ntmps116; go_wp2_with fail
 refine (hg _).mono ?_; rintro e w1 ⟨rfl, hb1⟩; have b1 := first_of_two hb1; have b2 := second_of_two hb1; have hz1 := hb1.size; rw [World.size_alloc, World.size_alloc] at hz1; have hz : w.heap.size + 1 < w1.heap.size := by omega
 obtain ⟨u0, u1, u2, u3⟩ := cells4 b1; go_wp2_with fail
 refine (hf _).mono ?_; rintro e w2 ⟨rfl, hb2⟩; have hz2 := hb2.size; replace b1 := kept_row hb2 b1; replace b2 := kept_row hb2 b2; obtain ⟨y0, y1, y2, y3⟩ := cells4 b1; obtain ⟨t0, t1, t2, t3⟩ := cells4 b2; have f2 := frozen_row b2; obtain ⟨r0, r1, r2, r3⟩ := cells4 (blk4 b2 (.int .i64 q) (.int .i64 p) (.int .i64 l) (.int .i64 f)); have hbb := (below_two hb1).trans (hb2.mono (by omega))
 clear b1 b2; go_wp2_with fail
 refine bodyPost_ret (v := .tuple #[acc q p l f, .bool false]) (by simp [results, Tryz.results116, go_sem, r0, r1, r2, r3]) rfl ⟨rfl, ?_⟩; repeat (first | exact hbb | refine Below.setCell ?_ (by simp) _)
theorem tick_bad (q p l f n : Int) (w : World) (hn1 : -9223372036854775808 ≤ n) (hn2 : n ≤ 9223372036854775807) (h : goodB q p l f = false) :
 Calls Tryz.prog 116 #[acc q p l f, .int .i64 n] w fun e w' => e = .returned (.tuple #[accT (tickP q p l f n).1, .bool (tickP q p l f n).2]) ∧ Below w.heap.size w w' := by
 have hg := agood_any q p l f; have hf := afree_any q p l f; rw [show tickP q p l f n = ((q, p, l, f), false) from by unfold tickP; rw [if_neg (fun g => by rw [full_good g.1] at h; cases h)]]; rw [h] at hg; clear h; go_enter Tryz.func116, Tryz.ntmps116; go_wp2_with fail
 refine (hg _).mono ?_; rintro e w1 ⟨rfl, hb1⟩; have b1 := first_of_two hb1; have b2 := second_of_two hb1; obtain ⟨y0, y1, y2, y3⟩ := cells4 b1; obtain ⟨t0, t1, t2, t3⟩ := cells4 b2; have f2 := frozen_row b2; obtain ⟨r0, r1, r2, r3⟩ := cells4 (blk4 b2 (.int .i64 q) (.int .i64 p) (.int .i64 l) (.int .i64 f)); have hbb := below_two hb1; clear b1 b2; go_wp2_with fail
 refine bodyPost_ret (v := .tuple #[acc q p l f, .bool false]) (by simp [results, Tryz.results116, go_sem, r0, r1, r2, r3]) rfl ⟨rfl, ?_⟩; repeat (first | exact hbb | refine Below.setCell ?_ (by simp) _)
theorem atick_any (q p l f n : Int) (w : World) (hn1 : -9223372036854775808 ≤ n) (hn2 : n ≤ 9223372036854775807) :
 Calls Tryz.prog 116 #[acc q p l f, .int .i64 n] w fun e w' => e = .returned (.tuple #[accT (tickP q p l f n).1, .bool (tickP q p l f n).2]) ∧ Below w.heap.size w w' := by
 rcases three q p l f with h | h | h
 · by_cases hn : 0 < n
   · by_cases ht : p - f ≤ n
     · exact tick_end q p l f n w hn1 hn2 h hn ht
     · exact tick_go q p l f n w hn1 hn2 h hn ht
   · exact tick_stay q p l f n w hn1 hn2 h hn
 · exact tick_free q p l f n w hn1 hn2 h
 · exact tick_bad q p l f n w hn1 hn2 h
section
attribute [local go_sem] Oper.semAt_some
def allTo (gs : List (Bool × Int)) : Nat → List Int
 | 0 => []
 | k + 1 => allTo gs k ++ (if hasG gs k = true then [(k : Int)] else [])
theorem allTo_len (gs : List (Bool × Int)) : ∀ k, (allTo gs k).length ≤ k
 | 0 => Nat.le_refl _
 | k + 1 => by
  have := allTo_len gs k; show (allTo gs k ++ _).length ≤ _; rw [List.length_append]; split <;> simp <;> omega
set_option maxRecDepth 100000 in
theorem gall_any (gb : Nat) (gs : List (Bool × Int)) (w : World) (h : GroupsAt w gb gs) :
 Calls Tryz.prog 115 #[.pointer (some ⟨gb, 0, none⟩)] w fun e W' => ∃ v, e = .returned v ∧ W'.ownsRow w.heap.size 3 1 v (allTo gs 16).length ((allTo gs 16).map fun x => .int .i64 x) ∧ Below w.heap.size w W' := by
 obtain ⟨i0, hi, hz0, hz1, hz2⟩ := info_parts info3; have hgl : gb < w.heap.size := h.lt; have HG := lH h; clear h; go_enter Tryz.func115, Tryz.ntmps115; go_wp2_with fail
 go_loopw [3, 5] (fun s x wr => ∃ k : Nat, k ≤ 16 ∧ x = .int .i64 k ∧ Hid (wr.ownsRow w.heap.size 3 1 s (allTo gs k).length ((allTo gs k).map fun x => .int .i64 x)) ∧ Hid (Below w.heap.size w wr)) (fun _ x _ => 16 - (intOf x).toNat)
 case atStart => exact ⟨0, Nat.zero_le _, rfl, lH (World.ownsRow_nil ..), lH (Below.refl _ _)⟩
 case round =>
  obtain ⟨k, hk, rfl, HR, HB⟩ := hrel; by_cases hkn : k < 16
  · have hhas := has_any gb gs k wr (HG.out.same (HB.out.block gb hgl)); have hlen := allTo_len gs k; have hk1 : (k : Int) < 16 := by omega
    have hk0 : 0 ≤ (k : Int) := by omega
    have hbz := HB.out.size; have hnext : allTo gs (k + 1) = allTo gs k ++ (if hasG gs k = true then [(k : Int)] else []) := rfl; obtain ⟨tk, htk⟩ : ∃ b, hasG gs (k : Int) = b := ⟨_, rfl⟩
    rw [htk] at hhas hnext; have HN := lH hnext; obtain ⟨q, hq⟩ : ∃ q, (allTo gs k).length = q := ⟨_, rfl⟩
    rw [hq] at HR hlen; have HQ := lH hq; clear hnext hq htk; cases tk with
    | true =>
     have HN2 : Hid (allTo gs (k + 1) = allTo gs k ++ [(k : Int)]) := lH HN.out; clear HN; have hrow := HR.out; go_wp2_with fail
     refine hhas.mono ?_; rintro e w' ⟨rfl, rfl⟩; go_wp2_with (at_builtin; refine wpList_append_lies _ rfl _ _ 22 rfl w.heap.size 3 i0 (.int .i64 0) 1 8 Tryz.underlying22 hi hz0 hz1 hz2 rfl (by decide) _ q _ rfl (hrow.alloc _) ⟨wr.heap.size, 0, none⟩ 1 1 [.int .i64 (k : Int)] rfl rfl (World.news_of_block (cs := #[.int .i64 (k : Int)]) (t := 3) (fr := (0, 0)) (heap_alloc_new wr _)) (by simp [Value.oneCell']) (by omega) (by unfold maxLen; omega) (by omega) (by simp; omega) (wr.heap.size + 1) (by simp) ?_; intro g cap w4 hown4 hgrow4 hat4 hlt4)
     have hr : w4.ownsRow w.heap.size 3 1 (.slice (some ⟨g, 0, none⟩) (q + 1) cap) (allTo gs (k + 1)).length ((allTo gs (k + 1)).map fun x => .int .i64 x) := by
      rw [HN2.out, List.map_append, List.length_append, HQ.out]; exact hown4
     have HR4 := lH hr; have HB4 : Hid (Below w.heap.size w w4) := lH ((HB.out.alloc hbz _).grown hgrow4 (by simp; omega) (fun j hj => (hrow.lt j hj).1)); clear hr hown4 hgrow4 hat4 hlt4 hrow; go_roundw
     case rel => exact ⟨k + 1, hkn, by go_num, HR4, HB4⟩
     case measure => simp [intOf]; omega
    | false =>
     have HN2 : Hid (allTo gs (k + 1) = allTo gs k) := lH (HN.out.trans (List.append_nil _)); clear HN; have hr : wr.ownsRow w.heap.size 3 1 u3 (allTo gs (k + 1)).length ((allTo gs (k + 1)).map fun x => .int .i64 x) := by
      rw [HN2.out, HQ.out]; exact HR.out
     have HR4 := lH hr; clear hr; go_wp2_with fail
     refine hhas.mono ?_; rintro e w' ⟨rfl, rfl⟩; go_wp2_with fail
     go_roundw
     case rel => exact ⟨k + 1, hkn, by go_num, HR4, HB⟩
     case measure => simp [intOf]; omega
  · obtain rfl : k = 16 := by omega
    go_wp2_with fail
    go_ret
    exact ⟨_, rfl, HR.out, HB.out⟩
end
end Go.Proofs.YtoiajjobecinpaaGreat
