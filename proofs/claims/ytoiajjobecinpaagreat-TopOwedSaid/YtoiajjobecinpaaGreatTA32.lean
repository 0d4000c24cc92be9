/- End: a task is gone. Each act keeps what holds of a system: move, bind, weigh, end, spawn, group, run. Wake. -/
import Derived.Test.YtoiajjobecinpaaGreatTA30
import Derived.Test.YtoiajjobecinpaaGreatTA31
set_option maxHeartbeats 4000000
namespace Go.Proofs.YtoiajjobecinpaaGreat
open Go.RowKit Go.Shelf Go.Lib Go.Proofs
set_option linter.unusedVariables false
set_option linter.unusedSimpArgs false
section
attribute [local go_sem] Oper.semAt_some
theorem SysAt.gone {W W3 : World} {sb gb nb pb mb n : Nat} {cv : Value} {D : DataW Unit} {cbs : List Nat} {tb : Int → Nat} {own : Nat → Option Own} {s : Sy} {id : Int} {t : Tk} {ps' : List (Int × Bool)}
 (h : SysAt W sb gb nb pb mb n cv D cbs tb own s) (ht : s.tasks id = some t) (hs : W.heap.size ≤ W3.heap.size) (hk : ∀ k, own k ≠ none → k ≠ mb → k ≠ pb → W3.heap[k]? = W.heap[k]?)
 (hm : W3.ownsMap Tryz.prog 3 rptr mb n (D.del (.int .i64 id))) (hS : SlotsAt W3 nb pb ps') :
 SysAt W3 sb gb nb pb mb n cv (D.del (.int .i64 id)) cbs tb (fun k => if k = tb id then none else own k) ⟨s.cores, s.gs, s.acc, ps', fun x => if x = id then none else s.tasks x, s.cnt⟩ := by
 have hid := (h.task id t ht).2; have hkk : ∀ k x, own k = some x → x ≠ .places → x ≠ .map → W3.heap[k]? = W.heap[k]? := fun k x hx h1 h2 => hk k (by rw [hx]; simp) (fun e => by subst e; rw [h.omb] at hx; exact h2 (by simpa using hx.symm)) (fun e => by subst e; rw [h.opb] at hx; exact h1 (by simpa using hx.symm)); have hown : ∀ k x, own k = some x → x ≠ .task id → (if k = tb id then none else own k) = some x := fun k x hx hne => by
  rw [if_neg (fun e => by rw [e, hid] at hx; exact hne (by simpa using hx.symm))]; exact hx
 have bsb := hkk sb _ h.osb (by simp) (by simp); have h0 : ∀ i, W3.cell? ⟨sb, i, none⟩ = W.cell? ⟨sb, i, none⟩ := fun i => World.cell?_of_block bsb; have h0' : ∀ i, W3.frozen? ⟨sb, i, none⟩ = W.frozen? ⟨sb, i, none⟩ := fun i => World.frozen?_of_block bsb; have hlt' : ∀ k, (if k = tb id then none else own k) ≠ none → k < W3.heap.size := fun k hk => by
  split at hk
  · exact absurd rfl hk
  · have := h.lt k hk; omega
 refine ⟨(h0 _).trans h.head, (h0 _).trans h.c1, fun i hi => ?_, (h0 _).trans h.c66, (h0 _).trans h.c67, fun i => (h0' i).trans (h.live i), h.groups.same (hkk gb _ h.ogb (by simp) (by simp)), hS, hm, h.cnt, fun x hx1 hx2 => ?_, fun x u hu => ?_,
  ownsRow_same h.row (fun k hk' => hkk k _ (h.rown k hk') (by simp) (by simp)), fun k hk' => hown k _ (h.rown k hk') (by simp), h.num, fun i hi => ?_, hown _ _ h.osb (by simp), hown _ _ h.ogb (by simp), hown _ _ h.onb (by simp), hown _ _ h.opb (by simp), hown _ _ h.omb (by simp), hlt'⟩
 · obtain ⟨a1, a2, a3, a4⟩ := h.acc i hi; exact ⟨(h0 _).trans a1, (h0 _).trans a2, (h0 _).trans a3, (h0 _).trans a4⟩
 · by_cases e : x = id
   · subst e; simp only [if_pos]; rw [Maps.atKey_del_same]
   · simp only [if_neg e]; rw [Maps.atKey_del_other (by intro c; simp only [Lit.int.injEq, true_and] at c; exact e c)]; exact h.reads x hx1 hx2
 · by_cases e : x = id
   · subst e; simp at hu
   · simp only [if_neg e] at hu ⊢; obtain ⟨t1, t2⟩ := h.task x u hu; exact ⟨t1.same (hkk _ _ t2 (by simp) (by simp)), hown _ _ t2 (by simpa using e)⟩
 · refine ((h.core i hi).same hs (fun k hk' => hkk k _ hk' (by simp) (by simp))).wider (fun k hk' => hown k _ hk' (by simp)) (fun k hk' => hlt' k (by rw [hk']; simp))
def endY (s : Sy) (id : Int) (t : Tk) (i : Nat) : Sy :=
 ⟨(leaveY s id t i).cores, s.gs, s.acc, (freeP s.ps id).2, fun x => if x = id then none else (leaveY s id t i).tasks x, s.cnt⟩
theorem end_none (sb gb nb pb mb n : Nat) (cv : Value) (D : DataW Unit) (cbs : List Nat) (tb : Int → Nat) (own : Nat → Option Own) (s : Sy) (id : Int) (W : World) (h : SysAt W sb gb nb pb mb n cv D cbs tb own s)
 (h1 : -9223372036854775808 ≤ id) (h2 : id ≤ 9223372036854775807) (ht : s.tasks id = none) :
 Calls Tryz.prog 51 #[.pointer (some ⟨sb, 0, none⟩), .int .i64 id] W fun e w' => e = .returned (.int .i64 2) ∧ W = w' := by
 have hfind := find_none sb gb nb pb mb n cv D cbs tb own s id 8 W h h1 h2 ht; clear h ht; go_enter Tryz.func51, Tryz.ntmps51; go_wp2_with fail
 refine hfind.mono ?_; rintro e w' ⟨rfl, rfl⟩; go_wp2_with fail
 go_ret
 exact ⟨rfl, rfl⟩
set_option maxRecDepth 100000 in
theorem end_ok (sb : Nat) (cbs : List Nat) (own : Nat → Option Own) (s : Sy) (id : Int) (t : Tk) (i : Nat) (W : World) (h : ∃ gb nb pb mb n cv D tb, SysAt W sb gb nb pb mb n cv D cbs tb own s)
 (h1 : -9223372036854775808 ≤ id) (h2 : id ≤ 9223372036854775807) (ht : s.tasks id = some t) (he : (nxt t.state 8).2 = 0) (hi : t.state = 2 → t.core = (i : Int) ∧ i < cbs.length) (hf : FitsY s) (hz : Sized s.ps) (hb : hasB s.ps id = true) :
 Calls Tryz.prog 51 #[.pointer (some ⟨sb, 0, none⟩), .int .i64 id] W fun e w' => e = .returned (.int .i64 0) ∧ YQ sb cbs own (endY s id t i) W w' := by
 obtain ⟨gb, nb, pb, mb, n, cv, D, tb, h⟩ := h; have hfind := find_task sb gb nb pb mb n cv D cbs tb own s id 8 t W h h1 h2 ht; rw [he] at hfind; have hlv := sleave_any sb gb nb pb mb n cv D cbs tb own s id t i W h ht hi hf; have HL := lH (leaveY_task s id t i ht); have hps : (leaveY s id t i).ps = s.ps ∧ (leaveY s id t i).gs = s.gs ∧ (leaveY s id t i).acc = s.acc ∧ (leaveY s id t i).cnt = s.cnt := by unfold leaveY; split <;> exact ⟨rfl, rfl, rfl, rfl⟩
 have hendY : endY s id t i = ⟨(leaveY s id t i).cores, (leaveY s id t i).gs, (leaveY s id t i).acc, (freeP s.ps id).2, fun x => if x = id then none else (leaveY s id t i).tasks x, (leaveY s id t i).cnt⟩ := by unfold endY; rw [hps.2.1, hps.2.2.1, hps.2.2.2]
 have HPS := lH hps.1; rw [hendY]; obtain ⟨S1, hS1⟩ : ∃ x, leaveY s id t i = x := ⟨_, rfl⟩
 obtain ⟨t1, ht1⟩ : ∃ x, leaveT s t i = x := ⟨_, rfl⟩
 rw [hS1] at hlv HL HPS ⊢; rw [ht1] at HL; obtain ⟨b, hb0⟩ : ∃ b, tb id = b := ⟨_, rfl⟩
 rw [hb0] at hfind hlv; have HB0 := lH hb0; have HZ := lH hz; have HHB := lH hb; have HID := lH (And.intro h1 h2); have HLT := lH h.lt; clear h ht he hi hf hz hb hps hendY hS1 ht1 hb0; go_enter Tryz.func51, Tryz.ntmps51; go_wp2_with fail
 refine hfind.mono ?_; rintro e w1 ⟨rfl, rfl⟩; clear hfind; go_wp2_with fail
 refine hlv.mono ?_; rintro e w2 ⟨rfl, own2, hS2, ho2, ht2⟩; obtain ⟨w3, hdel, hm3, hturn⟩ := hS2.map.drop keyed3 Tryz.underlying117 (key := .int .i64 id) (kl := .int .i64 id) (key3 (x := id) (by omega) (by omega)) 0; have hw3 : ∀ k, k ≠ mb → w3.heap[k]? = w2.heap[k]? := fun k hk => by
  obtain ⟨es, clock, es', clock', hb1, rfl⟩ := hturn; simp only [Go.ChangeMaps.setBlock, Array.getElem?_setIfInBounds]; rw [if_neg (fun e => hk e.symm)]
 have hs3 : w3.heap.size = w2.heap.size ∧ w3.os = w2.os ∧ w3.tape = w2.tape ∧ w3.output = w2.output := by
  obtain ⟨es, clock, es', clock', hb1, rfl⟩ := hturn; exact ⟨by simp [Go.ChangeMaps.setBlock], rfl, rfl, rfl⟩
 have hsm : sb ≠ mb := fun e => by have a := hS2.osb; rw [e, hS2.omb] at a; cases a
 have hnm : nb ≠ mb := fun e => by have a := hS2.onb; rw [e, hS2.omb] at a; cases a
 have hpm : pb ≠ mb := fun e => by have a := hS2.opb; rw [e, hS2.omb] at a; cases a
 have hsl3 : SlotsAt w3 nb pb s.ps := by
  have := hS2.slots; rw [HPS.out] at this; exact this.same (hw3 nb hnm) (hw3 pb hpm)
 have hfr := sfree_any nb pb id w3 s.ps HZ.out.1 hsl3 HID.out.2 HZ.out.2; rw [HHB.out] at hfr; simp only [if_pos] at hfr; have c67 := hS2.c67; have c66 : w3.cell? ⟨sb, 66, none⟩ = some (.pointer (some ⟨nb, 0, none⟩)) := (World.cell?_of_block (a := ⟨sb, 66, none⟩) (hw3 sb hsm)).trans hS2.c66; have HS2 := lH hS2; have HO2 := lH ho2; have HT2 := lH ht2; have HM3 := lH hm3; have HW3 := lH hw3; have HS3 := lH hs3; have HSL3 := lH hsl3; have HPM := lH hpm; clear hS2 ho2 ht2 hm3 hw3 hs3 hsl3 hpm hnm hsm hturn hlv; go_wp2_with fail
 refine hfr.mono ?_; rintro e w4 ⟨rfl, rfl⟩; go_wp2_with fail
 go_ret
 have hi64 : (id % 64).toNat < s.ps.length := by
  have := HHB.out; unfold hasB at this; simp only [Bool.and_eq_true, decide_eq_true_eq] at this; exact this.2.1
 have hfree : (freeP s.ps id).2 = s.ps.set (id % 64).toNat ((s.ps.getD (id % 64).toNat default).1, false) := by unfold freeP; rw [if_pos HHB.out]
 have hnp : nb ≠ pb := fun e => by have a := HS2.out.onb; rw [e, HS2.out.opb] at a; cases a
 refine ⟨rfl, _, ⟨gb, nb, pb, mb, n, cv, _, tb, HS2.out.gone HL.out ?_ ?_ ?_ ?_⟩, ?_, ?_⟩
 · simp [HS3.out.1]
 · intro k hk h1 h2; rw [Below.heap_setCell _ _ _ _ h2, HW3.out k h1]
 · exact HM3.out.setCell (by simpa using HPM.out.symm) _
 · rw [hfree]; exact HSL3.out.free _ hi64
 · intro k hk; have hk' : own2 k ≠ none := by
    by_cases e : k = tb id
    · rw [if_pos e] at hk; exact absurd rfl hk
    · rw [if_neg e] at hk; exact hk
   by_cases hl : k < W.heap.size
   · rw [HO2.out k hl] at hk'; exact .inl hk'
   · exact .inr (by omega)
 · have hz2 := HT2.out.size; refine ⟨?_, ?_, ?_, by simp [HS3.out.1]; omega, fun k hk hn => ?_⟩
   · show w3.os = W.os; rw [HS3.out.2.1, HT2.out.os]
   · show w3.tape = W.tape; rw [HS3.out.2.2.1, HT2.out.tape]
   · show w3.output = W.output; rw [HS3.out.2.2.2, HT2.out.output]
   · have hn' : own k = none := by simpa using hn
     have e1 : k ≠ mb := fun e => by have a := HS2.out.omb; rw [← e, HO2.out k hk, hn'] at a; cases a
     have e2 : k ≠ pb := fun e => by have a := HS2.out.opb; rw [← e, HO2.out k hk, hn'] at a; cases a
     rw [Below.heap_setCell _ _ _ _ e2, HW3.out k e1, HT2.out.block k hk hn]
theorem end_err (sb gb nb pb mb n : Nat) (cv : Value) (D : DataW Unit) (cbs : List Nat) (tb : Int → Nat) (own : Nat → Option Own) (s : Sy) (id : Int) (t : Tk) (W : World) (h : SysAt W sb gb nb pb mb n cv D cbs tb own s)
 (h1 : -9223372036854775808 ≤ id) (h2 : id ≤ 9223372036854775807) (ht : s.tasks id = some t) (he : ¬ (nxt t.state 8).2 = 0) :
 Calls Tryz.prog 51 #[.pointer (some ⟨sb, 0, none⟩), .int .i64 id] W fun e w' => e = .returned (.int .i64 (nxt t.state 8).2) ∧ W = w' := by
 have hfind := find_task sb gb nb pb mb n cv D cbs tb own s id 8 t W h h1 h2 ht; generalize (nxt t.state 8).2 = y at he hfind ⊢; clear h ht; go_enter Tryz.func51, Tryz.ntmps51; go_wp2_with fail
 refine hfind.mono ?_; rintro e w' ⟨rfl, rfl⟩; go_wp2_with fail
 go_ret
 exact ⟨rfl, rfl⟩
end
theorem hasM_lt {m c : Int} {n : Nat} (hm : 0 ≤ m ∧ m < 65536) (hg : goodM m n = true) (h : hasM m c = true) : ∃ j : Nat, c = (j : Int) ∧ j < n := by
 have h' := h; unfold hasM at h'; simp only [Bool.and_eq_true, decide_eq_true_eq] at h'; obtain ⟨h1, h2, -⟩ := h'; obtain ⟨j, rfl⟩ := Int.eq_ofNat_of_zero_le h1; obtain ⟨a, rfl⟩ := Int.eq_ofNat_of_zero_le hm.1; refine ⟨j, rfl, ?_⟩; rw [hasM_bit a (by omega) j (by omega)] at h; unfold goodM at hg; simp only [Bool.and_eq_true, decide_eq_true_eq, bne_iff_ne, ne_eq, beq_iff_eq] at hg; obtain ⟨g1, g2, g3, g4⟩ := hg; rw [Int.toNat_natCast] at g4; have h5 : a / 2 ^ n = 0 := by
  have : (a : Int) / 2 ^ n = ((a / 2 ^ n : Nat) : Int) := by
   rw [Int.natCast_ediv]; congr 1
  rw [this] at g4; exact_mod_cast g4
 have hlt : a < 2 ^ n := by
  rcases Nat.div_eq_zero_iff.1 h5 with h | h
  · exact absurd h (by have := Nat.two_pow_pos n; omega)
  · exact h
 by_cases hh : j < n
 · exact hh
 · rw [Nat.testBit_lt_two_pow (Nat.lt_of_lt_of_le hlt (Nat.pow_le_pow_right (by decide) (by omega)))] at h; cases h
theorem setTk_setTk (s : Sy) (id : Int) (t t' : Tk) : setTk (setTk s id t) id t' = setTk s id t' := by
 unfold setTk; congr 1
 funext x
 by_cases e : x = id <;> simp [e]
theorem setTk_self {s : Sy} {id : Int} {t : Tk} (h : s.tasks id = some t) : setTk s id t = s := by
 unfold setTk; cases s; congr 1
 funext x
 by_cases e : x = id
 · subst e; rw [if_pos rfl]; exact h.symm
 · rw [if_neg e]
theorem setCo_setTk (s : Sy) (i : Nat) (c : Co) (id : Int) (t t' : Tk) : setTk (setCo (setTk s id t) i c) id t' = setTk (setCo s i c) id t' := by
 unfold setTk setCo; congr 1
 funext x
 by_cases e : x = id <;> simp [e]
theorem InvY.moveG {k : Nat} {b : Int} {n : Nat} {s : Sy} {id : Int} {t : Tk} {i j : Nat} (h : InvY k b n s) (hk : k ≤ 400) (ht : s.tasks id = some t) (h2 : t.state = 2) (hi : t.core = (i : Int)) (hin : i < n) (hj : j < n) (m : Int) (hm : (0 ≤ m ∧ m < 65536) ∧ goodM m n = true) (hh : hasM m (j : Int) = true) :
 (coreEnter (leaveY (setTk s id (maskT t m)) id (maskT t m) i).cores[j]! id (maskT t m).w (leaveT (setTk s id (maskT t m)) (maskT t m) i).lag true).1 = 0 ∧
 InvY k (b + k * 232792560 + k * 232792560) n (moveY (setTk s id (maskT t m)) id (maskT t m) i j) := by
 have hT := h.task id t ht; have hL := h.lagK ht (i := i) (fun _ => ⟨hi, hin⟩); have ho := h.out ht (fun _ => ⟨hi, hin⟩) 4 (.inl rfl) (by omega) (fun h => absurd h (by decide)); have hlv : Go.Proofs.YtoiajjobecinpaaGreat.leaveT s t i = lagT t (coreLeave s.cores[i]! t.id).1 := by
  unfold Go.Proofs.YtoiajjobecinpaaGreat.leaveT; rw [if_pos h2]
 have hlv2 : Go.Proofs.YtoiajjobecinpaaGreat.leaveT (setTk s id (maskT t m)) (maskT t m) i = lagT (maskT t m) (coreLeave s.cores[i]! t.id).1 := by
  unfold Go.Proofs.YtoiajjobecinpaaGreat.leaveT; rw [if_pos (show (maskT t m).state = 2 from h2)]; rfl
 have hls : leaveY s id t i = setTk (setCo s i (coreLeave s.cores[i]! t.id).2.2) id (lagT t (coreLeave s.cores[i]! t.id).1) := by
  unfold leaveY; rw [if_pos h2]
 have hls2 : leaveY (setTk s id (maskT t m)) id (maskT t m) i = setTk (setCo (setTk s id (maskT t m)) i (coreLeave s.cores[i]! t.id).2.2) id (lagT (maskT t m) (coreLeave s.cores[i]! t.id).1) := by
  unfold leaveY; rw [if_pos (show (maskT t m).state = 2 from h2)]; rfl
 rw [hlv] at hL ho; rw [hls] at ho; unfold moveY; rw [hlv2, hls2]; rw [setTk_setTk] at ho; rw [setCo_setTk]; have hid := hT.id; have ht1 : (setTk (setCo s i (coreLeave s.cores[i]! t.id).2.2) id (stT (lagT t (coreLeave s.cores[i]! t.id).1) 4)).tasks id = some (stT (lagT t (coreLeave s.cores[i]! t.id).1) 4) := by
  show (if id = id then _ else _) = _; rw [if_pos rfl]
 obtain ⟨a, c⟩ := ho.put (i := j) (t' := coT (lagT (maskT t m) (coreLeave s.cores[i]! t.id).1) j) hk ht1 hj (by simp [stT]) (coreLeave s.cores[i]! t.id).1 hL true
  ⟨hid, hT.w, hm, .inr (.inl h2), fun _ => ⟨j, rfl, hj⟩, fun _ => hh, hL, hT.grp⟩ ⟨h2, rfl, rfl⟩
 rw [setCo_setTk] at c; refine ⟨a, ?_⟩; rw [setCo_setTk]; exact c
theorem InvY.weigh {k : Nat} {b : Int} {n : Nat} {s : Sy} {id w : Int} {t : Tk} {i : Nat} (h : InvY k b n s) (ht : s.tasks id = some t) (h2 : t.state = 2) (hi : t.core = (i : Int)) (hin : i < n) (hw : 1 ≤ w ∧ w ≤ 20) :
 (coreWeigh s.cores[i]! id w).1 = 0 ∧ InvY k (b + k * 232792560) n (setTk (setCo s i (coreWeigh s.cores[i]! id w).2) id (wT t w)) := by
 have hT := h.task id t ht; have hh := (h.on i hin id t.w).2 ⟨t, ht, h2, hi, rfl⟩; obtain ⟨a, c, d⟩ := (h.line i hin).weigh hw hh; refine ⟨a, h.edit (Nat.le_refl _) ht (by show (s.cores.set i _).length = n; rw [List.length_set]; exact h.len) rfl rfl rfl rfl (fun y => rfl) ⟨hT.id, hw, hT.mask, hT.st, hT.core, hT.has, hT.lag, hT.grp⟩ (fun j hj => ?_)⟩; show LnK k _ (s.cores.set i _)[j]!.l ∧ (s.cores.set i _)[j]!.srv ≤ k ∧ (∀ y v, y ≠ id → (hasL (s.cores.set i _)[j]!.l y v ↔ _)) ∧ ∀ v, hasL (s.cores.set i _)[j]!.l id v ↔ _; rw [getElem!_set_co _ _ _ _ (by rw [h.len]; exact hj)]; by_cases e : i = j
 · subst e; rw [if_pos rfl]; refine ⟨c, h.srv i hj, fun y v hy => ?_, fun v => ?_⟩
   · refine (d y v).trans ⟨fun hh => hh.elim (fun hh => absurd hh.1 hy) (fun hh => hh.2), fun hh => .inr ⟨hy, hh⟩⟩
   · refine (d id v).trans ⟨fun hh => hh.elim (fun hh => ⟨h2, hi, hh.2.symm⟩) (fun hh => absurd rfl hh.1), fun hh => .inl ⟨rfl, hh.2.2.symm⟩⟩
 · rw [if_neg e]; refine ⟨(h.line j hj).mono (Nat.le_refl _) (by omega), h.srv j hj, fun y v hy => Iff.rfl, fun v => ⟨fun hh => ?_, fun hh => ?_⟩⟩
   · obtain ⟨u, hu, _, h3, _⟩ := (h.on j hj id v).1 hh; rw [ht, Option.some.injEq] at hu; subst hu; exact absurd (by omega : i = j) e
   · have h3 : t.core = (j : Int) := hh.2.1; exact absurd (by omega : i = j) e
theorem getD_setP (l : List (Int × Bool)) (k j : Nat) (v : Int × Bool) (hk : k < l.length) : (l.set k v).getD j default = if k = j then v else l.getD j default := by
 rw [List.getD_eq_getElem?_getD, List.getElem?_set, List.getD_eq_getElem?_getD]; by_cases e : k = j
 · subst e; simp [hk]
 · simp [e]
theorem InvY.hasK {k : Nat} {b : Int} {n : Nat} {s : Sy} (h : InvY k b n s) {id : Int} (hid : id ∈ listP s.ps) : hasB s.ps id = true ∧ (id % 64).toNat < 64 ∧ ∃ q, s.ps.getD (id % 64).toNat default = (q, true) ∧ 1 ≤ q ∧ q ≤ k ∧ id = ((id % 64).toNat : Int) + 64 * (q - 1) := by
 obtain ⟨j, hj, h1, h2⟩ := mem_listP.1 hid; rw [h.pslen] at hj; have h3 := h.psat j hj; have h4 := h3.2.2 h1; have hmod : (id % 64).toNat = j := by omega
 refine ⟨?_, by omega, (s.ps.getD j default).1, ?_, h4, h3.2.1, ?_⟩
 · unfold Go.Proofs.YtoiajjobecinpaaGreat.hasB; rw [hmod]; simp only [Bool.and_eq_true, decide_eq_true_eq, beq_iff_eq]; exact ⟨by omega, by rw [h.pslen]; exact hj, h1, by omega⟩
 · rw [hmod, ← h1]
 · rw [hmod]; exact h2
theorem InvY.end_ {k : Nat} {b : Int} {n : Nat} {s : Sy} {id : Int} {t : Tk} {i : Nat} (h : InvY k b n s) (ht : s.tasks id = some t) (hi : t.state = 2 → t.core = (i : Int) ∧ i < n) : InvY k (b + k * 232792560) n (endY s id t i) := by
 obtain ⟨e1, e2, e3, e4, e5⟩ := leaveY_else (s := s) (id := id) (t := t) (i := i); obtain ⟨hb, hj, q, hq, q1, q2, hid⟩ := h.hasK ((h.names id).1 (by rw [ht]; simp)); have hfr : (freeP s.ps id).2 = s.ps.set (id % 64).toNat (q, false) := by
  unfold freeP; rw [if_pos hb, hq]
 have hmem : ∀ x, x ∈ listP (s.ps.set (id % 64).toNat (q, false)) ↔ x ≠ id ∧ x ∈ listP s.ps := fun x => by
  rw [mem_listP, mem_listP]; constructor
  · rintro ⟨j, hj', h1, h2⟩; rw [getD_setP _ _ _ _ (by rw [h.pslen]; exact hj)] at h1 h2; rw [List.length_set, h.pslen] at hj'; by_cases e : (id % 64).toNat = j
    · rw [if_pos e] at h1; cases h1
    · rw [if_neg e] at h1 h2; exact ⟨fun hx => e (by rw [hx] at h2; omega), j, by rw [h.pslen]; exact hj', h1, h2⟩
  · rintro ⟨hne, j, hj', h1, h2⟩; have hjj : (id % 64).toNat ≠ j := fun e => by
     subst e; rw [hq] at h2; exact hne (by omega)
    refine ⟨j, by rw [List.length_set]; exact hj', ?_, ?_⟩
    · rw [getD_setP _ _ _ _ (by rw [h.pslen]; exact hj), if_neg hjj]; exact h1
    · rw [getD_setP _ _ _ _ (by rw [h.pslen]; exact hj), if_neg hjj]; exact h2
 unfold endY; rw [hfr]; refine ⟨h.n8, leaveY_len.trans h.len, fun j hj => (h.left ht hi j hj).1, fun j hj => (h.left ht hi j hj).2.1, h.gs, h.acc, by rw [List.length_set]; exact h.pslen, fun j hj' => ?_, fun x => ?_, fun x u hu => ?_, fun j hj' x w => ?_, h.cnt⟩
 · rw [getD_setP _ _ _ _ (by rw [h.pslen]; exact hj)]; split
   · exact ⟨by show 0 ≤ q; omega, q2, fun hh => by cases hh⟩
   · exact h.psat j hj'
 · show (if x = id then none else (leaveY s id t i).tasks x) ≠ none ↔ _; rw [hmem x]; by_cases e : x = id
   · rw [if_pos e]; exact ⟨fun hh => absurd rfl hh, fun hh => absurd e hh.1⟩
   · rw [if_neg e, e5 x e, h.names x]; exact ⟨fun hh => ⟨e, hh⟩, fun hh => hh.2⟩
 · replace hu : (if x = id then none else (leaveY s id t i).tasks x) = some u := hu; by_cases e : x = id
   · rw [if_pos e] at hu; cases hu
   · rw [if_neg e, e5 x e] at hu; exact h.task x u hu
 · show hasL (leaveY s id t i).cores[j]!.l x w ↔ ∃ u, (if x = id then none else (leaveY s id t i).tasks x) = some u ∧ _; obtain ⟨-, -, c3, c4⟩ := h.left ht hi j hj'; by_cases e : x = id
   · rw [if_pos e, e]; exact ⟨fun hh => absurd hh (c4 w), fun ⟨u, hu, _⟩ => by cases hu⟩
   · rw [if_neg e, e5 x e, c3 x w e]; exact h.on j hj' x w
theorem takeP_hit {ps : List (Int × Bool)} (h : (takeP ps).2.1 = 0) : ∃ j, j < ps.length ∧ (ps.getD j default).2 = false ∧ takeP ps = ((j : Int) + 64 * (ps.getD j default).1, 0, ps.set j ((ps.getD j default).1 + 1, true)) := by
 unfold takeP at h ⊢; cases hf : ps.findIdx? (fun p => !p.2) with
 | some i =>
  obtain ⟨hi, hp, -⟩ := List.findIdx?_eq_some_iff_getElem.1 hf; refine ⟨i, hi, ?_, rfl⟩; rw [List.getD_eq_getElem?_getD, List.getElem?_eq_getElem hi]; simpa using hp
 | none => rw [hf] at h; simp at h
theorem InvY.spawn {k : Nat} {b : Int} {n : Nat} {s : Sy} {w m g : Int} (h : InvY k b n s) (hk : k ≤ 400) (h0 : (takeP s.ps).2.1 = 0) (hw : 1 ≤ w ∧ w ≤ 20) (hm : (0 ≤ m ∧ m < 65536) ∧ goodM m n = true) (hg : hasG s.gs g = true) :
 (0 ≤ (takeP s.ps).1 ∧ (takeP s.ps).1 ≤ 1000000) ∧ s.tasks (takeP s.ps).1 = none ∧
 InvY (k + 1) b n ⟨s.cores, s.gs, s.acc, (takeP s.ps).2.2, fun x => if x = (takeP s.ps).1 then some (newTk (takeP s.ps).1 w m g) else s.tasks x, s.cnt + 1⟩ := by
 obtain ⟨j, hj, hf, ht⟩ := takeP_hit h0; rw [h.pslen] at hj; rw [ht]; simp only
 have hpj := h.psat j hj; generalize (s.ps.getD j default).1 = q at hpj; have hmem : ∀ x, x ∈ listP (s.ps.set j (q + 1, true)) ↔ x = (j : Int) + 64 * q ∨ x ∈ listP s.ps := fun x => by
  rw [mem_listP, mem_listP]; constructor
  · rintro ⟨i, hi, h1, h2⟩; rw [getD_setP _ _ _ _ (by rw [h.pslen]; exact hj)] at h1 h2; by_cases e : j = i
    · rw [if_pos e] at h2; left; subst e; simp only at h2; omega
    · rw [if_neg e] at h1 h2; exact .inr ⟨i, by simpa using hi, h1, h2⟩
  · rintro (rfl | ⟨i, hi, h1, h2⟩)
    · refine ⟨j, by rw [List.length_set, h.pslen]; exact hj, ?_, ?_⟩
      · rw [getD_setP _ _ _ _ (by rw [h.pslen]; exact hj), if_pos rfl]
      · rw [getD_setP _ _ _ _ (by rw [h.pslen]; exact hj), if_pos rfl]; simp only; omega
    · have hji : j ≠ i := fun e => by subst e; rw [hf] at h1; cases h1
      refine ⟨i, by rw [List.length_set]; exact hi, ?_, ?_⟩
      · rw [getD_setP _ _ _ _ (by rw [h.pslen]; exact hj), if_neg hji]; exact h1
      · rw [getD_setP _ _ _ _ (by rw [h.pslen]; exact hj), if_neg hji]; exact h2
 have hnew : s.tasks ((j : Int) + 64 * q) = none := by
  by_cases e : s.tasks ((j : Int) + 64 * q) = none
  · exact e
  · obtain ⟨i, hi, h1, h2⟩ := mem_listP.1 ((h.names _).1 e); rw [h.pslen] at hi; have : i = j := by omega
    subst this; rw [hf] at h1; cases h1
 have hmn := h.mono (Nat.le_succ k) (Int.le_refl b); refine ⟨by omega, hnew, h.n8, h.len, hmn.line, hmn.srv, h.gs, h.acc, by rw [List.length_set]; exact h.pslen, fun i hi => ?_, fun x => ?_, fun x u hu => ?_, fun i hi x v => ?_, by have := h.cnt; show s.cnt + 1 ≤ k + 1; omega⟩
 · rw [getD_setP _ _ _ _ (by rw [h.pslen]; exact hj)]; split
   · simp only; omega
   · exact hmn.psat i hi
 · show (if x = (j : Int) + 64 * q then some _ else s.tasks x) ≠ none ↔ _; rw [hmem x]; by_cases e : x = (j : Int) + 64 * q
   · rw [if_pos e]; exact ⟨fun _ => .inl e, fun _ => by simp⟩
   · rw [if_neg e, h.names x]; exact ⟨.inr, fun hh => hh.elim (fun hh => absurd hh e) id⟩
 · replace hu : (if x = (j : Int) + 64 * q then some (newTk ((j : Int) + 64 * q) w m g) else s.tasks x) = some u := hu; by_cases e : x = (j : Int) + 64 * q
   · rw [if_pos e, Option.some.injEq] at hu; subst hu; refine ⟨e.symm, hw, hm, .inl rfl, fun hh => absurd rfl hh, fun hh => ?_, by simp only [newTk]; omega, hg⟩; rcases hh with hh | hh <;> exact absurd hh (by simp [newTk])
   · rw [if_neg e] at hu; exact hmn.task x u hu
 · show hasL s.cores[i]!.l x v ↔ ∃ u, (if x = (j : Int) + 64 * q then some (newTk ((j : Int) + 64 * q) w m g) else s.tasks x) = some u ∧ _; rw [h.on i hi x v]; by_cases e : x = (j : Int) + 64 * q
   · rw [if_pos e]; constructor
     · rintro ⟨u, hu, _⟩; rw [e, hnew] at hu; cases hu
     · rintro ⟨u, hu, h2, _⟩; rw [Option.some.injEq] at hu; subst hu; exact absurd h2 (by simp [newTk])
   · rw [if_neg e]
theorem getD_setG (l : List (Bool × Int)) (k j : Nat) (v : Bool × Int) (hk : k < l.length) : (l.set k v).getD j default = if k = j then v else l.getD j default := by
 rw [List.getD_eq_getElem?_getD, List.getElem?_set, List.getD_eq_getElem?_getD]; by_cases e : k = j
 · subst e; simp [hk]
 · simp [e]
theorem InvY.run1 {k : Nat} {b : Int} {n : Nat} {s : Sy} {i : Nat} (h : InvY k b n s) (hk : k ≤ 400) (hb : b ≤ 900000000000000000) (hi : i < n) :
 ∃ c', InvY (k + 1) (b + (k + 1 : Nat) * 232792560) n (setCo s i c') ∧ (coreRun s.cores[i]! = (-1, 0, c') ∨ ∃ id t, coreRun s.cores[i]! = (id, 0, c') ∧ s.tasks id = some t ∧ t.state = 2 ∧ t.core = (i : Int)) := by
 obtain ⟨p1, p2⟩ := (h.line i hi).pick s.cores[i]!.tag; obtain ⟨c1, c2, c3⟩ := p1.charge (by omega) (by omega); have hsv := h.srv i hi; have hiff : ∀ x v, hasL (runL s.cores[i]!.tag s.cores[i]!.l).2.2 x v ↔ hasL s.cores[i]!.l x v := fun x v => (c2 x v).trans (p2 x v)
 unfold coreRun; rcases c3 with e | ⟨e, w, hw⟩
 · have e' : (runL s.cores[i]!.tag s.cores[i]!.l).2.1 = 14 := e; simp only [e']; exact ⟨_, h.core (Nat.le_succ k) (by omega) hi c1 (by simp only; omega) hiff, .inl rfl⟩
 · have e' : (runL s.cores[i]!.tag s.cores[i]!.l).2.1 = 0 := e; simp only [e']; obtain ⟨t, ht, h2, h3, _⟩ := (h.on i hi _ w).1 ((p2 _ w).1 hw); exact ⟨_, h.core (Nat.le_succ k) (by omega) hi c1 (by simp only; omega) hiff, .inr ⟨_, t, rfl, ht, h2, h3⟩⟩
theorem InvY.chr {k : Nat} {b : Int} {n : Nat} {s : Sy} {i : Nat} {c' : Co} {tag : Int} {m : Nat} (h : InvY k b n s) (hi : i < n) (hm : m ≤ 1000) (hb : 1000000 ≤ b) (hc : ChR s.cores[i]! c' tag (1000 * m)) : InvY k b n (setCo s i c') := by
 rcases hc with rfl | ⟨a1, a2, a3, a4, a5, a6, a7⟩
 · exact h.core (Nat.le_refl _) (Int.le_refl _) hi (h.line i hi) (h.srv i hi) (fun x v => Iff.rfl)
 · obtain ⟨l1, l2⟩ := (h.line i hi).same (l' := c'.l) (b' := b) (by omega) a5 a6; exact h.core (Nat.le_refl _) (Int.le_refl _) hi l1 (by rw [a4]; exact h.srv i hi) l2
theorem wake_none (sb gb nb pb mb n : Nat) (cv : Value) (D : DataW Unit) (cbs : List Nat) (tb : Int → Nat) (own : Nat → Option Own) (s : Sy) (id : Int) (W : World) (h : SysAt W sb gb nb pb mb n cv D cbs tb own s)
 (h1 : -9223372036854775808 ≤ id) (h2 : id ≤ 9223372036854775807) (ht : s.tasks id = none) :
 Calls Tryz.prog 50 #[.pointer (some ⟨sb, 0, none⟩), .int .i64 id] W fun e w' => e = .returned (.int .i64 2) ∧ W = w' := by
 have hfind := find_none sb gb nb pb mb n cv D cbs tb own s id 5 W h h1 h2 ht; clear h ht; go_enter Tryz.func50, Tryz.ntmps50; go_wp2_with fail
 refine hfind.mono ?_; rintro e w' ⟨rfl, rfl⟩; go_wp2_with fail
 go_ret
 exact ⟨rfl, rfl⟩
theorem wake_err (sb gb nb pb mb n : Nat) (cv : Value) (D : DataW Unit) (cbs : List Nat) (tb : Int → Nat) (own : Nat → Option Own) (s : Sy) (id : Int) (t : Tk) (W : World) (h : SysAt W sb gb nb pb mb n cv D cbs tb own s)
 (h1 : -9223372036854775808 ≤ id) (h2 : id ≤ 9223372036854775807) (ht : s.tasks id = some t) (he : ¬ (nxt t.state 5).2 = 0) :
 Calls Tryz.prog 50 #[.pointer (some ⟨sb, 0, none⟩), .int .i64 id] W fun e w' => e = .returned (.int .i64 (nxt t.state 5).2) ∧ W = w' := by
 have hfind := find_task sb gb nb pb mb n cv D cbs tb own s id 5 t W h h1 h2 ht; generalize (nxt t.state 5).2 = y at he hfind ⊢; clear h ht; go_enter Tryz.func50, Tryz.ntmps50; go_wp2_with fail
 refine hfind.mono ?_; rintro e w' ⟨rfl, rfl⟩; go_wp2_with fail
 go_ret
 exact ⟨rfl, rfl⟩
set_option maxRecDepth 100000 in
theorem wake_ok (sb gb nb pb mb n : Nat) (cv : Value) (D : DataW Unit) (cbs : List Nat) (tb : Int → Nat) (own : Nat → Option Own) (s : Sy) (id : Int) (t : Tk) (xs : List G16) (i : Nat) (W : World) (h : SysAt W sb gb nb pb mb n cv D cbs tb own s)
 (h1 : -9223372036854775808 ≤ id) (h2 : id ≤ 9223372036854775807) (ht : s.tasks id = some t) (he : (nxt t.state 5).2 = 0) (hm : 0 ≤ t.mask ∧ t.mask < 65536) (hf : FitsY s) (h0 : 0 < cbs.length) (h16 : cbs.length ≤ 16) (hL : IsPath s.gs t.group xs)
 (hi : (if hasM t.mask t.core = true then t.core else (leastL (loadsY s) t.mask).1) = (i : Int)) (hil : i < cbs.length) (hr : (enterY (setTk s id (coT t i)) id (coT t i) (xs.any (spentA s)) i 5 false).1 = 0) :
 Calls Tryz.prog 50 #[.pointer (some ⟨sb, 0, none⟩), .int .i64 id] W fun e w' => e = .returned (.int .i64 0) ∧
  YP sb gb nb pb mb n cv D cbs tb own (enterY (setTk s id (coT t i)) id (coT t i) (xs.any (spentA s)) i 5 false).2 W w' := by
 have hfind := find_task sb gb nb pb mb n cv D cbs tb own s id 5 t W h h1 h2 ht; rw [he] at hfind; obtain ⟨hT, hto⟩ := h.task id t ht; obtain ⟨b, hb⟩ : ∃ b, tb id = b := ⟨_, rfl⟩
 rw [hb] at hfind hT hto; have hTlt := World.block_lt_of_cell? _ _ hT.id; have q0 := hT.id; have q1 := hT.w; have q2 := hT.group; have q3 := hT.core; have q4 := hT.state; have q5 := hT.mask; have q6 := hT.lag; have HBT := lH hb; have HS := lH h; have HT := lH ht; have HF := lH hf; have HTO := lH hto; have HL := lH hL; have HI := lH hi; have HR := lH hr; have HM := lH hm; have H0 := lH (And.intro h0 h16); obtain ⟨res, hres⟩ : ∃ res, (enterY (setTk s id (coT t i)) id (coT t i) (xs.any (spentA s)) i 5 false).2 = res := ⟨_, rfl⟩
 rw [hres]; have HRES := lH hres; clear h ht hb hto hf hL hi hr hm h0 h16 hres he; go_enter Tryz.func50, Tryz.ntmps50; go_wp2_with fail
 refine hfind.mono ?_; rintro e w' ⟨rfl, rfl⟩; clear hfind; go_wp2_with fail
 have hB0 : Below W.heap.size W (W.alloc (.cells #[.int .i64 t.id, .int .i64 t.w, .int .i64 t.group, .int .i64 t.core, .int .i64 t.state, .int .u16 t.mask, .int .i64 t.lag] 60)) := (Below.refl _ _).alloc (Nat.le_refl _) _; have hi' := HI.out; have hT0 := ((HS.out.below hB0).task id t HT.out).1; rw [HBT.out] at hT0; have q3 := hT0.core; have q5 := hT0.mask; clear q0 q1 q2 q4 q6 hT hTlt; have HT0 := lH hT0; clear hT0; generalize W.alloc (.cells #[.int .i64 t.id, .int .i64 t.w, .int .i64 t.group, .int .i64 t.core, .int .i64 t.state, .int .u16 t.mask, .int .i64 t.lag] 60) = w0 at hB0 q3 q5 HT0 ⊢; have hHas : ∀ n, Calls Tryz.prog 20 #[.int .u16 t.mask, .int .i64 t.core] (w0.drewN n) fun e w'' => e = .returned (.bool (hasM t.mask t.core)) ∧ ∃ m, w'' = w0.drewN m := fun n => (mhas_any t.mask t.core HM.out (w0.drewN n)).mono (fun e w' ⟨he, hw⟩ => ⟨he, n, hw.symm⟩); by_cases hha : hasM t.mask t.core = true
 · rw [hha] at hHas; rw [if_pos hha] at hi'; have HI' := lH hi'; clear hi'; go_quiet (exact hHas _)
   have hB0 : Below W.heap.size W (w0.drewN nq) := hB0.trans (below_dN _ _ _)
   have hi' := HI'.out; have hS1 := HS.out.below hB0; have htt : setTk s id (coT t i) = s := by
    have : coT t i = t := by rw [← hi']; rfl
    rw [this]; unfold setTk; have hfun : (fun x => if x = id then some t else s.tasks x) = s.tasks := by
     funext x
     split
     · rename_i e; rw [e, HT.out]
     · rfl
    rw [hfun]
   have hct : coT t i = t := by rw [← hi']; rfl
   have hres2 := HRES.out; have hr2 := HR.out; rw [htt, hct] at hres2 hr2; have hent := enter_any sb gb nb pb mb n cv D cbs tb own s id 5 t false xs i _ hS1 HT.out HL.out hi' hil HF.out; rw [hr2, hres2, HBT.out] at hent; clear hS1 htt hct hres2 hr2 hi' hha hHas; go_wp2_with fail
   refine hent.mono ?_; rintro e w2 ⟨rfl, own', hS3, ho3, ht3⟩; go_wp2_with fail
   go_ret
   exact ⟨rfl, own', hS3, fun k hk => ho3 k (Nat.lt_of_lt_of_le hk hB0.size), (Touch.of_below hB0).self ht3⟩
 · rw [show hasM t.mask t.core = false by simpa using hha] at hHas; rw [if_neg hha] at hi'; have HI' := lH hi'; clear hi'; go_quiet (exact hHas _)
   have hB0 : Below W.heap.size W (w0.drewN nq) := hB0.trans (below_dN _ _ _)
   have hi' := HI'.out; have hleast := yleast_any sb gb nb pb mb n cv D cbs tb own s t.mask _ (HS.out.below hB0) HF.out H0.out.1 H0.out.2 HM.out; rw [hi'] at hleast; clear hHas hi' hha; go_wp2_with fail
   refine hleast.mono ?_; rintro e w1 ⟨rfl, hb1⟩; have hBW : Below W.heap.size W w1 := hB0.trans (hb1.mono hB0.size)
   have hS1 := HS.out.below hBW; have hT1 := (hS1.task id t HT.out).1; rw [HBT.out] at hT1; have c3 := hT1.core; have f3 := hT1.live 3; have hS2 : SysAt (w1.setCell ⟨b, 3, none⟩ (.int .i64 i)) sb gb nb pb mb n cv D cbs tb own (setTk s id (coT t i)) := hS1.setTask HT.out (by rw [HBT.out]; exact hT1.setCore i) (by rw [HBT.out]; exact touch1 _ _ _ _); have hent := enter_any sb gb nb pb mb n cv D cbs tb own (setTk s id (coT t i)) id 5 (coT t i) false xs i _ hS2 (by simp [setTk]) HL.out rfl hil HF.out; rw [show xs.any (spentA (setTk s id (coT t i))) = xs.any (spentA s) from rfl, HR.out, HRES.out, HBT.out] at hent; have HBW := lH hBW; clear hleast hb1 hS1 hT1 hS2 hB0 hBW; go_wp2_with fail
   refine hent.mono ?_; rintro e w2 ⟨rfl, own', hS3, ho3, ht3⟩; go_wp2_with fail
   go_ret
   have e1 : Touch (fun k => own k ≠ none) W (w1.setCell ⟨b, 3, none⟩ (.int .i64 i)) := (Touch.of_below HBW.out).self ((touch1 w1 b 3 (.int .i64 i)).wider (fun k hk => by rw [hk, HTO.out]; simp)); exact ⟨rfl, own', hS3, fun k hk => ho3 k (Nat.lt_of_lt_of_le hk e1.size), e1.self ht3⟩
end Go.Proofs.YtoiajjobecinpaaGreat
