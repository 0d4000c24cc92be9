/- An item told; two forms alike. A core's queue for another, in which all is alike. What each stage of a try does. A step  -/
import Derived.Test.YtoiajjobecinpaaGreatTA17
set_option maxHeartbeats 4000000
namespace Go.Proofs.YtoiajjobecinpaaGreat
open Go.RowKit Go.Shelf Go.Lib Go.Proofs
set_option linter.unusedVariables false
set_option linter.unusedSimpArgs false
section
attribute [local go_sem] Oper.semAt_some
def Tryz.l224_ren : Go.Shelf.Ren := ⟨fun | 8 => 224 | n => n, fun | 22 => 68 | 24 => 77 | 4 => 4 | 3 => 3 | 0 => 0 | n => n, fun | n => n⟩
theorem Tryz.l224 : Go.Proofs.SlLaysQ.n8 Tryz.prog Tryz.l224_ren := {
 mixed := by kernel_rfl
 f8 := ⟨Tryz.f224.name, by decide, Tryz.func224.trans (congrArg some (by kernel_rfl))⟩
 t0 := Tryz.underlying0
 a0 := Tryz.isAgg0
 z0 := Tryz.sizeOf0
 v0 := Tryz.zeroValue0
 t3 := Tryz.underlying3
 a3 := Tryz.isAgg3
 z3 := Tryz.sizeOf3
 v3 := Tryz.zeroValue3
 t4 := Tryz.underlying4
 a4 := Tryz.isAgg4
 z4 := Tryz.sizeOf4
 v4 := Tryz.zeroValue4
 t22 := Tryz.underlying68
 a22 := Tryz.isAgg68
 z22 := Tryz.sizeOf68
 v22 := Tryz.zeroValue68 }
theorem neqIt : NeqAt Tryz.prog 77 (fun x : It => .agg x.cells.toArray) (fun x y => x.id == y.id && (x.w == y.w && x.lag == y.lag)) := by
 refine ⟨fun x y w => ?_, GuardAt.agg _ (by kernel_rfl)⟩; have u3 := Tryz.underlying3; have u2 := Tryz.underlying2; have a3 := Tryz.isAgg3; have z3 := Tryz.sizeOf3; have a2 := Tryz.isAgg2; have z2 := Tryz.sizeOf2; have hS : Tryz.prog.underlying 77 = some (.struct (Tryz.prog.fieldsOf 77)) := by kernel_rfl
 have hp : Tryz.prog.stoodInHeld 77 = false := by kernel_rfl
 simp only [It.cells]; rw [run_neq_struct, show (10000 : Nat) = 9999 + 1 from rfl, run_equalIn_agg w 9999 77 _ _ hS hp]; simp only [Program.fieldsOf, Tryz.underlying77]; go_simp
 by_cases h1 : x.id = y.id <;> by_cases h2 : x.w = y.w <;> by_cases h3 : x.lag = y.lag <;> simp [h1, h2, h3]
theorem allEq_it : ∀ (xs ys : List It), Lib.allEq (fun x y : It => x.id == y.id && (x.w == y.w && x.lag == y.lag)) xs ys = decide (xs = ys)
 | [], [] => by simp [Lib.allEq]
 | [], y :: ys => by simp [Lib.allEq]
 | x :: xs, [] => by simp [Lib.allEq]
 | x :: xs, y :: ys => by
  obtain ⟨a, b, c⟩ := x; obtain ⟨d, e, f⟩ := y; simp only [Lib.allEq, allEq_it xs ys]; by_cases h1 : a = d <;> by_cases h2 : b = e <;> by_cases h3 : c = f <;> simp [h1, h2, h3]
theorem eqI_nil1 (a : Option Addr) (m d : Nat) (W : World) (hm : m ≤ 100000) :
 Calls Tryz.prog 224 #[.slice none 0 0, .slice a m d] W fun e w' => e = .returned (.bool (decide (m = 0))) ∧ Below W.heap.size W w' := by
 by_cases h : m = 0
 · subst h; go_enter Tryz.func224, Tryz.ntmps224; go_wp2
   go_loop [5, 13] (fun _ i => i = .int .i64 0) (fun _ i => 0)
   case atStart => rfl
   case round =>
    subst hrel; go_wp2
    go_ret
    exact ⟨rfl, Below.refl _ _⟩
 · have h1 : ¬ (0 : Int) = (m : Int) := by omega
   have h2 : ((0 : Int) != (m : Int)) = true := by simp; omega
   have HM : Hid (decide (m = 0) = false) := lH (decide_eq_false h); rw [HM.out]; clear h; go_enter Tryz.func224, Tryz.ntmps224; go_wp2
   go_ret
   exact ⟨rfl, Below.refl _ _⟩
theorem eqI_nil2 (a : Option Addr) (m d : Nat) (W : World) (hm : m ≤ 100000) :
 Calls Tryz.prog 224 #[.slice a m d, .slice none 0 0] W fun e w' => e = .returned (.bool (decide (m = 0))) ∧ Below W.heap.size W w' := by
 by_cases h : m = 0
 · subst h; go_enter Tryz.func224, Tryz.ntmps224; go_wp2
   go_loop [5, 13] (fun _ i => i = .int .i64 0) (fun _ i => 0)
   case atStart => rfl
   case round =>
    subst hrel; go_wp2
    go_ret
    exact ⟨rfl, Below.refl _ _⟩
 · have h1 : ¬ (m : Int) = 0 := by omega
   have h2 : ((m : Int) != 0) = true := by simp; omega
   have HM : Hid (decide (m = 0) = false) := lH (decide_eq_false h); rw [HM.out]; clear h; go_enter Tryz.func224, Tryz.ntmps224; go_wp2
   go_ret
   exact ⟨rfl, Below.refl _ _⟩
theorem isame_any (v1 v2 : Value) (xs ys : List It) (W : World) (h1 : FSl W v1 xs) (h2 : FSl W v2 ys) (l1 : xs.length ≤ 100000) (l2 : ys.length ≤ 100000) :
 Calls Tryz.prog 224 #[v1, v2] W fun e w' => e = .returned (.bool (decide (xs = ys))) ∧ Below W.heap.size W w' := by
 rcases h1 with ⟨rfl, rfl⟩ | ⟨g1, c1, rfl, k1, k2, k3, k4⟩
 · obtain ⟨a2, c2, rfl⟩ := h2.form; have := eqI_nil1 a2 ys.length c2 W l2; rwa [show decide (ys.length = 0) = decide (([] : List It) = ys) from decide_eq_decide.2 (by rw [List.length_eq_zero_iff]; exact ⟨fun h => h.symm, fun h => h.symm⟩)] at this
 · rcases h2 with ⟨rfl, rfl⟩ | ⟨g2, c2, rfl, m1, m2, m3, m4⟩
   · have := eqI_nil2 (some ⟨g1, 0, none⟩) xs.length c1 W l1; rwa [show decide (xs.length = 0) = decide (xs = ([] : List It)) from decide_eq_decide.2 List.length_eq_zero_iff] at this
   · have hcon := AnyQ.slices_Equal Tryz.l224 3 Tryz.isAgg77 Tryz.sizeOf77 It.cells (fun _ => rfl) _ neqIt g1 0 xs.length c1 g2 0 ys.length c2 xs ys W (Nat.le_refl _) (Nat.le_refl _) (by omega) (by omega)
      (fun j hj i u hu => by rw [Nat.zero_add]; exact k4 j hj i u hu) (fun j hj i u hu => by rw [Nat.zero_add]; exact m4 j hj i u hu)
     rw [List.take_of_length_le (Nat.le_refl _), List.take_of_length_le (Nat.le_refl _), allEq_it] at hcon; exact Calls.mono hcon (fun e w' ⟨he, q, hq⟩ => ⟨he, by rw [hq]; exact below_drewN (Below.refl _ _) _⟩)
set_option maxRecDepth 100000 in
theorem same_any (c1 c2 : Int) (v1 v2 : Value) (xs ys : List It) (W : World) (h1 : FSl W v1 xs) (h2 : FSl W v2 ys) (l1 : xs.length ≤ 100000) (l2 : ys.length ≤ 100000) :
 Calls Tryz.prog 208 #[.agg #[.int .i64 c1, v1], .agg #[.int .i64 c2, v2]] W fun e w' => e = .returned (.bool (decide (c1 = c2 ∧ xs = ys))) ∧ Below W.heap.size W w' := by
 have hs := isame_any v1 v2 xs ys _ ((h1.alloc (.cells #[.int .i64 c1, v1] 70)).alloc (.cells #[.int .i64 c2, v2] 70)) ((h2.alloc (.cells #[.int .i64 c1, v1] 70)).alloc (.cells #[.int .i64 c2, v2] 70)) l1 l2; obtain ⟨a1, d1, rfl⟩ := h1.form; obtain ⟨a2, d2, rfl⟩ := h2.form; have HB : Hid (Below W.heap.size W ((W.alloc (.cells #[.int .i64 c1, .slice a1 xs.length d1] 70)).alloc (.cells #[.int .i64 c2, .slice a2 ys.length d2] 70))) := lH (((Below.refl _ W).alloc (Nat.le_refl _) _).alloc (by simp) _); have hl : Hid (∀ b : Bool, decide (xs = ys) = b → decide (c1 = c2 ∧ xs = ys) = (decide (c1 = c2) && b)) := lH (fun b hb => by rw [← hb]; exact Bool.decide_and _ _); obtain ⟨b, hb⟩ : ∃ b, decide (xs = ys) = b := ⟨_, rfl⟩
 rw [hl.out b hb]; rw [hb] at hs; generalize xs.length = n1 at hs HB ⊢; generalize ys.length = n2 at hs HB ⊢; clear hl hb h1 h2 l1 l2; cases hc : (c1 == c2) with
 | true =>
  have hd : decide (c1 = c2) = true := by simpa using hc
  rw [hd, Bool.true_and]; clear hd; go_enter Tryz.func208, Tryz.ntmps208; go_wp2_with fail
  refine hs.mono ?_; rintro e w' ⟨rfl, hb'⟩; have HB' := lH hb'; clear hb'; go_wp2
  go_ret
  exact ⟨rfl, HB.out.trans (HB'.out.mono HB.out.size)⟩
 | false =>
  have hd : decide (c1 = c2) = false := by simpa using hc
  rw [hd, Bool.false_and]; clear hd; go_enter Tryz.func208, Tryz.ntmps208; go_wp2_with fail
  go_ret
  exact ⟨rfl, HB.out⟩
end
section
attribute [local go_sem] Oper.semAt_some
theorem CoreIn.setq {W : World} {cb : Nat} {F : Nat → Prop} {c : Co} {qb : Nat} {G : Nat → Prop} {tag : Int} {l : Ln} (h : CoreIn W cb F c) (hq : QIn W qb G tag l) (hGF : ∀ k, G k → ¬ F k) :
 CoreIn (W.setCell ⟨cb, 0, none⟩ (.pointer (some ⟨qb, 0, none⟩))) cb (fun k => F k ∨ G k) ⟨tag, l, c.age, c.srv⟩ := by
 obtain ⟨qb', mb, n, idle, G', D, h1, h2, h3, h4, h5, h6, h7, h8, h9, h10, h11, h12, h13⟩ := h; have hG : ∀ k, G k → k ≠ cb ∧ k ≠ mb := fun k hk => ⟨fun e => hGF k hk (e ▸ h9), fun e => hGF k hk (e ▸ h10)⟩
 refine ⟨qb, mb, n, idle, G, D, World.cell?_setCell_same _ _ _ h1, ?_, ?_, ?_, fun i => by rw [World.frozen?_setCell]; exact h5 i, ?_, ?_, h8, .inl h9, .inl h10, h11, fun k hk => ⟨.inr hk, (hG k hk).1, (hG k hk).2⟩, fun k hk => ?_⟩
 · rw [cell_setCell_ne _ (by simp)]; exact h2
 · rw [cell_setCell_ne _ (by simp)]; exact h3
 · rw [cell_setCell_ne _ (by simp)]; exact h4
 · exact hq.same (by simp) (fun k hk => Below.heap_setCell _ _ _ _ (by simpa using (hG k hk).1))
 · exact ownsMap_same h7 (Below.heap_setCell _ _ _ _ (by simpa using Ne.symm h11))
 · rw [World.size_setCell]; rcases hk with hk | hk
   · exact h13 k hk
   · exact hq.lt k hk
def ChangeP (cb : Nat) (F G : Nat → Prop) (c : Co) (tag : Int) (l : Ln) (w : World) (e : Ending) (W' : World) : Prop :=
 (e = .returned (.int .i64 4) ∧ Below w.heap.size w W') ∨
  (e = .returned (.int .i64 0) ∧ c.l.cur = l.cur ∧ formL c.l = formL l ∧ CoreIn W' cb (fun k => F k ∨ G k) ⟨tag, l, c.age, c.srv⟩ ∧ Touch (fun k => k = cb) w W')
abbrev ChS (W : World) (qb cb qb2 : Nat) (x y z : Value) (W2 : World) : Prop :=
 Below W.heap.size W W2 ∧ W2.cell? ⟨qb, 0, none⟩ = some x ∧ W2.cell? ⟨cb, 0, none⟩ = some y ∧ W2.cell? ⟨qb2, 0, none⟩ = some z
theorem stepS {W : World} {qb cb qb2 : Nat} {x y z : Value} {W2 W3 : World} (h : ChS W qb cb qb2 x y z W2) (hb : Below W2.heap.size W2 W3) : ChS W qb cb qb2 x y z W3 :=
 ⟨h.1.trans (hb.mono h.1.size), keepB hb h.2.1, keepB hb h.2.2.1, keepB hb h.2.2.2⟩
set_option maxRecDepth 100000 in
theorem change_any (cb : Nat) (F : Nat → Prop) (c : Co) (qb : Nat) (G : Nat → Prop) (tag : Int) (l : Ln) (W : World) (h : CoreIn W cb F c) (hf : Fits c.l) (hq : QIn W qb G tag l) (hfl : Fits l) (hGF : ∀ k, G k → ¬ F k) :
 Calls Tryz.prog 189 #[.pointer (some ⟨cb, 0, none⟩), .pointer (some ⟨qb, 0, none⟩)] W (ChangeP cb F G c tag l W) := by
 obtain ⟨lb, v, q0, hL, ht, -⟩ := hq.line; obtain ⟨T, K, hT, hm, he, hform⟩ := form_meth tag ht; obtain ⟨qb2, G2, k0, hQ2, -, -⟩ := h.q; obtain ⟨lb2, v2, q2, hL2, ht2, -⟩ := hQ2.line; obtain ⟨T2, K2, hT2, hm2, he2, hform2⟩ := form_meth c.tag ht2; rw [hT] at q0; rw [hT2] at q2; have hf1 := fun (W' : World) (hb : Below W.heap.size W W') => hform lb v l W' (hL.below hb) hfl; have hf2 := fun (W' : World) (hb : Below W.heap.size W W') => hform2 lb2 v2 c.l W' (hL2.below hb) hf; have hlen2 : (formL c.l).length ≤ 64 := by unfold formL; rw [List.length_map]; exact hf.1
 have hlen1 : (formL l).length ≤ 64 := by unfold formL; rw [List.length_map]; exact hfl.1
 have hclt := h.lt cb h.here; have HC := lH h; have HQ := lH hq; have HGF := lH hGF; have hcf : Hid (∀ i, W.frozen? ⟨cb, i, none⟩ = false) := lH (by obtain ⟨qb', mb, n, idle, G', D, h1, h2, h3, h4, h5, h6, h7, h8, h9, h10, h11, h12, h13⟩ := h; exact h5); obtain ⟨its1, hi1⟩ : ∃ x, formL l = x := ⟨_, rfl⟩
 obtain ⟨its2, hi2⟩ : ∃ x, formL c.l = x := ⟨_, rfl⟩
 obtain ⟨cur1, hc1⟩ : ∃ x, l.cur = x := ⟨_, rfl⟩
 obtain ⟨cur2, hc2⟩ : ∃ x, c.l.cur = x := ⟨_, rfl⟩
 rw [hi1, hc1] at hf1; rw [hi2, hc2] at hf2; rw [hi1] at hlen1; rw [hi2] at hlen2; have HE : Hid (decide (cur1 = cur2 ∧ its1 = its2) = true → c.l.cur = l.cur ∧ formL c.l = formL l) := lH (fun hd => by have := of_decide_eq_true hd; rw [hc1, hc2, hi1, hi2]; exact ⟨this.1.symm, this.2.symm⟩); generalize hdd : decide (cur1 = cur2 ∧ its1 = its2) = dd at HE; have hsame : ∀ (u1 u2 : Value) (W' : World), FSl W' u1 its1 → FSl W' u2 its2 → Calls Tryz.prog 208 #[.agg #[.int .i64 cur1, u1], .agg #[.int .i64 cur2, u2]] W' fun e w' => e = .returned (.bool dd) ∧ Below W'.heap.size W' w' := fun u1 u2 W' g1 g2 => by
  have := same_any cur1 cur2 u1 u2 its1 its2 W' g1 g2 (by omega) (by omega); rwa [hdd] at this
 clear h hq hGF hf hfl hL hL2 hQ2 ht ht2 hT hT2 hform hform2 hi1 hi2 hc1 hc2 hdd; have hB : Below W.heap.size W W.drew := (Below.refl _ _).drew; go_enter Tryz.func189, Tryz.ntmps189; go_wp2_with fail
 have hS : ChS W qb cb qb2 (.iface T (.pointer (some ⟨lb, 0, none⟩))) (.pointer (some ⟨qb2, 0, none⟩)) (.iface T2 (.pointer (some ⟨lb2, 0, none⟩))) W.drew := ⟨hB, q0, k0, q2⟩
 go_region_held3 (ChS W qb cb qb2 (.iface T (.pointer (some ⟨lb, 0, none⟩))) (.pointer (some ⟨qb2, 0, none⟩)) (.iface T2 (.pointer (some ⟨lb2, 0, none⟩)))) (first | (with_reducible exact hS) | exact hS) (first | (go_at_call 208; refine (hsame _ _ _ hP hR).mono ?_; rintro e w9 ⟨rfl, hb9⟩; replace hS := stepS hS hb9) | (refine (hf1 _ hS.1).mono ?_; rintro e w9 ⟨v9, rfl, hr9, hb9⟩; have hP := FSl.of hr9; (try replace hR := hR.below hb9); replace hS := stepS hS hb9) | (refine (hf2 _ hS.1).mono ?_; rintro e w9 ⟨v9, rfl, hr9, hb9⟩; have hR := FSl.of hr9; (try replace hP := hP.below hb9); replace hS := stepS hS hb9) | fail)
 all_goals (
  have hbw := hS.1; have kc := hS.2.2.1; have fz : w9.frozen? ⟨cb, 0, none⟩ = false := (World.frozen?_of_block (a := ⟨cb, 0, none⟩) (hbw.block cb hclt)).trans (hcf.out 0)
  have HBW := lH hbw; clear hS hB hbw q0 k0 q2 hP hR hb9; cases dd with
  | true =>
   have HE2 := lH (HE.out rfl); clear HE; go_wp2_with fail
   go_ret
   exact .inr ⟨rfl, HE2.out.1, HE2.out.2, (HC.out.below HBW.out).setq (HQ.out.below HBW.out) HGF.out, Touch.setCell (F := fun k => k = cb) (t := none) (Touch.of_below HBW.out) (.inl rfl) _⟩
  | false =>
   clear HE; go_wp2_with fail
   go_ret
   exact .inl ⟨rfl, HBW.out⟩)
end
section
attribute [local go_sem] Oper.semAt_some
def VainP (tb cb : Nat) (F : Nat → Prop) (c : Co) (t : Tr) (w : World) (e : Ending) (W' : World) : Prop :=
 ∃ (er : Int) (t' : Tr), er ≠ 0 ∧ e = .returned (.int .i64 er) ∧ TryC W' tb cb t' ∧ CoreIn W' cb F c ∧ Touch (fun k => k = tb) w W'
theorem CoreIn.tb {W W' : World} {cb tb : Nat} {F : Nat → Prop} {c : Co} (h : CoreIn W cb F c) (ht : Touch (fun k => k = tb) W W') (hF : ¬ F tb) : CoreIn W' cb F c :=
 h.touch ht (fun k hk e => hF (e ▸ hk))
theorem make2_any (a : Option Addr) (n c : Nat) (tag base : Int) (W : World) (h : BSl W a n) (hn : n ≤ 50000) (hc : n ≤ c) (hcm : c ≤ 9223372036854775807) :
 Calls Tryz.prog 187 #[.slice a n c, .int .i64 tag, .int .i64 base] W fun e W' => ∃ (p : Option Addr) (er : Int), e = .returned (.tuple #[.pointer p, .int .i64 er]) ∧ Below W.heap.size W W' ∧
  (er = 0 → ∃ qb F cur its, p = some ⟨qb, 0, none⟩ ∧ GoodI cur its ∧ (-1152921504606846976 ≤ base ∧ base ≤ 1152921504606846976) ∧ QIn W' qb F tag (seedL base cur its) ∧ ∀ k, F k → W.heap.size ≤ k) :=
 (make_any a n c tag base W h hn hc hcm).mono (fun e W' ⟨hb, hm⟩ => by
  rcases hm with ⟨er, he, rfl⟩ | ⟨qb, F, cur, its, rfl, h1, h2, h3, h4⟩
  · exact ⟨_, er, rfl, hb, fun h0 => absurd h0 he⟩
  · exact ⟨_, 0, rfl, hb, fun _ => ⟨qb, F, cur, its, rfl, h1, h2, h3, h4⟩⟩)
theorem change2_any (cb : Nat) (F : Nat → Prop) (c : Co) (qb : Nat) (G : Nat → Prop) (tag : Int) (l : Ln) (W : World) (h : CoreIn W cb F c) (hf : Fits c.l) (hq : QIn W qb G tag l) (hfl : Fits l) (hGF : ∀ k, G k → ¬ F k) :
 Calls Tryz.prog 189 #[.pointer (some ⟨cb, 0, none⟩), .pointer (some ⟨qb, 0, none⟩)] W fun e W' => ∃ er : Int, e = .returned (.int .i64 er) ∧ Touch (fun k => k = cb) W W' ∧
  ((er = 4 ∧ Below W.heap.size W W') ∨ (er = 0 ∧ c.l.cur = l.cur ∧ formL c.l = formL l ∧ CoreIn W' cb (fun k => F k ∨ G k) ⟨tag, l, c.age, c.srv⟩)) :=
 (change_any cb F c qb G tag l W h hf hq hfl hGF).mono (fun e W' hm => by
  rcases hm with ⟨rfl, hb⟩ | ⟨rfl, h1, h2, h3, h4⟩
  · exact ⟨4, rfl, Touch.of_below hb, .inl ⟨rfl, hb⟩⟩
  · exact ⟨0, rfl, h4, .inr ⟨rfl, h1, h2, h3⟩⟩)
theorem touch_drew {F : Nat → Prop} {a b : World} (h : Touch F a b) (n : Nat) : Touch F a (b.drewN n) := ⟨h.os, h.tape, h.output, h.size, h.block⟩
def Nx1P (tb cb : Nat) (F : Nat → Prop) (c : Co) (t : Tr) (w : World) (e : Ending) (w' : World) : Prop :=
 VainP tb cb F c t w e w' ∨ (e = .returned (.int .i64 0) ∧ TryC w' tb cb { t with age := c.age } ∧ CoreIn w' cb F c ∧ Touch (fun k => k = tb) w w')
def Nx2P (tb cb : Nat) (F : Nat → Prop) (c : Co) (t : Tr) (w : World) (e : Ending) (w' : World) : Prop :=
 VainP tb cb F c t w e w' ∨ (e = .returned (.int .i64 0) ∧ ∃ (v : Value) (n : Nat), TryC w' tb cb { t with b := v } ∧ BRow w' w.heap.size v n ∧ n ≤ 1000 ∧ CoreIn w' cb F c ∧ Touch (fun k => k = tb) w w')
def Nx3P (tb cb : Nat) (F : Nat → Prop) (c : Co) (t : Tr) (w : World) (e : Ending) (w' : World) : Prop :=
 VainP tb cb F c t w e w' ∨ (e = .returned (.int .i64 0) ∧ ∃ (qb : Nat) (G : Nat → Prop) (cur : Int) (its : List It), TryC w' tb cb { t with q := .pointer (some ⟨qb, 0, none⟩) } ∧ QIn w' qb G t.tag (seedL t.base cur its) ∧ GoodI cur its ∧ (-1152921504606846976 ≤ t.base ∧ t.base ≤ 1152921504606846976) ∧ (∀ k, G k → w.heap.size ≤ k) ∧ CoreIn w' cb F c ∧ Touch (fun k => k = tb) w w')
def Nx4P (tb cb : Nat) (F : Nat → Prop) (c : Co) (t : Tr) (w : World) (e : Ending) (w' : World) : Prop :=
 VainP tb cb F c t w e w' ∨ (e = .returned (.int .i64 0) ∧ TryC w' tb cb t ∧ CoreIn w' cb F c ∧ Below w.heap.size w w')
def Nx5P (tb cb : Nat) (F G : Nat → Prop) (c : Co) (t : Tr) (l : Ln) (w : World) (e : Ending) (w' : World) : Prop :=
 VainP tb cb F c t w e w' ∨ (e = .returned (.int .i64 0) ∧ TryC w' tb cb t ∧ c.l.cur = l.cur ∧ formL c.l = formL l ∧ CoreIn w' cb (fun k => F k ∨ G k) ⟨t.tag, l, c.age, c.srv⟩ ∧ Touch (fun k => k = cb) w w')
set_option maxRecDepth 100000 in
theorem next1_any (tb cb : Nat) (F : Nat → Prop) (c : Co) (t : Tr) (W : World) (h : TryC W tb cb t) (hc : CoreIn W cb F c) (hF : ¬ F tb) :
 Calls Tryz.prog 165 #[.pointer (some ⟨tb, 0, none⟩), .int .i64 1] W (Nx1P tb cb F c t W) := by
 have h0 := h.get 0 (.pointer (some ⟨cb, 0, none⟩)) rfl; have h5 := h.get 5 (.int .i64 t.age) rfl; have hfo := h.get 9 (.bool t.f1) rfl; have fz5 := h.frozen 5; have fz6 := h.frozen 6; have fz7 := h.frozen 7; have h1 := h.get 1 (.int .i64 t.tag) rfl; have h2 := h.get 2 (.int .i64 t.base) rfl; have h6 := h.get 6 t.b rfl; have h7 := h.get 7 t.q rfl; have hage : ∀ n, Calls Tryz.prog 185 #[.pointer (some ⟨cb, 0, none⟩)] (W.drewN n) fun e w'' => e = .returned (.int .i64 c.age) ∧ ∃ m, w'' = W.drewN m := fun n => (age_any cb F c _ (hc.below (below_drewN (Below.refl _ W) n))).mono (fun e w' ⟨he, hw⟩ => ⟨he, n, hw.symm⟩); have HT := lH h; have HC := lH hc; have HF := lH hF; obtain ⟨tag, base, stg, why, age, tb0, tq, g0, g1, g2, g3, g4, g5⟩ := t; simp only at h1 h2 h5 h6 h7 hfo; clear h hc hF; go_enter Tryz.func165, Tryz.ntmps165; go_wp2_with fail
 go_quiet (fail)
 have HT1 : Hid (TryC (W.drewN nq) tb cb ⟨tag, base, stg, why, age, tb0, tq, g0, g1, g2, g3, g4, g5⟩) := lH (HT.out.below (below_drewN (Below.refl _ W) nq)); have HC1 : Hid (CoreIn (W.drewN nq) cb F c) := lH (HC.out.below (below_drewN (Below.refl _ W) nq)); have HB1 : Hid (Below W.heap.size W (W.drewN nq)) := lH (below_drewN (Below.refl _ W) nq); cases g1 with
 | true =>
  go_wp2_with fail
  go_ret
  exact .inl ⟨_, _, by decide, rfl, HT1.out, HC1.out, Touch.of_below HB1.out⟩
 | false =>
  have hage1 := age_any cb F c _ HC1.out; go_wp2_with fail
  refine hage1.mono ?_; rintro e w2 ⟨rfl, rfl⟩; have HT2 := lH (HT1.out.setAge c.age); have HT3 : Hid (Touch (fun k => k = tb) W ((W.drewN nq).setCell ⟨tb, 5, none⟩ (.int .i64 c.age))) := lH (Touch.setCell (F := fun k => k = tb) (t := none) (Touch.of_below HB1.out) (.inl rfl) _); go_wp2_with fail
  go_ret
  exact .inr ⟨rfl, HT2.out, HC.out.tb HT3.out HF.out, HT3.out⟩
set_option maxRecDepth 100000 in
theorem next2_any (tb cb : Nat) (F : Nat → Prop) (c : Co) (t : Tr) (W : World) (h : TryC W tb cb t) (hc : CoreIn W cb F c) (hF : ¬ F tb) (hf : Fits c.l) :
 Calls Tryz.prog 165 #[.pointer (some ⟨tb, 0, none⟩), .int .i64 2] W (Nx2P tb cb F c t W) := by
 have h0 := h.get 0 (.pointer (some ⟨cb, 0, none⟩)) rfl; have h5 := h.get 5 (.int .i64 t.age) rfl; have hfo := h.get 10 (.bool t.f2) rfl; have fz5 := h.frozen 5; have fz6 := h.frozen 6; have fz7 := h.frozen 7; have h1 := h.get 1 (.int .i64 t.tag) rfl; have h2 := h.get 2 (.int .i64 t.base) rfl; have h6 := h.get 6 t.b rfl; have h7 := h.get 7 t.q rfl; have hage : ∀ n, Calls Tryz.prog 185 #[.pointer (some ⟨cb, 0, none⟩)] (W.drewN n) fun e w'' => e = .returned (.int .i64 c.age) ∧ ∃ m, w'' = W.drewN m := fun n => (age_any cb F c _ (hc.below (below_drewN (Below.refl _ W) n))).mono (fun e w' ⟨he, hw⟩ => ⟨he, n, hw.symm⟩); have HT := lH h; have HC := lH hc; have HF := lH hF; have HFIT := lH hf; obtain ⟨tag, base, stg, why, age, tb0, tq, g0, g1, g2, g3, g4, g5⟩ := t; simp only at h1 h2 h5 h6 h7 hfo; clear h hc hF hf; go_enter Tryz.func165, Tryz.ntmps165; go_wp2_with fail
 go_quiet (exact hage _)
 have HT1 : Hid (TryC (W.drewN nq) tb cb ⟨tag, base, stg, why, age, tb0, tq, g0, g1, g2, g3, g4, g5⟩) := lH (HT.out.below (below_drewN (Below.refl _ W) nq)); have HC1 : Hid (CoreIn (W.drewN nq) cb F c) := lH (HC.out.below (below_drewN (Below.refl _ W) nq)); have HB1 : Hid (Below W.heap.size W (W.drewN nq)) := lH (below_drewN (Below.refl _ W) nq); cases hst : (c.age != age) with
 | true =>
  go_wp2_with fail
  go_ret
  exact .inl ⟨_, _, by decide, rfl, HT1.out, HC1.out, Touch.of_below HB1.out⟩
 | false =>
  cases g2 with
  | true =>
   go_wp2_with fail
   go_ret
   exact .inl ⟨_, _, by decide, rfl, HT1.out, HC1.out, Touch.of_below HB1.out⟩
  | false =>
   have hwr := write_any cb F c _ HC1.out HFIT.out; go_wp2_with fail
   refine hwr.mono ?_; rintro e w2 ⟨v, n, er, rfl, hr, hn, hb2⟩; obtain ⟨va, vc, rfl, -, -⟩ := hr.form2; have k6 := keepB hb2 (show (W.drewN nq).cell? ⟨tb, 6, none⟩ = some tb0 from h6); have hT2 := HT1.out.below hb2; have HW2 : Hid (Below W.heap.size W w2) := lH (HB1.out.trans (hb2.mono HB1.out.size)); have fk6 := hT2.frozen 6; have HT2 := lH (hT2.setB (.slice va n vc)); have HR2 : Hid (BRow (w2.setCell ⟨tb, 6, none⟩ (.slice va n vc)) W.heap.size (.slice va n vc) n) := lH (BRow.same (hr.base (by simp [World.drewN])) (fun k hk => Below.heap_setCell _ _ _ _ (by have := (hr.lt hk).1; have := HT1.out.lt; simp; omega))); have HT3 : Hid (Touch (fun k => k = tb) W (w2.setCell ⟨tb, 6, none⟩ (.slice va n vc))) := lH (Touch.setCell (F := fun k => k = tb) (t := none) (Touch.of_below HW2.out) (.inl rfl) _); clear hr hb2 hT2 hwr; by_cases her : er = 0
   · subst her; go_wp2_with fail
     go_ret
     exact .inr ⟨rfl, _, n, HT2.out, HR2.out, hn, HC.out.tb HT3.out HF.out, HT3.out⟩
   · have HER := lH her; clear her; go_wp2_with fail
     go_ret
     exact .inl ⟨er, _, HER.out, rfl, HT2.out, HC.out.tb HT3.out HF.out, HT3.out⟩
set_option maxRecDepth 100000 in
theorem next3_any (tb cb : Nat) (F : Nat → Prop) (c : Co) (t : Tr) (W : World) (h : TryC W tb cb t) (hc : CoreIn W cb F c) (hF : ¬ F tb) (a : Option Addr) (n d : Nat) (hb : t.b = .slice a n d) (hbs : BSl W a n) (hn : n ≤ 50000) (hnd : n ≤ d) (hd : d ≤ 9223372036854775807) :
 Calls Tryz.prog 165 #[.pointer (some ⟨tb, 0, none⟩), .int .i64 3] W (Nx3P tb cb F c t W) := by
 have h0 := h.get 0 (.pointer (some ⟨cb, 0, none⟩)) rfl; have h5 := h.get 5 (.int .i64 t.age) rfl; have hfo := h.get 11 (.bool t.f3) rfl; have fz5 := h.frozen 5; have fz6 := h.frozen 6; have fz7 := h.frozen 7; have h1 := h.get 1 (.int .i64 t.tag) rfl; have h2 := h.get 2 (.int .i64 t.base) rfl; have h6 := h.get 6 t.b rfl; have h7 := h.get 7 t.q rfl; have hage : ∀ n, Calls Tryz.prog 185 #[.pointer (some ⟨cb, 0, none⟩)] (W.drewN n) fun e w'' => e = .returned (.int .i64 c.age) ∧ ∃ m, w'' = W.drewN m := fun n => (age_any cb F c _ (hc.below (below_drewN (Below.refl _ W) n))).mono (fun e w' ⟨he, hw⟩ => ⟨he, n, hw.symm⟩); have HT := lH h; have HC := lH hc; have HF := lH hF; have HBS := lH hbs; obtain ⟨tag, base, stg, why, age, tb0, tq, g0, g1, g2, g3, g4, g5⟩ := t; simp only at h1 h2 h5 h6 h7 hfo hb; subst hb; clear h hc hF hbs; go_enter Tryz.func165, Tryz.ntmps165; go_wp2_with fail
 go_quiet (exact hage _)
 have HT1 : Hid (TryC (W.drewN nq) tb cb ⟨tag, base, stg, why, age, .slice a n d, tq, g0, g1, g2, g3, g4, g5⟩) := lH (HT.out.below (below_drewN (Below.refl _ W) nq)); have HC1 : Hid (CoreIn (W.drewN nq) cb F c) := lH (HC.out.below (below_drewN (Below.refl _ W) nq)); have HB1 : Hid (Below W.heap.size W (W.drewN nq)) := lH (below_drewN (Below.refl _ W) nq); cases hst : (c.age != age) with
 | true =>
  go_wp2_with fail
  go_ret
  exact .inl ⟨_, _, by decide, rfl, HT1.out, HC1.out, Touch.of_below HB1.out⟩
 | false =>
  cases g3 with
  | true =>
   go_wp2_with fail
   go_ret
   exact .inl ⟨_, _, by decide, rfl, HT1.out, HC1.out, Touch.of_below HB1.out⟩
  | false =>
   have h6' : (W.drewN nq).drew.cell? ⟨tb, 6, none⟩ = some (.slice a n d) := h6; have h1' : (W.drewN nq).drew.cell? ⟨tb, 1, none⟩ = some (.int .i64 tag) := h1; have h2' : (W.drewN nq).drew.cell? ⟨tb, 2, none⟩ = some (.int .i64 base) := h2; have h7' : (W.drewN nq).drew.cell? ⟨tb, 7, none⟩ = some tq := h7; have hbs1 : BSl (W.drewN nq).drew a n := HBS.out.below (below_drewN (Below.refl _ W) nq).drew; have hTd : TryC (W.drewN nq).drew tb cb ⟨tag, base, stg, why, age, .slice a n d, tq, g0, g1, g2, false, g4, g5⟩ := HT1.out.below ((Below.refl _ _).drew); have hWd : Below W.heap.size W (W.drewN nq).drew := HB1.out.drew; have hmk := make2_any a n d tag base _ hbs1 hn hnd hd; go_wp2_with fail
   go_region_held3 (fun W2 => W2.cell? ⟨tb, 6, none⟩ = some (.slice a n d) ∧ W2.cell? ⟨tb, 1, none⟩ = some (.int .i64 tag) ∧ W2.cell? ⟨tb, 2, none⟩ = some (.int .i64 base)) (first | exact ⟨h6', h1', h2'⟩ | exact ⟨k6, k1, k2⟩ | exact ⟨by rw [cell_setCell_ne _ (by simp)]; exact k6, by rw [cell_setCell_ne _ (by simp)]; exact k1, by rw [cell_setCell_ne _ (by simp)]; exact k2⟩) (first | (go_at_call 187; refine hmk.mono ?_; rintro e w9 ⟨p, er, rfl, hb9, hm9⟩; have k6 := keepB hb9 h6'; have k1 := keepB hb9 h1'; have k2 := keepB hb9 h2'; have k7 := keepB hb9 h7'; have hT9 := hTd.below hb9; have z7 := hT9.frozen 7) | fail)
   all_goals (
    have HT9 := lH (hT9.setQ (.pointer p)); have HW9 : Hid (Below W.heap.size W w9) := lH (hWd.trans (hb9.mono hWd.size)); have HT3 : Hid (Touch (fun k => k = tb) W (w9.setCell ⟨tb, 7, none⟩ (.pointer p))) := lH (Touch.setCell (F := fun k => k = tb) (t := none) (Touch.of_below HW9.out) (.inl rfl) _); have HM := lH hm9; clear hm9 hb9 k6 k1 k2 k7 hT9 z7 hmk hbs1 hTd hWd h6' h1' h2' h7'; by_cases her : er = 0
    · subst her; go_wp2_with fail
      go_ret
      obtain ⟨qb, G, cur, its, rfl, hgi, hbd, hQ, hG⟩ := HM.out (by first | rfl | trivial); refine .inr ⟨rfl, qb, G, cur, its, HT9.out, hQ.same (by simp) (fun k hk => Below.heap_setCell _ _ _ _ (by have h9 : W.heap.size ≤ k := hG k hk; have := HT.out.lt; simp; omega)), hgi, hbd, hG, HC.out.tb HT3.out HF.out, HT3.out⟩
    · have HER := lH her; clear her; go_wp2_with fail
      go_ret
      exact .inl ⟨er, _, HER.out, rfl, HT9.out, HC.out.tb HT3.out HF.out, HT3.out⟩)
set_option maxRecDepth 100000 in
theorem next4_any (tb cb : Nat) (F : Nat → Prop) (c : Co) (t : Tr) (W : World) (h : TryC W tb cb t) (hc : CoreIn W cb F c) (hF : ¬ F tb) (hf : Fits c.l) (qb : Nat) (G : Nat → Prop) (l : Ln) (hq : t.q = .pointer (some ⟨qb, 0, none⟩)) (hQ : QIn W qb G t.tag l) (hfl : Fits l) :
 Calls Tryz.prog 165 #[.pointer (some ⟨tb, 0, none⟩), .int .i64 4] W (Nx4P tb cb F c t W) := by
 have h0 := h.get 0 (.pointer (some ⟨cb, 0, none⟩)) rfl; have h5 := h.get 5 (.int .i64 t.age) rfl; have hfo := h.get 12 (.bool t.f4) rfl; have fz5 := h.frozen 5; have fz6 := h.frozen 6; have fz7 := h.frozen 7; have h1 := h.get 1 (.int .i64 t.tag) rfl; have h2 := h.get 2 (.int .i64 t.base) rfl; have h6 := h.get 6 t.b rfl; have h7 := h.get 7 t.q rfl; have hage : ∀ n, Calls Tryz.prog 185 #[.pointer (some ⟨cb, 0, none⟩)] (W.drewN n) fun e w'' => e = .returned (.int .i64 c.age) ∧ ∃ m, w'' = W.drewN m := fun n => (age_any cb F c _ (hc.below (below_drewN (Below.refl _ W) n))).mono (fun e w' ⟨he, hw⟩ => ⟨he, n, hw.symm⟩); have HT := lH h; have HC := lH hc; have HF := lH hF; have HFIT := lH hf; have HQ := lH hQ; have HFL := lH hfl; obtain ⟨tag, base, stg, why, age, tb0, tq, g0, g1, g2, g3, g4, g5⟩ := t; simp only at h1 h2 h5 h6 h7 hfo hq HQ; subst hq; clear h hc hF hf hQ hfl; go_enter Tryz.func165, Tryz.ntmps165; go_wp2_with fail
 go_quiet (exact hage _)
 have HT1 : Hid (TryC (W.drewN nq) tb cb ⟨tag, base, stg, why, age, tb0, .pointer (some ⟨qb, 0, none⟩), g0, g1, g2, g3, g4, g5⟩) := lH (HT.out.below (below_drewN (Below.refl _ W) nq)); have HC1 : Hid (CoreIn (W.drewN nq) cb F c) := lH (HC.out.below (below_drewN (Below.refl _ W) nq)); have HB1 : Hid (Below W.heap.size W (W.drewN nq)) := lH (below_drewN (Below.refl _ W) nq); cases hst : (c.age != age) with
 | true =>
  go_wp2_with fail
  go_ret
  exact .inl ⟨_, _, by decide, rfl, HT1.out, HC1.out, Touch.of_below HB1.out⟩
 | false =>
  cases g4 with
  | true =>
   go_wp2_with fail
   go_ret
   exact .inl ⟨_, _, by decide, rfl, HT1.out, HC1.out, Touch.of_below HB1.out⟩
  | false =>
   have h0' : (W.drewN nq).drew.cell? ⟨tb, 0, none⟩ = some (.pointer (some ⟨cb, 0, none⟩)) := h0; have h7' : (W.drewN nq).drew.cell? ⟨tb, 7, none⟩ = some (.pointer (some ⟨qb, 0, none⟩)) := h7; have hWd : Below W.heap.size W (W.drewN nq).drew := HB1.out.drew; have hft := fits_any cb F c qb G tag l (W.drewN nq).drew (HC.out.below hWd) HFIT.out (HQ.out.below hWd) HFL.out; go_wp2_with fail
   go_region_held3 (fun W2 => W2.cell? ⟨tb, 0, none⟩ = some (.pointer (some ⟨cb, 0, none⟩)) ∧ W2.cell? ⟨tb, 7, none⟩ = some (.pointer (some ⟨qb, 0, none⟩))) (first | exact ⟨h0', h7'⟩ | exact ⟨k0, k7⟩) (first | (go_at_call 188; refine hft.mono ?_; rintro e w9 ⟨fa, fn, fc, rfl, hfn, hb9⟩; have k0 := keepB hb9 h0'; have k7 := keepB hb9 h7') | fail)
   all_goals (
    have HW9 : Hid (Below W.heap.size W w9) := lH (hWd.trans (hb9.mono hWd.size)); clear hb9 k0 k7 hft hWd h0' h7'; go_wp2_with fail
    all_goals (
     go_ret
     first
      | exact .inl ⟨_, _, by decide, rfl, HT.out.below HW9.out, HC.out.below HW9.out, Touch.of_below HW9.out⟩
      | exact .inr ⟨rfl, HT.out.below HW9.out, HC.out.below HW9.out, HW9.out⟩))
set_option maxRecDepth 100000 in
theorem next5_any (tb cb : Nat) (F : Nat → Prop) (c : Co) (t : Tr) (W : World) (h : TryC W tb cb t) (hc : CoreIn W cb F c) (hF : ¬ F tb) (hf : Fits c.l) (qb : Nat) (G : Nat → Prop) (l : Ln) (hq : t.q = .pointer (some ⟨qb, 0, none⟩)) (hQ : QIn W qb G t.tag l) (hfl : Fits l) (hGF : ∀ k, G k → ¬ F k) (hGt : ¬ G tb) :
 Calls Tryz.prog 165 #[.pointer (some ⟨tb, 0, none⟩), .int .i64 5] W (Nx5P tb cb F G c t l W) := by
 have h0 := h.get 0 (.pointer (some ⟨cb, 0, none⟩)) rfl; have h5 := h.get 5 (.int .i64 t.age) rfl; have hfo := h.get 13 (.bool t.f5) rfl; have fz5 := h.frozen 5; have fz6 := h.frozen 6; have fz7 := h.frozen 7; have h1 := h.get 1 (.int .i64 t.tag) rfl; have h2 := h.get 2 (.int .i64 t.base) rfl; have h6 := h.get 6 t.b rfl; have h7 := h.get 7 t.q rfl; have hage : ∀ n, Calls Tryz.prog 185 #[.pointer (some ⟨cb, 0, none⟩)] (W.drewN n) fun e w'' => e = .returned (.int .i64 c.age) ∧ ∃ m, w'' = W.drewN m := fun n => (age_any cb F c _ (hc.below (below_drewN (Below.refl _ W) n))).mono (fun e w' ⟨he, hw⟩ => ⟨he, n, hw.symm⟩); have HT := lH h; have HC := lH hc; have HF := lH hF; have HFIT := lH hf; have HQ := lH hQ; have HFL := lH hfl; have HGF := lH hGF; have HGT := lH hGt; obtain ⟨tag, base, stg, why, age, tb0, tq, g0, g1, g2, g3, g4, g5⟩ := t; simp only at h1 h2 h5 h6 h7 hfo hq HQ; subst hq; clear h hc hF hf hQ hfl hGF hGt; go_enter Tryz.func165, Tryz.ntmps165; go_wp2_with fail
 go_quiet (exact hage _)
 have HT1 : Hid (TryC (W.drewN nq) tb cb ⟨tag, base, stg, why, age, tb0, .pointer (some ⟨qb, 0, none⟩), g0, g1, g2, g3, g4, g5⟩) := lH (HT.out.below (below_drewN (Below.refl _ W) nq)); have HC1 : Hid (CoreIn (W.drewN nq) cb F c) := lH (HC.out.below (below_drewN (Below.refl _ W) nq)); have HB1 : Hid (Below W.heap.size W (W.drewN nq)) := lH (below_drewN (Below.refl _ W) nq); cases hst : (c.age != age) with
 | true =>
  go_wp2_with fail
  go_ret
  exact .inl ⟨_, _, by decide, rfl, HT1.out, HC1.out, Touch.of_below HB1.out⟩
 | false =>
  cases g5 with
  | true =>
   go_wp2_with fail
   go_ret
   exact .inl ⟨_, _, by decide, rfl, HT1.out, HC1.out, Touch.of_below HB1.out⟩
  | false =>
   have h0' : (W.drewN nq).drew.cell? ⟨tb, 0, none⟩ = some (.pointer (some ⟨cb, 0, none⟩)) := h0; have h7' : (W.drewN nq).drew.cell? ⟨tb, 7, none⟩ = some (.pointer (some ⟨qb, 0, none⟩)) := h7; have hWd : Below W.heap.size W (W.drewN nq).drew := HB1.out.drew; have htc : tb ≠ cb := fun e => HF.out (by rw [e]; exact HC.out.here); have hch := change2_any cb F c qb G tag l (W.drewN nq).drew (HC.out.below hWd) HFIT.out (HQ.out.below hWd) HFL.out HGF.out; have htl := HT1.out.lt; go_wp2_with fail
   go_region_held3 (fun W2 => W2.cell? ⟨tb, 0, none⟩ = some (.pointer (some ⟨cb, 0, none⟩)) ∧ W2.cell? ⟨tb, 7, none⟩ = some (.pointer (some ⟨qb, 0, none⟩))) (first | exact ⟨h0', h7'⟩ | exact ⟨k0, k7⟩) (first | (go_at_call 189; refine hch.mono ?_; rintro e w9 ⟨er, rfl, ht9, hm9⟩; have k0 := (World.cell?_of_block (a := ⟨tb, 0, none⟩) (ht9.block tb htl htc)).trans h0'; have k7 := (World.cell?_of_block (a := ⟨tb, 7, none⟩) (ht9.block tb htl htc)).trans h7') | fail)
   all_goals (
    have HT9 : Hid (TryC w9 tb cb ⟨tag, base, stg, why, age, tb0, .pointer (some ⟨qb, 0, none⟩), g0, g1, g2, g3, g4, false⟩) := lH (HT1.out.same (ht9.block tb htl htc)); have HTT : Hid (Touch (fun k => k = cb) W w9) := lH ⟨ht9.os.trans HB1.out.os, ht9.tape.trans HB1.out.tape, ht9.output.trans HB1.out.output, Nat.le_trans HB1.out.size ht9.size, fun k hk hn => (ht9.block k (Nat.lt_of_lt_of_le hk HB1.out.size) hn).trans (HB1.out.block k hk)⟩; have HM := lH hm9; clear hm9 ht9 k0 k7 hch hWd h0' h7'; go_wp2_with fail
    go_ret
    rcases HM.out with ⟨rfl, hb9⟩ | ⟨rfl, m1, m2, m3⟩
    · have hbw : Below W.heap.size W w9 := HB1.out.drew.trans (hb9.mono HB1.out.drew.size)
      exact .inl ⟨_, _, by decide, rfl, HT9.out, HC.out.below hbw, Touch.of_below hbw⟩
    · exact .inr ⟨rfl, HT9.out, m1, m2, m3, HTT.out⟩)
end
theorem mayI_w {id w lag : Int} (h : mayI id w lag = true) : 0 ≤ w ∧ w ≤ 20 := by
 unfold mayI at h; simp only [Bool.and_eq_true] at h; have := h.2.2.1; unfold goodW at this; simp only [Bool.and_eq_true, decide_eq_true_eq] at this; omega
theorem seedL_fits {base cur : Int} {its : List It} (hg : GoodI cur its) (hb : -1152921504606846976 ≤ base ∧ base ≤ 1152921504606846976) : Fits (seedL base cur its) := by
 obtain ⟨h1, -, h3, -⟩ := hg; refine ⟨by simpa [seedL] using h1, ?_, by show -2305843009213693952 ≤ base ∧ base ≤ 2305843009213693952; omega, fun p hp => ?_⟩
 · show (its.map (ptI base)).Pairwise _; rw [List.pairwise_map]; have hstep : ∀ k, 0 < k → k < its.length → its[k - 1]!.id < its[k]!.id := fun k h0 hk => (h3 k hk).2 h0; rw [List.pairwise_iff_getElem]; intro i j hi hj hij; show its[i].id < its[j].id; have gen : ∀ d, i + d + 1 < its.length → its[i]!.id < its[i + d + 1]!.id := by
    intro d; induction d with
    | zero => intro h; have := hstep (i + 1) (by omega) h; simpa using this
    | succ d ih =>
     intro h; have h1 := ih (by omega); have h2 := hstep (i + (d + 1) + 1) (by omega) h; rw [show i + (d + 1) + 1 - 1 = i + d + 1 from by omega] at h2; omega
   have := gen (j - i - 1) (by omega); rw [show i + (j - i - 1) + 1 = j from by omega] at this; rwa [getElem!_pos its i hi, getElem!_pos its j hj] at this
 · obtain ⟨x, hx, rfl⟩ := List.mem_map.1 hp; obtain ⟨k, hk, hxk⟩ := List.mem_iff_getElem.1 hx; have hm := (h3 k hk).1; rw [getElem!_pos its k hk, hxk] at hm; have hl := mayI_lag hm; have hw := mayI_w hm; exact ⟨by show -2305843009213693952 ≤ base - x.lag ∧ base - x.lag ≤ 4611686018427387904; omega, hw⟩
def SFits (l : Ln) : Prop := Fits l ∧ ∀ p ∈ l.ps, p.day = p.v + 4 * stepI p.w
theorem seedL_sfits {base cur : Int} {its : List It} (hg : GoodI cur its) (hb : -1152921504606846976 ≤ base ∧ base ≤ 1152921504606846976) : SFits (seedL base cur its) := by
 refine ⟨seedL_fits hg hb, fun p hp => ?_⟩; obtain ⟨x, hx, rfl⟩ := List.mem_map.1 hp; rfl
structure TryIn (W : World) (tb cb : Nat) (t : Tr) (X : Nat → Prop) : Prop where
 at_ : TryC W tb cb t
 here : X tb
 lt : ∀ k, X k → k < W.heap.size
 bytes : t.stg = 2 → ∃ a n d, t.b = .slice a n d ∧ BSl W a n ∧ n ≤ 50000 ∧ n ≤ d ∧ d ≤ 9223372036854775807 ∧ ∀ g i, 0 < n → a = some ⟨g, i, none⟩ → X g ∧ g ≠ tb ∧ ∀ j, W.frozen? ⟨g, j, none⟩ = false
 queue : (t.stg = 3 ∨ t.stg = 4) → ∃ qb G cur its, t.q = .pointer (some ⟨qb, 0, none⟩) ∧ QIn W qb G t.tag (seedL t.base cur its) ∧ GoodI cur its ∧ (-1152921504606846976 ≤ t.base ∧ t.base ≤ 1152921504606846976) ∧ ∀ k, G k → X k ∧ k ≠ tb
theorem TryIn.same {W W' : World} {tb cb : Nat} {t : Tr} {X : Nat → Prop} (h : TryIn W tb cb t X) (hs : W.heap.size ≤ W'.heap.size) (hb : ∀ k, X k → W'.heap[k]? = W.heap[k]?) : TryIn W' tb cb t X := by
 refine ⟨h.at_.same (hb tb h.here), h.here, fun k hk => Nat.lt_of_lt_of_le (h.lt k hk) hs, fun h2 => ?_, fun h3 => ?_⟩
 · obtain ⟨a, n, d, h1, hbs, h3, h4, h5, h6⟩ := h.bytes h2; refine ⟨a, n, d, h1, ?_, h3, h4, h5, fun g i hn ha => ⟨(h6 g i hn ha).1, (h6 g i hn ha).2.1, fun j => (World.frozen?_of_block (a := ⟨g, j, none⟩) (hb g (h6 g i hn ha).1)).trans ((h6 g i hn ha).2.2 j)⟩⟩; by_cases hn : 0 < n
   · exact hbs.same (fun k hk ⟨i, e⟩ => hb k (h6 k i hn e).1)
   · obtain rfl : n = 0 := by omega
     exact BSl.none _ _
 · obtain ⟨qb, G, cur, its, h1, hq, h4, h5, h6⟩ := h.queue h3; exact ⟨qb, G, cur, its, h1, hq.same hs (fun k hk => hb k (h6 k hk).1), h4, h5, h6⟩
def StepP (tb cb : Nat) (F X : Nat → Prop) (c : Co) (t : Tr) (w : World) (e : Ending) (W' : World) : Prop :=
 ∃ (t' : Tr) (c' : Co) (F' X' : Nat → Prop), e = .returned (.tuple #[.int .i64 t'.stg, .int .i64 t'.why]) ∧ TryIn W' tb cb t' X' ∧ CoreIn W' cb F' c' ∧ (∀ k, X' k → ¬ F' k) ∧ (t'.stg = t.stg + 1 ∨ t'.stg = 6) ∧
  (t'.stg ≠ 6 → t'.tag = t.tag ∧ t'.base = t.base) ∧ (c' = c ∨ (c'.tag = t.tag ∧ c'.l.base = t.base ∧ c'.age = c.age ∧ c'.srv = c.srv ∧ c'.l.cur = c.l.cur ∧ formL c'.l = formL c.l ∧ SFits c'.l)) ∧
  Touch (fun k => X k ∨ k = cb) w W' ∧ (∀ k, F' k → F k ∨ X k) ∧ (∀ k, F k → F' k) ∧ (∀ k, X' k → X k ∨ w.heap.size ≤ k)
section
attribute [local go_sem] Oper.semAt_some
def NxG (tb cb : Nat) (k : Int) (A : World → Prop) (B : Tr → World → Prop) (e : Ending) (w' : World) : Prop :=
 ∃ (er : Int) (t' : Tr), e = .returned (.int .i64 er) ∧ TryC w' tb cb t' ∧ (er ≠ 0 → A w') ∧ (er = 0 → t'.stg = k ∧ B t' w')
def StG (tb cb : Nat) (k : Int) (A : World → Prop) (B : Tr → World → Prop) (e : Ending) (w' : World) : Prop :=
 (∃ (er : Int) (w0 : World) (t' : Tr), e = .returned (.tuple #[.int .i64 6, .int .i64 er]) ∧ TryC w' tb cb { t' with stg := 6, why := er } ∧ A w0 ∧ Touch (fun k => k = tb) w0 w') ∨
  (∃ (w0 : World) (t' : Tr), e = .returned (.tuple #[.int .i64 (k + 1), .int .i64 t'.why]) ∧ TryC w' tb cb { t' with stg := k + 1 } ∧ B t' w0 ∧ Touch (fun k => k = tb) w0 w')
set_option maxRecDepth 100000 in
theorem step_gen (tb cb : Nat) (t : Tr) (W : World) (k : Int) (hk0 : 0 ≤ k) (hk4 : k ≤ 4) (ht : t.stg = k) (h : TryC W tb cb t) (A : World → Prop) (B : Tr → World → Prop)
 (hnext : Calls Tryz.prog 165 #[.pointer (some ⟨tb, 0, none⟩), .int .i64 (k + 1)] W (NxG tb cb k A B)) :
 Calls Tryz.prog 124 #[.pointer (some ⟨tb, 0, none⟩)] W (StG tb cb k A B) := by
 have hover := over_any tb cb t W h; have h3 := h.get 3 (.int .i64 t.stg) rfl; rw [ht] at hover h3; have hd : decide (5 ≤ k) = false := decide_eq_false (by omega); rw [hd] at hover; clear h ht hd; go_enter Tryz.func124, Tryz.ntmps124; go_wp2_with fail
 refine hover.mono ?_; rintro e w0 ⟨rfl, rfl⟩; go_wp2_with fail
 refine hnext.mono ?_; rintro e w1 ⟨er, t', rfl, hT, hA, hB⟩; by_cases her : er = 0
 · subst her; obtain ⟨hs, hB⟩ := hB rfl; have k3 := hT.get 3 (.int .i64 t'.stg) rfl; rw [hs] at k3; have z3 := hT.frozen 3; have hT2 := hT.setStg (k + 1); have m3 := hT2.get 3 (.int .i64 (k + 1)) rfl; have m4 := hT2.get 4 (.int .i64 t'.why) rfl; have HT2 := lH hT2; have HB := lH hB; have HTT : Hid (Touch (fun k => k = tb) w1 (w1.setCell ⟨tb, 3, none⟩ (.int .i64 (k + 1)))) := lH (Touch.setCell (F := fun k => k = tb) (t := none) (Touch.refl _ _) (.inl rfl) _); clear hT hT2 hA hB hnext hs; go_wp2_with fail
   go_quiet (fail)
   go_wp2
   go_ret2
   exact .inr ⟨w1, t', rfl, HT2.out.below (below_drewN (Below.refl _ _) _), HB.out, touch_drew HTT.out _⟩
 · have her2 : (er != 0) = true := by simp [her]
   have HA := lH (hA her); have hfail := fail_any tb cb t' er w1 hT; clear hT hA hB hnext her; go_wp2_with fail
   refine hfail.mono ?_; rintro e w2 ⟨rfl, hT2, htt⟩; have m3 := hT2.get 3 (.int .i64 6) rfl; have m4 := hT2.get 4 (.int .i64 er) rfl; have HT2 := lH hT2; have HTT := lH htt; clear hT2 htt hfail; go_wp2_with fail
   go_quiet (fail)
   go_wp2
   go_ret2
   exact .inl ⟨er, w1, t', rfl, HT2.out.below (below_drewN (Below.refl _ _) _), HA.out, touch_drew HTT.out _⟩
end
end Go.Proofs.YtoiajjobecinpaaGreat
