/- Now; Pick of stride. Pick of due: what it reckons, in plain lists; the products in 128 bits. Pick of due. A region that  -/
import Derived.Shelf.Bits.Mul64
import Derived.Shelf.Spec.BitsCarry
import Derived.Shelf.Lay
import Derived.Ground.NamesProg
import Derived.Ground.Names7Prog
import Derived.StillTail
import Derived.Test.YtoiajjobecinpaaGreatTA02
set_option maxHeartbeats 4000000
namespace Go.Proofs.YtoiajjobecinpaaGreat
open Go.RowKit Go.Shelf Go.Lib Go.Proofs
set_option linter.unusedVariables false
set_option linter.unusedSimpArgs false
theorem now_none (b : Nat) (v : Value) (l : Ln) (W : World) (h : LineAt W b v l) (hp : posP l.ps l.cur < 0) :
 Calls Tryz.prog 309 #[.pointer (some ⟨b, 0, none⟩)] W fun e w' => e = .returned (.tuple #[.agg #[.int .i64 0, .int .i64 0, .int .i64 0, .int .i64 0], .bool false]) ∧ Below W.heap.size W w' := by
 have hc := h.cur; have hlt := h.lt b (.inl rfl); have hfind := find_any b v l l.cur _ (h.alloc (.cells #[.int .i64 0, .int .i64 0, .int .i64 0, .int .i64 0] 338)); obtain ⟨r, hr⟩ : ∃ r, posP l.ps l.cur = r := ⟨_, rfl⟩
 rw [hr] at hfind hp; clear hr; go_enter Tryz.func309, Tryz.ntmps309; go_wp2_with fail
 refine hfind.mono ?_; rintro e w' ⟨rfl, hb⟩; have hbox : BoxAt w' W.heap.size ⟨0, 0, 0, 0⟩ := (hb.block W.heap.size (by simp)).trans (heap_alloc_new W _)
 have HB := lH hb; obtain ⟨d0, d1, d2, d3⟩ := hbox.cells; have f0 := hbox.frozen 0; have f1 := hbox.frozen 1; have f2 := hbox.frozen 2; have f3 := hbox.frozen 3; obtain ⟨g0, g1, g2, g3⟩ := (hbox.store4 ⟨0, 0, 0, 0⟩).cells; have HG0 := lH g0; have HG1 := lH g1; have HG2 := lH g2; have HG3 := lH g3; clear hb hbox g0 g1 g2 g3; go_wp2
 exact bodyPost_ret (v := .tuple #[.agg #[.int .i64 0, .int .i64 0, .int .i64 0, .int .i64 0], .bool false]) (by simp [results, Tryz.results309, go_sem, HG0.out, HG1.out, HG2.out, HG3.out]) rfl ⟨rfl, ((((((Below.refl _ _).alloc (Nat.le_refl _) _).trans (HB.out.mono (by simp))).setCell (by simp) _).setCell (by simp) _).setCell (by simp) _).setCell (by simp) _⟩
theorem now_hit (b : Nat) (v : Value) (l : Ln) (W : World) (h : LineAt W b v l) (k : Nat) (hk : k < l.ps.length) (hp : posP l.ps l.cur = k) (p : Pt) (hpk : l.ps[k]! = p) (hlen : l.ps.length ≤ 64) :
 Calls Tryz.prog 309 #[.pointer (some ⟨b, 0, none⟩)] W fun e w' => e = .returned (.tuple #[.agg p.cells.toArray, .bool true]) ∧ Below W.heap.size W w' := by
 have hc := h.cur; have hlt := h.lt b (.inl rfl); have hfind := find_any b v l l.cur _ (h.alloc (.cells #[.int .i64 0, .int .i64 0, .int .i64 0, .int .i64 0] 338)); rw [hp] at hfind; obtain ⟨g, cap, hvv⟩ := h.form (by omega); subst hvv; have HL := lH h; obtain ⟨n, hn⟩ : ∃ n, l.ps.length = n := ⟨_, rfl⟩
 rw [hn] at hk hlen; have HN := lH hn; have HPK := lH hpk; clear h hn hp hpk; have hk1 : (k : Int) < (n : Int) := by omega
 have hk0 : 0 ≤ (k : Int) := by omega
 have hk2 : ¬ (k : Int) < 0 := by omega
 obtain ⟨i, ww, pv, day⟩ := p; simp only [Pt.cells]; go_enter Tryz.func309, Tryz.ntmps309; go_wp2_with fail
 refine hfind.mono ?_; rintro e w' ⟨rfl, hb⟩; have hbox : BoxAt w' W.heap.size ⟨0, 0, 0, 0⟩ := (hb.block W.heap.size (by simp)).trans (heap_alloc_new W _)
 have hL := (HL.out.alloc (.cells #[.int .i64 0, .int .i64 0, .int .i64 0, .int .i64 0] 338)).below hb; have hsl := hL.sl; rw [HN.out] at hsl; obtain ⟨c0, c1, c2, c3⟩ := hL.cells (by rw [HN.out]; exact hk) HPK.out; simp only at c0 c1 c2 c3; have HB := lH hb; obtain ⟨d0, d1, d2, d3⟩ := hbox.cells; have f0 := hbox.frozen 0; have f1 := hbox.frozen 1; have f2 := hbox.frozen 2; have f3 := hbox.frozen 3; obtain ⟨g0, g1, g2, g3⟩ := (hbox.store4 ⟨i, ww, pv, day⟩).cells; have HG0 := lH g0; have HG1 := lH g1; have HG2 := lH g2; have HG3 := lH g3; clear hb hbox g0 g1 g2 g3 hL; go_wp2
 exact bodyPost_ret (v := .tuple #[.agg #[.int .i64 i, .int .i64 ww, .int .i64 pv, .int .i64 day], .bool true]) (by simp [results, Tryz.results309, go_sem, HG0.out, HG1.out, HG2.out, HG3.out]) rfl ⟨rfl, ((((((Below.refl _ _).alloc (Nat.le_refl _) _).trans (HB.out.mono (by simp))).setCell (by simp) _).setCell (by simp) _).setCell (by simp) _).setCell (by simp) _⟩
def takeL (l : Ln) : Ln := ⟨l.base, if l.ps = [] then -1 else (minP l.ps).id, l.ps⟩
theorem take_any (b : Nat) (v : Value) (l : Ln) (W : World) (h : LineAt W b v l) :
 Calls Tryz.prog 273 #[.pointer (some ⟨b, 0, none⟩), .agg (minP l.ps).cells.toArray, .bool (!l.ps.isEmpty)] W fun e w' => (∃ i : Int, e = .returned (.tuple #[.int .i64 i, .bool (!l.ps.isEmpty)])) ∧ LineAt w' b v (takeL l) ∧ Touch (fun k => k = b) W w' := by
 cases hps : l.ps with
 | nil =>
  refine (take_none b v l (minP []) W h).mono ?_; rintro e w' ⟨rfl, h1, h2⟩; refine ⟨⟨0, rfl⟩, ?_, h2⟩; unfold takeL; rw [if_pos hps]; exact h1
 | cons p t =>
  refine (take_some b v l (minP (p :: t)) W h).mono ?_; rintro e w' ⟨rfl, h1, h2⟩; refine ⟨⟨_, rfl⟩, ?_, h2⟩; unfold takeL; rw [if_neg (by rw [hps]; simp), hps]; rw [hps] at h1; exact h1
def PickP (b : Nat) (v : Value) (l : Ln) (W : World) (e : Ending) (w' : World) : Prop := (∃ (i : Int) (c : Bool), e = .returned (.tuple #[.int .i64 i, .bool c])) ∧ LineAt w' b v l ∧ Touch (fun k => k = b) W w'
theorem pick_stride (b : Nat) (v : Value) (l : Ln) (W : World) (h : LineAt W b v l) (hlen : l.ps.length ≤ 64) :
 Calls Tryz.prog 264 #[.pointer (some ⟨b, 0, none⟩)] W (PickP b v (takeL l) W) := by
 have hleast := least_any b v l W.drew h.drew hlen; have htake := fun W' h' => take_any b v l W' h'; generalize minP l.ps = m at hleast htake; generalize (!l.ps.isEmpty) = c at hleast htake; have hL := h.drew; have hT : Touch (fun k => k = b) W W.drew := (Touch.refl _ W).drew; clear h; go_enter Tryz.func264, Tryz.ntmps264; go_wp2_with fail
 go_region_with (first | (go_at_call 274; refine hleast.mono ?_; rintro e w' ⟨rfl, hb⟩; have hL := hL.below hb; have hT := hT.self (Touch.of_below hb)) | (go_at_call 273; refine (htake _ hL).mono ?_; rintro e w' ⟨⟨i, rfl⟩, hL2, hT2⟩; have hT := hT.self hT2))
 all_goals
  go_wp2_with fail
  go_ret2
  exact ⟨⟨_, _, rfl⟩, hL2, hT⟩
def Tryz.lays264_ren : Go.Shelf.Ren := ⟨fun | 264 => 319 | n => n, fun | 53 => 298 | 46 => 154 | n => n, fun | n => n⟩
theorem Tryz.lays264 : Go.Proofs.Lays.n264 Tryz.prog Tryz.lays264_ren := {
 mixed := by kernel_rfl
 f264 := Tryz.func319.trans (congrArg some (by kernel_rfl))
 t46 := Tryz.underlying154
 a46 := Tryz.isAgg154
 z46 := Tryz.sizeOf154
 v46 := Tryz.zeroValue154
 t53 := Tryz.underlying298
 a53 := Tryz.isAgg298
 z53 := Tryz.sizeOf298
 v53 := Tryz.zeroValue298 }
def Tryz.lays725_ren : Go.Shelf.Ren := ⟨fun | 25 => 320 | n => n, fun | 22 => 298 | n => n, fun | n => n⟩
theorem Tryz.lays725 : Go.Proofs.Lays7.n25 Tryz.prog Tryz.lays725_ren := {
 mixed := by kernel_rfl
 f25 := Tryz.func320.trans (congrArg some (by kernel_rfl))
 t22 := Tryz.underlying298
 a22 := Tryz.isAgg298
 z22 := Tryz.sizeOf298
 v22 := Tryz.zeroValue298
 i22 := by kernel_rfl }
theorem mul64 (x y : Nat) (hx : x < 18446744073709551616) (hy : y < 18446744073709551616) (w : World) :
 Calls Tryz.prog 319 #[.int .u64 x, .int .u64 y] w fun e w' => e = .returned (.tuple #[.int .u64 ((x * y / 18446744073709551616 : Nat) : Int), .int .u64 ((x * y % 18446744073709551616 : Nat) : Int)]) ∧ w = w' :=
 (Any.bits_Mul64 Tryz.lays264 x y hx hy w).mono fun _ _ ⟨h1, h2⟩ => ⟨h1, h2.symm⟩
theorem add64 (x y : Nat) (w : World) :
 (callFunc 320 #[.int .u64 x, .int .u64 y, .int .u64 0]).run Tryz.prog w =
  .ok (.value (.tuple #[.int .u64 (((x + y) % 18446744073709551616 : Nat) : Int), .int .u64 (((x + y) / 18446744073709551616 : Nat) : Int)])) w :=
 Any7.bits_Add64 Tryz.lays725 x y 0 (by omega) w
def dN (m : Int) (p : Pt) : Nat := (p.v - m).toNat
def sumD (m : Int) (ps : List Pt) : Nat := ps.foldl (fun s p => s + dN m p * p.w.toNat) 0
def totD (ps : List Pt) : Nat := ps.foldl (fun s p => s + p.w.toNat) 0
def stepD (m : Int) (S T : Nat) (b : Option Pt) (p : Pt) : Option Pt :=
 if S < dN m p * T then b else match b with
  | none => some p
  | some q => if p.day < q.day then some p else some q
def bestD (m : Int) (S T : Nat) (ps : List Pt) : Option Pt := ps.foldl (stepD m S T) none
def curD : Option Pt → Int
 | none => -1
 | some p => p.id
def pickD (l : Ln) : Ln :=
 ⟨l.base, curD (bestD (minP l.ps).v (sumD (minP l.ps).v l.ps) (totD l.ps) l.ps), l.ps⟩
theorem foldl_take {β : Type} (f : β → Pt → β) (z : β) (ps : List Pt) (k : Nat) (hk : k < ps.length) (p : Pt) (hp : ps[k]! = p) :
 (ps.take (k + 1)).foldl f z = f ((ps.take k).foldl f z) p := by
 rw [List.take_succ_eq_append_getElem hk, List.foldl_append, ← hp, getElem!_list hk]; rfl
theorem minP_le (ps : List Pt) : ∀ p ∈ ps, (minP ps).v ≤ p.v := by
 cases ps with
 | nil => intro p hp; simp at hp
 | cons a l =>
  have gen : ∀ (l : List Pt) (m : Pt), (l.foldl lowP m).v ≤ m.v ∧ ∀ p ∈ l, (l.foldl lowP m).v ≤ p.v := by
   intro l; induction l with
   | nil => intro m; exact ⟨by simp, by simp⟩
   | cons q l ih =>
    intro m; obtain ⟨h1, h2⟩ := ih (lowP m q); have h3 : (lowP m q).v ≤ m.v ∧ (lowP m q).v ≤ q.v := by
     unfold lowP; split <;> omega
    refine ⟨by simp only [List.foldl_cons]; omega, ?_⟩; intro p hp; simp only [List.foldl_cons]; rcases List.mem_cons.1 hp with rfl | hp
    · omega
    · exact h2 p hp
  intro p hp; obtain ⟨h1, h2⟩ := gen l a; rcases List.mem_cons.1 hp with rfl | hp
  · exact h1
  · exact h2 p hp
theorem totD_le (ps : List Pt) (k : Nat) (hw : ∀ p ∈ ps, 0 ≤ p.w ∧ p.w ≤ 20) : totD (ps.take k) ≤ k * 20 := by
 have gen : ∀ (l : List Pt) (z : Nat), (∀ p ∈ l, 0 ≤ p.w ∧ p.w ≤ 20) → l.foldl (fun s p => s + p.w.toNat) z ≤ z + l.length * 20 := by
  intro l; induction l with
  | nil => intro z _; simp
  | cons q l ih =>
   intro z h; have h1 := h q (by simp); have h2 := ih (z + q.w.toNat) (fun p hp => h p (by simp [hp])); simp only [List.foldl_cons, List.length_cons]; omega
 have h1 := gen (ps.take k) 0 (fun p hp => hw p (List.mem_of_mem_take hp)); have h2 : (ps.take k).length ≤ k := List.length_take_le _ _; unfold totD; omega
theorem sumD_le (m : Int) (ps : List Pt) (k : Nat) (hw : ∀ p ∈ ps, 0 ≤ p.w ∧ p.w ≤ 20) (hd : ∀ p ∈ ps, p.v - m ≤ 9223372036854775807) : sumD m (ps.take k) ≤ k * 184467440737095516140 := by
 have gen : ∀ (l : List Pt) (z : Nat), (∀ p ∈ l, (0 ≤ p.w ∧ p.w ≤ 20) ∧ p.v - m ≤ 9223372036854775807) → l.foldl (fun s p => s + dN m p * p.w.toNat) z ≤ z + l.length * 184467440737095516140 := by
  intro l; induction l with
  | nil => intro z _; simp
  | cons q l ih =>
   intro z h; have h1 := h q (by simp); have h2 := ih (z + dN m q * q.w.toNat) (fun p hp => h p (by simp [hp])); have h3 : dN m q * q.w.toNat ≤ 9223372036854775807 * 20 := Nat.mul_le_mul (by unfold dN; omega) (by omega); simp only [List.foldl_cons, List.length_cons]; omega
 have h1 := gen (ps.take k) 0 (fun p hp => ⟨hw p (List.mem_of_mem_take hp), hd p (List.mem_of_mem_take hp)⟩); have h2 : (ps.take k).length ≤ k := List.length_take_le _ _; unfold sumD; omega
theorem carry128 (S p M : Nat) (hM : 0 < M) : (S % M + p % M) % M = (S + p) % M ∧ S / M + (p / M + (S % M + p % M) / M) = (S + p) / M := by
 refine ⟨(Nat.add_mod S p M).symm, ?_⟩; have h1 := Nat.div_add_mod S M; have h2 := Nat.div_add_mod p M; have h3 : S + p = M * (S / M + p / M) + (S % M + p % M) := by rw [Nat.mul_add]; omega
 rw [h3, Nat.mul_add_div hM]; omega
theorem minP_mem (ps : List Pt) (h : ps ≠ []) : minP ps ∈ ps := by
 cases ps with
 | nil => exact absurd rfl h
 | cons a l =>
  have gen : ∀ (l : List Pt) (m : Pt), l.foldl lowP m = m ∨ l.foldl lowP m ∈ l := by
   intro l; induction l with
   | nil => intro m; exact .inl rfl
   | cons q l ih =>
    intro m; simp only [List.foldl_cons]; rcases ih (lowP m q) with h1 | h1
    · rw [h1]; unfold lowP; split
      · exact .inr (by simp)
      · exact .inl rfl
    · exact .inr (by simp [h1])
  rcases gen l a with h1 | h1
  · show l.foldl lowP a ∈ a :: l; rw [h1]; simp
  · exact List.mem_cons_of_mem _ h1
def DueS (W W1 wr : World) (b : Nat) (v : Value) (l : Ln) (m : Pt) : Prop := LineAt wr b v l ∧ Touch (fun k => k = b) W wr ∧ BoxAt wr W1.heap.size m ∧ Below W1.heap.size W1 wr
theorem DueS.put {W w1 wr : World} {b B2 : Nat} {v : Value} {l : Ln} {m : Pt} (h : DueS W w1 wr b v l m) (hL : LineAt W b v l) (h1 : W.heap.size ≤ B2) (h2 : w1.heap.size < B2) (q : Pt) (o : Obj) :
 DueS W w1 (((((wr.setCell ⟨B2, 0, none⟩ (.int .i64 q.id)).setCell ⟨B2, 1, none⟩ (.int .i64 q.w)).setCell ⟨B2, 2, none⟩ (.int .i64 q.v)).setCell ⟨B2, 3, none⟩ (.int .i64 q.day)).alloc o) b v l m := by
 obtain ⟨a1, a2, a3, a4⟩ := h; have t := touch_put4 wr B2 0 q; have t' : Touch (fun k => k = B2) wr ((((wr.setCell ⟨B2, 0, none⟩ (.int .i64 q.id)).setCell ⟨B2, 1, none⟩ (.int .i64 q.w)).setCell ⟨B2, 2, none⟩ (.int .i64 q.v)).setCell ⟨B2, 3, none⟩ (.int .i64 q.day)) := t; refine ⟨(a1.touch t' (fun k hk e => ?_)).alloc _, (a2.trans (fun k hk => .inr (by omega)) t').alloc _, ?_, ?_⟩
 · have := hL.lt k hk; omega
 · have h4 := a3.other4 (C := B2) (by omega) q; exact h4.below ((Below.refl _ _).alloc (Nat.le_refl _) _) h4.lt
 · have h5 : Below w1.heap.size w1 ((((wr.setCell ⟨B2, 0, none⟩ (.int .i64 q.id)).setCell ⟨B2, 1, none⟩ (.int .i64 q.w)).setCell ⟨B2, 2, none⟩ (.int .i64 q.v)).setCell ⟨B2, 3, none⟩ (.int .i64 q.day)) :=
    (((a4.setCell (by simp; omega) _).setCell (by simp; omega) _).setCell (by simp; omega) _).setCell (by simp; omega) _
   exact h5.alloc h5.size _
set_option maxRecDepth 100000 in
theorem pick_due (b : Nat) (v : Value) (l : Ln) (W : World) (h : LineAt W b v l) (hlen : l.ps.length ≤ 64)
 (hv : ∀ p ∈ l.ps, (-2305843009213693952 ≤ p.v ∧ p.v ≤ 4611686018427387904) ∧ (0 ≤ p.w ∧ p.w ≤ 20)) :
 Calls Tryz.prog 315 #[.pointer (some ⟨b, 0, none⟩)] W (PickP b v (pickD l) W) := by
 have hleast := least_any b v l W h hlen; obtain ⟨m, hm⟩ : ∃ m, minP l.ps = m := ⟨_, rfl⟩
 obtain ⟨c, hc⟩ : ∃ c, (!l.ps.isEmpty) = c := ⟨_, rfl⟩
 have hmle := minP_le l.ps; rw [hm] at hmle; rw [hm, hc] at hleast; have HM := lH hm; have HL := lH h; have HV := lH hv; have HMLE := lH hmle; have hvs : ∃ a c, v = .slice a l.ps.length c := by
  rcases h.row.2 with ⟨rfl, h0⟩ | ⟨g, cap, cur, rfl, _⟩
  · exact ⟨none, 0, by rw [h0]⟩
  · exact ⟨_, cap, rfl⟩
 obtain ⟨va, vc, hvv⟩ := hvs; obtain ⟨n, hn⟩ : ∃ n, l.ps.length = n := ⟨_, rfl⟩
 rw [hn] at hvv hlen; have HN := lH hn; have HVV := lH hvv; clear h hm hc hv hvv hn hmle; obtain ⟨mi, mw, mv, md⟩ := m; simp only [Pt.cells] at hleast; go_enter Tryz.func315, Tryz.ntmps315; go_wp2_with fail
 refine hleast.mono ?_; rintro e w1 ⟨rfl, hb1⟩; have hL1 := HL.out.below hb1; have hsl := hL1.sl; rw [HVV.out] at hsl; have hlt := hL1.lt b (.inl rfl); have HL1 := lH hL1; have HB1 := lH hb1; clear hL1 hb1; go_wp2
 go_loopw [6, 7, 8, 34] (fun x6 x7 x8 x wr => ∃ k : Nat, k ≤ n ∧ x = .int .i64 k ∧ x6 = .int .u64 ((totD (l.ps.take k) : Nat) : Int) ∧ x7 = .int .u64 ((sumD mv (l.ps.take k) / 18446744073709551616 : Nat) : Int) ∧ x8 = .int .u64 ((sumD mv (l.ps.take k) % 18446744073709551616 : Nat) : Int) ∧ Hid (DueS W w1 wr b v l ⟨mi, mw, mv, md⟩)) (fun _ _ _ x _ => n - (intOf x).toNat)
 case atStart =>
  refine ⟨0, Nat.zero_le _, rfl, rfl, by simp [sumD], by simp [sumD], lH ⟨HL1.out.alloc _, (Touch.of_below HB1.out).alloc _, heap_alloc_new _ _, (Below.refl _ _).alloc (Nat.le_refl _) _⟩⟩
 case round =>
  obtain ⟨k, hk, rfl, rfl, rfl, rfl, HR⟩ := hrel; obtain ⟨hL, hT, hX, hB⟩ := HR.out; have hxl := hX.lt; have hbl := hL.lt b (.inl rfl); obtain ⟨d0, d1, d2, d3⟩ := hX.cells; simp only at d0 d1 d2 d3; by_cases hkn : k < n
  · obtain ⟨g, cap, hg⟩ := hL.form (by rw [HN.out]; omega); rw [HN.out] at hg; have hvg := HVV.out.symm.trans hg; simp only [Value.slice.injEq, true_and] at hvg; obtain ⟨rfl, rfl⟩ := hvg; have hkn' : k < l.ps.length := by rw [HN.out]; exact hkn
    obtain ⟨p, hp⟩ : ∃ p, l.ps[k]! = p := ⟨_, rfl⟩
    have hmem : p ∈ l.ps := by rw [← hp, getElem!_list hkn']; exact List.getElem_mem hkn'
    have hpv := HV.out p hmem; have hple := HMLE.out p hmem; have hmmem := HV.out; have hL' := hL; rw [hg] at hL'; obtain ⟨c0, c1, c2, c3⟩ := hL'.cells hkn' hp; have hgl := hL'.lt g (.inr rfl); have hS := foldl_take (fun s p => s + dN mv p * p.w.toNat) 0 l.ps k hkn' p hp; have hT' := foldl_take (fun s p => s + p.w.toNat) 0 l.ps k hkn' p hp; change sumD mv (l.ps.take (k + 1)) = sumD mv (l.ps.take k) + dN mv p * p.w.toNat at hS; change totD (l.ps.take (k + 1)) = totD (l.ps.take k) + p.w.toNat at hT'; obtain ⟨i, ww, pv, day⟩ := p; simp only at c0 c1 c2 c3 hpv hple hS hT'; obtain ⟨⟨q1, q2⟩, q3, q4⟩ := hpv; obtain ⟨d, rfl⟩ : ∃ d : Nat, pv = mv + d := ⟨(pv - mv).toNat, by omega⟩
    obtain ⟨u, rfl⟩ : ∃ u : Nat, ww = u := ⟨ww.toNat, by omega⟩
    have hdn : dN mv ⟨i, u, mv + d, day⟩ = d := by unfold dN; simp only; omega
    rw [hdn] at hS; simp only [Int.toNat_natCast] at hS hT'; have hmv : -2305843009213693952 ≤ mv := by
     have := HV.out _ (minP_mem l.ps (by intro e; rw [e] at hkn'; simp at hkn')); rw [HM.out] at this; exact this.1.1
    have hd63 : d ≤ 9223372036854775807 := by omega
    have hpu : d * u ≤ 9223372036854775807 * 20 := Nat.mul_le_mul hd63 (by omega); have hsb := sumD_le mv l.ps k (fun p hp => (HV.out p hp).2) (fun p hp => by have := (HV.out p hp).1; omega); have htb := totD_le l.ps k (fun p hp => (HV.out p hp).2); obtain ⟨c1', c2'⟩ := carry128 (sumD mv (l.ps.take k)) (d * u) 18446744073709551616 (by omega); rw [← hS] at c1' c2'; obtain ⟨S', hS1⟩ : ∃ x, sumD mv (l.ps.take (k + 1)) = x := ⟨_, rfl⟩
    obtain ⟨T', hT1⟩ : ∃ x, totD (l.ps.take (k + 1)) = x := ⟨_, rfl⟩
    rw [hS1] at hS c1' c2'; rw [hT1] at hT'; have HS1 := lH hS1; have HT1 := lH hT1; clear hS1 hT1; generalize sumD mv (l.ps.take k) = S at hS c1' c2' hsb; generalize totD (l.ps.take k) = T at hT' htb; have hmul := fun W' => mul64 d u (by omega) (by omega) W'; have b1 : S / 18446744073709551616 ≤ 12800 := by omega
    have b2 : d * u / 18446744073709551616 ≤ 20 := by omega
    generalize d * u / 18446744073709551616 = ph at hmul c2' b2; have b3 : d * u % 18446744073709551616 < 18446744073709551616 := Nat.mod_lt _ (by omega); generalize d * u % 18446744073709551616 = pl at hmul c1' c2' b3; have b4 : S % 18446744073709551616 < 18446744073709551616 := Nat.mod_lt _ (by omega); generalize S % 18446744073709551616 = lo at c1' c2' b4; generalize S / 18446744073709551616 = hi at c2' b1; have hadd := fun W' => add64 lo pl W'; have b5 : (lo + pl) / 18446744073709551616 ≤ 1 := by omega
    generalize (lo + pl) / 18446744073709551616 = cy at hadd c2' b5; generalize (lo + pl) % 18446744073709551616 = sm at hadd c1'; have C1 := lH c1'; have C2 := lH c2'; have HT' := lH hT'; have HS' := lH hS; have HP := lH hp; have HLL := lH hL; have HTT := lH hT; have HXX := lH hX; have HBB := lH hB; have hk1 : (k : Int) < (n : Int) := by omega
    have hk0 : 0 ≤ (k : Int) := by omega
    clear hg hL hT hX hB hL' hp c1' c2' hT' hS hmmem hmem hdn hpu hsb HR; have hsub : mv + (d : Int) - mv = (d : Int) := by omega
    have HSUB := lH hsub; clear hsub; go_wp2_with fail
    rw [HSUB.out]; refine (hmul _).mono ?_; rintro e w2 ⟨rfl, rfl⟩; go_wp2_with (simp only [hadd])
    go_roundw
    case rel =>
     refine ⟨k + 1, hkn, by go_num, ?_, ?_, ?_, lH ⟨HLL.out.alloc _, HTT.out.alloc _, HXX.out.below ((Below.refl _ _).alloc (Nat.le_refl _) _) HXX.out.lt, HBB.out.alloc HBB.out.size _⟩⟩
     · rw [HT1.out, HT'.out]; simp
     · rw [HS1.out, ← C2.out]; simp
     · rw [HS1.out, ← C1.out]
    case measure => simp [intOf]; omega
  · obtain rfl : k = n := by omega
    have htk : l.ps.take k = l.ps := List.take_of_length_le (by rw [HN.out]; exact Nat.le_refl _); rw [htk]; have htb := totD_le l.ps k (fun p hp => (HV.out p hp).2); rw [htk] at htb; obtain ⟨S, hS⟩ : ∃ x, sumD mv l.ps = x := ⟨_, rfl⟩
    obtain ⟨T, hT2⟩ : ∃ x, totD l.ps = x := ⟨_, rfl⟩
    rw [hT2] at htb; rw [hS, hT2]; have hpick : pickD l = ⟨l.base, curD (bestD mv S T l.ps), l.ps⟩ := by unfold pickD; rw [HM.out]; simp only; rw [hS, hT2]
    have HPK := lH hpick; have hdm := Nat.div_add_mod S 18446744073709551616; have hmod := Nat.mod_lt S (show 0 < 18446744073709551616 by omega); generalize S / 18446744073709551616 = hi at hdm; generalize S % 18446744073709551616 = lo at hdm hmod; have HDM := lH hdm; have hsl2 := hL.sl; rw [HVV.out] at hsl2; have HL2 := lH hL; have HT2 := lH hT; have HX2 := lH hX; have HB2 := lH hB; clear hL hT hX hB htk hS hT2 hpick hdm HR; obtain ⟨B2, HBN⟩ : ∃ x, Hid (wr.heap.size = x) := ⟨_, lH rfl⟩
    have hlb2 : W.heap.size ≤ B2 ∧ w1.heap.size < B2 ∧ b < B2 := by rw [← HBN.out]; exact ⟨by have := HT2.out.size; exact this, hxl, hbl⟩
    go_wp2
    rw [HBN.out]; go_loopw [15, 74] (fun x15 x wq => ∃ q : Nat, q ≤ k ∧ x = .int .i64 q ∧ x15 = .bool (bestD mv S T (l.ps.take q)).isSome ∧ Hid (DueS W w1 wq b v l ⟨mi, mw, mv, md⟩ ∧ BoxAt wq B2 ((bestD mv S T (l.ps.take q)).getD ⟨0, 0, 0, 0⟩))) (fun _ x _ => k - (intOf x).toNat)
    case atStart =>
     refine ⟨0, Nat.zero_le _, rfl, rfl, lH ⟨⟨HL2.out.alloc _, HT2.out.alloc _, HX2.out.below ((Below.refl _ _).alloc (Nat.le_refl _) _) HX2.out.lt, HB2.out.alloc HB2.out.size _⟩, by rw [← HBN.out]; exact heap_alloc_new _ _⟩⟩
    case round =>
     obtain ⟨q, hq, rfl, rfl, HR⟩ := hrel; obtain ⟨⟨hL, hT, hX, hB⟩, hY⟩ := HR.out; have hyl := hY.lt; have hxl2 := hX.lt; have hbl2 := hL.lt b (.inl rfl); obtain ⟨d0, d1, d2, d3⟩ := hX.cells; simp only at d0 d1 d2 d3; by_cases hqk : q < k
     · obtain ⟨g, cap, hg⟩ := hL.form (by rw [HN.out]; omega); rw [HN.out] at hg; have hvg := HVV.out.symm.trans hg; simp only [Value.slice.injEq, true_and] at hvg; obtain ⟨rfl, rfl⟩ := hvg; have hkn' : q < l.ps.length := by rw [HN.out]; exact hqk
       obtain ⟨p, hp⟩ : ∃ p, l.ps[q]! = p := ⟨_, rfl⟩
       have hmem : p ∈ l.ps := by rw [← hp, getElem!_list hkn']; exact List.getElem_mem hkn'
       have hpv := HV.out p hmem; have hple := HMLE.out p hmem; have hL' := hL; rw [hg] at hL'; obtain ⟨c0, c1, c2, c3⟩ := hL'.cells hkn' hp; have hgl := hL'.lt g (.inr rfl); have hstep := foldl_take (stepD mv S T) none l.ps q hkn' p hp; change bestD mv S T (l.ps.take (q + 1)) = stepD mv S T (bestD mv S T (l.ps.take q)) p at hstep; have hmv : -2305843009213693952 ≤ mv := by
        have := HV.out _ (minP_mem l.ps (by intro e; rw [e] at hkn'; simp at hkn')); rw [HM.out] at this; exact this.1.1
       obtain ⟨i, ww, pv, day⟩ := p; simp only at c0 c1 c2 c3 hpv hple; obtain ⟨⟨q1, q2⟩, q3, q4⟩ := hpv; obtain ⟨d, rfl⟩ : ∃ d : Nat, pv = mv + d := ⟨(pv - mv).toNat, by omega⟩
       have hdn : dN mv ⟨i, ww, mv + d, day⟩ = d := by unfold dN; simp only; omega
       have hmul := fun W' => mul64 d T (by omega) (by omega) W'; have hxm := Nat.div_add_mod (d * T) 18446744073709551616; have hxl3 := Nat.mod_lt (d * T) (show 0 < 18446744073709551616 by omega); obtain ⟨X, hX0⟩ : ∃ X, d * T = X := ⟨_, rfl⟩
       rw [hX0] at hmul hxm hxl3; have hst2 : ∀ bo, stepD mv S T bo ⟨i, ww, mv + d, day⟩ = if S < X then bo else match bo with | none => some ⟨i, ww, mv + d, day⟩ | some r => if day < r.day then some ⟨i, ww, mv + d, day⟩ else some r := by
        intro bo; unfold stepD; rw [hdn, hX0] <;> rfl
       obtain ⟨best, hbest⟩ : ∃ x, bestD mv S T (l.ps.take q) = x := ⟨_, rfl⟩
       obtain ⟨next, hnext⟩ : ∃ x, bestD mv S T (l.ps.take (q + 1)) = x := ⟨_, rfl⟩
       rw [hnext, hbest, hst2] at hstep; rw [hbest] at hY ⊢; generalize X / 18446744073709551616 = ph at hmul hxm; generalize X % 18446744073709551616 = pl at hmul hxm hxl3; have hdm := HDM.out; have HSTEP := lH hstep; have HNEXT := lH hnext; have HLL := lH hL; have HTT := lH hT; have HXX := lH hX; have HBB := lH hB; have HYY := lH hY; have hsub : mv + (d : Int) - mv = (d : Int) := by omega
       have HSUB := lH hsub; have hk1 : (q : Int) < (k : Int) := by omega
       have hk0 : 0 ≤ (q : Int) := by omega
       obtain ⟨y0, y1, y2, y3⟩ := hY.cells; have f0 := hY.frozen 0; have f1 := hY.frozen 1; have f2 := hY.frozen 2; have f3 := hY.frozen 3; have HAH : Hid (S < X ↔ (hi < ph ∨ (hi = ph ∧ lo < pl))) := lH (by omega); clear hg hL hT hX hB hL' hp hstep hnext hY HR hmem hdn hX0 hst2 hbest hsub hdm hxm; go_wp2_with fail
       rw [HSUB.out]; refine (hmul _).mono ?_; rintro e w2 ⟨rfl, rfl⟩; clear hmul; go_upto_region 19 with fail
       go_cut [20] (fun x W2 => x = .bool (decide (S < X)) ∧ W2 = wr.alloc (.cells #[.int .i64 i, .int .i64 ww, .int .i64 (mv + d), .int .i64 day] 338))
       case first =>
        by_cases g1 : hi < ph
        · have e : decide (S < X) = true := decide_eq_true (HAH.out.2 (.inl g1)); have E := lH e; clear e; go_wp2_with fail
          go_meet
          exact ⟨by rw [E.out], rfl⟩
        · by_cases g2 : ph = hi
          · subst g2; by_cases g3 : lo < pl
            · have e : decide (S < X) = true := decide_eq_true (HAH.out.2 (.inr ⟨rfl, g3⟩)); have E := lH e; clear e; go_wp2_with fail
              go_meet
              exact ⟨by rw [E.out], rfl⟩
            · have e : decide (S < X) = false := decide_eq_false (fun h => by have := HAH.out.1 h; omega); have E := lH e; clear e; go_wp2_with fail
              go_meet
              exact ⟨by rw [E.out], rfl⟩
          · have e : decide (S < X) = false := decide_eq_false (fun h => by have := HAH.out.1 h; omega); have g4 : ((ph : Int) == (hi : Int)) = false := by simp; omega
            have E := lH e; clear e; go_wp2_with fail
            go_meet
            exact ⟨by rw [E.out], rfl⟩
       case rest =>
        obtain ⟨rfl, rfl⟩ := hcut; have hB := HBB.out.size; by_cases hah : S < X
        · have hn : next = best := by rw [HSTEP.out, if_pos hah]
          have HNX := lH hn; clear hn; go_wp2_with fail
          go_roundw
          case rel =>
           refine ⟨q + 1, hqk, by go_num, by rw [HNEXT.out, HNX.out], lH ⟨⟨HLL.out.alloc _, HTT.out.alloc _, HXX.out.below ((Below.refl _ _).alloc (Nat.le_refl _) _) HXX.out.lt, HBB.out.alloc HBB.out.size _⟩, ?_⟩⟩; rw [HNEXT.out, HNX.out]; exact HYY.out.below ((Below.refl _ _).alloc (Nat.le_refl _) _) HYY.out.lt
          case measure => simp [intOf]; omega
        · have hn0 := HSTEP.out; rw [if_neg hah] at hn0; cases best with
          | none =>
           have HNX := lH hn0; clear hn0; simp only [Option.getD_none, Option.isSome_none] at y0 y1 y2 y3 ⊢; go_wp2_with fail
           go_roundw
           case rel =>
            refine ⟨q + 1, hqk, by go_num, by rw [HNEXT.out, HNX.out]; rfl, lH ⟨DueS.put ⟨HLL.out, HTT.out, HXX.out, HBB.out⟩ HL.out hlb2.1 hlb2.2.1 ⟨i, ww, mv + d, day⟩ _, ?_⟩⟩; rw [HNEXT.out, HNX.out]; have h4 := HYY.out.store4 ⟨i, ww, mv + d, day⟩; exact h4.below ((Below.refl _ _).alloc (Nat.le_refl _) _) h4.lt
           case measure => simp [intOf]; omega
          | some r =>
           simp only at hn0; by_cases hday : day < r.day
           · rw [if_pos hday] at hn0; have HNX := lH hn0; clear hn0; simp only [Option.getD_some, Option.isSome_some] at y0 y1 y2 y3 ⊢; go_wp2_with fail
             go_roundw
             case rel =>
              refine ⟨q + 1, hqk, by go_num, by rw [HNEXT.out, HNX.out]; rfl, lH ⟨DueS.put ⟨HLL.out, HTT.out, HXX.out, HBB.out⟩ HL.out hlb2.1 hlb2.2.1 ⟨i, ww, mv + d, day⟩ _, ?_⟩⟩; rw [HNEXT.out, HNX.out]; have h4 := HYY.out.store4 ⟨i, ww, mv + d, day⟩; exact h4.below ((Below.refl _ _).alloc (Nat.le_refl _) _) h4.lt
             case measure => simp [intOf]; omega
           · rw [if_neg hday] at hn0; have HNX := lH hn0; clear hn0; simp only [Option.getD_some, Option.isSome_some] at y0 y1 y2 y3 ⊢; go_wp2_with fail
             go_roundw
             case rel =>
              refine ⟨q + 1, hqk, by go_num, by rw [HNEXT.out, HNX.out]; rfl, lH ⟨⟨HLL.out.alloc _, HTT.out.alloc _, HXX.out.below ((Below.refl _ _).alloc (Nat.le_refl _) _) HXX.out.lt, HBB.out.alloc HBB.out.size _⟩, ?_⟩⟩; rw [HNEXT.out, HNX.out]; exact HYY.out.below ((Below.refl _ _).alloc (Nat.le_refl _) _) HYY.out.lt
             case measure => simp [intOf]; omega
     · obtain rfl : q = k := by omega
       have htk2 : l.ps.take q = l.ps := List.take_of_length_le (by rw [HN.out]; exact Nat.le_refl _); rw [htk2] at hY ⊢; obtain ⟨best, hbest⟩ : ∃ x, bestD mv S T l.ps = x := ⟨_, rfl⟩
       rw [hbest] at hY ⊢; have hpk : pickD l = ⟨l.base, curD best, l.ps⟩ := by rw [HPK.out, hbest]
       have HPK2 := lH hpk; have HLL := lH hL.drew; have HTT := lH hT.drew; obtain ⟨y0, y1, y2, y3⟩ := hY.cells; clear hL hT hX hB hY HR htk2 hbest hpk; cases best with
       | none =>
        have htake := take_none b v l ⟨0, 0, 0, 0⟩ wr.drew HLL.out; simp only [Option.getD_none, Option.isSome_none] at y0 y1 y2 y3 ⊢; simp only [Pt.cells] at htake; go_wp2_with fail
        go_region_with (go_at_call 273; refine htake.mono ?_; rintro e w' ⟨rfl, hL2, hT2⟩)
        all_goals
         go_wp2_with fail
         go_ret2
         exact ⟨⟨_, _, rfl⟩, by rw [HPK2.out]; exact hL2, HTT.out.self hT2⟩
       | some r =>
        obtain ⟨ri, rw', rv, rd⟩ := r; have htake := take_some b v l ⟨ri, rw', rv, rd⟩ wr.drew HLL.out; simp only [Option.getD_some, Option.isSome_some] at y0 y1 y2 y3 ⊢; simp only [Pt.cells] at htake; go_wp2_with fail
        go_region_with (go_at_call 273; refine htake.mono ?_; rintro e w' ⟨rfl, hL2, hT2⟩)
        all_goals
         go_wp2_with fail
         go_ret2
         exact ⟨⟨_, _, rfl⟩, by rw [HPK2.out]; exact hL2, HTT.out.self hT2⟩
section
variable {P : Program} {ops : Array Oper} {md : Region.Mode} {Q : Exit → Act → World → Prop} {S : World → Prop} {T : List Nat}
def wpAnyW (P : Program) (md : Region.Mode) (ops : Array Oper) (Q : Exit → Act → World → Prop) (S : World → Prop) (T : List Nat) : Nat → Array Bool → Act → World → Prop
 | 0, listed, a, w => Region.ready md ops listed = [] ∧ Q .normal a w
 | fuel + 1, listed, a, w =>
  (Region.ready md ops listed = [] → Q .normal a w) ∧
  ∀ i ∈ Region.ready md ops listed, wpOp P ops Q i (fun a' w' => (i ∉ T → S w') ∧ wpAnyW P md ops Q S T fuel (listed.setIfInBounds i true) a' w') a w
theorem wpAny_of_W : ∀ (fuel : Nat) (listed : Array Bool) (a : Act) (w : World), wpAnyW P md ops Q S T fuel listed a w → wpAny P md ops Q fuel listed a w
 | 0, _, _, _, h => h
 | fuel + 1, _, _, _, h => ⟨h.1, fun i hi => wpOp_mono (fun a' w' h' => wpAny_of_W fuel _ a' w' h'.2) (h.2 i hi)⟩
theorem wpAnyW_first {i : Nat} {oi : Oper} {v : Value} (hi : ops[i]? = some oi) (hsel : ∀ (j : Nat) (o : Oper) cs b, ops[j]? = some o → o.op ≠ .select cs b)
 (hQ : ∀ c a w, Q (.panic c) (a.put oi.dst v) w → Q (.panic c) a w)
 (hT : ∀ j oj, j ∈ T → ops[j]? = some oj → ∃ e ∈ oj.after, Region.binds md e = true ∧ e.on = i) :
 ∀ (fuel : Nat) (listed : Array Bool) (a : Act) (w : World),
  (∀ j oj, ops[j]? = some oj → j ≠ i → listed.getD j true = false → (∀ e ∈ oj.after, Region.binds md e = true → e.on ≠ i) → oi.apart ops oj = true) →
  i ∈ Region.ready md ops listed → i ∉ T → YieldsIf P ops S oi v a → S w →
  wpAnyW P md ops Q S T fuel (listed.setIfInBounds i true) (a.put oi.dst v) w → wpAnyW P md ops Q S T (fuel + 1) listed a w := by
 intro fuel; induction fuel with
 | zero =>
  intro listed a w _ hr hiT hy hS H; refine ⟨fun h => (by rw [h] at hr; cases hr), fun j hj => ?_⟩; by_cases hji : j = i
  · subst hji; exact hy.wpOp hi hS ⟨fun _ => hS, H⟩
  · have := ready_mono hj hji; rw [H.1] at this; cases this
 | succ fuel ih =>
  intro listed a w hfree hr hiT hy hS H; refine ⟨fun h => (by rw [h] at hr; cases hr), fun j hj => ?_⟩; by_cases hji : j = i
  · subst hji; exact hy.wpOp hi hS ⟨fun _ => hS, H⟩
  · have h1 := H.2 j (ready_mono hj hji); obtain ⟨hjun, oj, hoj, hall⟩ := mem_ready.1 hj; have hnot : ∀ e ∈ oj.after, Region.binds md e = true → e.on ≠ i := fun e he hb heq => by
     have h1 := hall e he hb; have h0 := (mem_ready.1 hr).1; rw [heq] at h1; rcases Nat.lt_or_ge i listed.size with h' | h'
     · simp [h'] at h0 h1; rw [h0] at h1; cases h1
     · simp [Array.getElem?_eq_none h'] at h1
    have hjT : j ∉ T := fun hjT => by
     obtain ⟨e, he, hb, hon⟩ := hT j oj hjT hoj; exact hnot e he hb hon
    have h2 := wpOp_putIf hoj (hfree j oj hoj hji hjun hnot) (fun cs b => hsel i oi cs b hi) (fun cs b => hsel j oj cs b hoj) hQ hy h1; have hfree' : ∀ k ok, ops[k]? = some ok → k ≠ i → (listed.setIfInBounds j true).getD k true = false →
     (∀ e ∈ ok.after, Region.binds md e = true → e.on ≠ i) → oi.apart ops ok = true := fun k ok hk hki hun hno => by
     refine hfree k ok hk hki ?_ hno; by_cases hjk : j = k
     · subst hjk; exact hjun
     · rw [getD_set_ne true hjk] at hun; exact hun
    refine wpOp_mono (fun a' w' h3 => ⟨h3.2.1, ih (listed.setIfInBounds j true) a' w' hfree' (ready_mono hr (Ne.symm hji)) hiT h3.1 (h3.2.1 hjT) ?_⟩) h2; rw [Array.setIfInBounds_comm _ _ hji]; exact h3.2.2
def lastB (md : Region.Mode) (ops : Array Oper) (T : List Nat) (i : Nat) : Bool := T.all (fun j => Region.waitsFor md ops j i) && !T.contains i
theorem wpAnyW_take {i : Nat} {oi : Oper} {v : Value} {fuel : Nat} {listed : Array Bool} {a : Act} {w : World} (hi : ops[i]? = some oi)
 (hs : Region.noSelect ops = true) (hf : Region.free md ops listed i = true) (hr : (Region.ready md ops listed).contains i = true) (hl : lastB md ops T i = true)
 (hQ : ∀ c a w, Q (.panic c) (a.put oi.dst v) w → Q (.panic c) a w) (hy : YieldsIf P ops S oi v a) (hS : S w)
 (h : wpAnyW P md ops Q S T fuel (listed.setIfInBounds i true) (a.put oi.dst v) w) : wpAnyW P md ops Q S T (fuel + 1) listed a w := by
 unfold lastB at hl; simp only [Bool.and_eq_true, Bool.not_eq_true', List.all_eq_true] at hl; refine wpAnyW_first hi (Region.noSelect_spec hs) hQ (fun j oj hj hoj => ?_) fuel listed a w (Region.free_spec hi hf) (by simpa using hr) (by simpa using hl.2) hy hS h; obtain ⟨oj', hoj', e, he, hb, hon⟩ := Region.waitsFor_spec (hl.1 j hj); have : oj' = oj := Option.some.inj (hoj'.symm.trans hoj); subst this; exact ⟨e, he, hb, hon⟩
theorem wpAnyW_one {i : Nat} {o : Oper} {fuel : Nat} {listed : Array Bool} {a : Act} {w : World} (hr : Region.ready md ops listed = [i]) (ho : ops[i]? = some o) (hl : T.contains i = false)
 (h : ∀ K' : Act → World → Prop, (∀ a w, S w → wpAnyW P md ops Q S T fuel (listed.setIfInBounds i true) a w → K' a w) → if Region.wanted o (yielded ops a.tmps) = true then Oper.wp P o a w K' Q else K' (a.put o.dst undef) w) :
 wpAnyW P md ops Q S T (fuel + 1) listed a w := by
 refine ⟨fun h0 => (by rw [h0] at hr; cases hr), fun j hj => ?_⟩; rw [hr] at hj; have hji : j = i := by simpa using hj
 subst hji; exact wpOp_step ho (fun K' hK => h K' (fun a w hS hW => hK a w ⟨fun _ => hS, hW⟩))
theorem wpAnyW_last {i : Nat} {o : Oper} {fuel : Nat} {listed : Array Bool} {a : Act} {w : World} (hr : Region.ready md ops listed = [i]) (ho : ops[i]? = some o) (hl : T.contains i = true)
 (h : ∀ K' : Act → World → Prop, (∀ a w, wpAnyW P md ops Q S T fuel (listed.setIfInBounds i true) a w → K' a w) → if Region.wanted o (yielded ops a.tmps) = true then Oper.wp P o a w K' Q else K' (a.put o.dst undef) w) :
 wpAnyW P md ops Q S T (fuel + 1) listed a w := by
 refine ⟨fun h0 => (by rw [h0] at hr; cases hr), fun j hj => ?_⟩; rw [hr] at hj; have hji : j = i := by simpa using hj
 subst hji; exact wpOp_step ho (fun K' hK => h K' (fun a w hW => hK a w ⟨fun hn => absurd (by simpa using hl) hn, hW⟩))
theorem wpAnyW_done {listed : Array Bool} {a : Act} {w : World} (hr : Region.ready md ops listed = []) (h : Q .normal a w) :
 ∀ fuel, wpAnyW P md ops Q S T fuel listed a w
 | 0 => ⟨hr, h⟩
 | _ + 1 => ⟨fun _ => h, by rw [hr]; simp⟩
theorem wp_region_W {id : Nat} {a : Act} {w : World} (hm : P.follows .mixedOrders = true)
 (h : wpAnyW P .any ops Q S T ops.size (Array.replicate ops.size false) a w.drew) : (Code.region id ops true).wp P Q a w :=
 wp_region_any hm (wpAny_of_W _ _ _ _ h)
end
end Go.Proofs.YtoiajjobecinpaaGreat
