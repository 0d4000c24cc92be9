/- A task is found, turned, comes to its core: in general. Run. Where an item is in a form. Bytes: what a call makes and wh -/
import Derived.WalkSmall
import Derived.OwnWalk
import Derived.Test.YtoiajjobecinpaaGreatTA11
set_option maxHeartbeats 4000000
namespace Go.Proofs.YtoiajjobecinpaaGreat
open Go.RowKit Go.Shelf Go.Lib Go.Proofs
set_option linter.unusedVariables false
set_option linter.unusedSimpArgs false
theorem become_any (b : Nat) (t : Tk) (act : Int) (W : World) (h : TaskAt W b t) :
 Calls Tryz.prog 106 #[.pointer (some ⟨b, 0, none⟩), .int .i64 act] W fun e w' => e = .returned (.tuple #[]) ∧ W.setCell ⟨b, 4, none⟩ (.int .i64 (nxt t.state act).1) = w' := by
 have hs := h.state; have hl := h.live 4; have hnext := next_any t.state act W; unfold Pair at hnext; generalize (nxt t.state act).1 = x at hnext ⊢; generalize (nxt t.state act).2 = y at hnext; clear h; go_enter Tryz.func106, Tryz.ntmps106; go_wp2_with fail
 refine hnext.mono ?_; rintro e w' ⟨rfl, rfl⟩; go_wp2_with fail
 go_end0
 exact ⟨rfl, rfl⟩
theorem find_task (sb gb nb pb mb n : Nat) (cv : Value) (D : DataW Unit) (cbs : List Nat) (tb : Int → Nat) (own : Nat → Option Own) (s : Sy) (id act : Int) (t : Tk) (W : World) (h : SysAt W sb gb nb pb mb n cv D cbs tb own s)
 (h1 : -9223372036854775808 ≤ id) (h2 : id ≤ 9223372036854775807) (ht : s.tasks id = some t) :
 Calls Tryz.prog 102 #[.pointer (some ⟨sb, 0, none⟩), .int .i64 id, .int .i64 act] W fun e w' => e = .returned (.tuple #[.pointer (some ⟨tb id, 0, none⟩), .int .i64 (nxt t.state act).2]) ∧ W = w' := by
 have hl := h.look id h1 h2; rw [ht] at hl; simp only at hl; have c67 := h.c67; have hs := (h.task id t ht).1.state; have hnext := next_any t.state act W; unfold Pair at hnext; generalize (nxt t.state act).1 = x at hnext; generalize (nxt t.state act).2 = y at hnext ⊢; generalize tb id = b at hl hs ⊢; clear h ht; go_enter Tryz.func102, Tryz.ntmps102; go_wp2_with fail
 refine hnext.mono ?_; rintro e w' ⟨rfl, rfl⟩; go_wp2_with fail
 go_ret2
 exact ⟨rfl, rfl⟩
theorem find_none (sb gb nb pb mb n : Nat) (cv : Value) (D : DataW Unit) (cbs : List Nat) (tb : Int → Nat) (own : Nat → Option Own) (s : Sy) (id act : Int) (W : World) (h : SysAt W sb gb nb pb mb n cv D cbs tb own s)
 (h1 : -9223372036854775808 ≤ id) (h2 : id ≤ 9223372036854775807) (ht : s.tasks id = none) :
 Calls Tryz.prog 102 #[.pointer (some ⟨sb, 0, none⟩), .int .i64 id, .int .i64 act] W fun e w' => e = .returned (.tuple #[.pointer none, .int .i64 2]) ∧ W = w' := by
 have hl := h.look id h1 h2; rw [ht] at hl; simp only at hl; have c67 := h.c67; clear h ht; go_enter Tryz.func102, Tryz.ntmps102; go_wp2_with fail
 go_ret2
 exact ⟨rfl, rfl⟩
def setTk (s : Sy) (id : Int) (t : Tk) : Sy := ⟨s.cores, s.gs, s.acc, s.ps, fun x => if x = id then some t else s.tasks x, s.cnt⟩
def setCo (s : Sy) (i : Nat) (c : Co) : Sy := ⟨s.cores.set i c, s.gs, s.acc, s.ps, s.tasks, s.cnt⟩
def stT (t : Tk) (x : Int) : Tk := ⟨t.id, t.w, t.group, t.core, x, t.mask, t.lag⟩
def enterY (s : Sy) (id : Int) (t : Tk) (held : Bool) (i : Nat) (act : Int) (x : Bool) : Int × Sy :=
 if held = true then (0, setTk s id (stT t (nxt (nxt t.state act).1 6).1))
 else if (coreEnter s.cores[i]! t.id t.w t.lag x).1 = 0 then (0, setTk (setCo s i (coreEnter s.cores[i]! t.id t.w t.lag x).2) id (stT t (nxt t.state act).1))
 else ((coreEnter s.cores[i]! t.id t.w t.lag x).1, setCo s i (coreEnter s.cores[i]! t.id t.w t.lag x).2)
def YP (sb gb nb pb mb n : Nat) (cv : Value) (D : DataW Unit) (cbs : List Nat) (tb : Int → Nat) (own : Nat → Option Own) (s' : Sy) (W w' : World) : Prop :=
 ∃ own', SysAt w' sb gb nb pb mb n cv D cbs tb own' s' ∧ (∀ k, k < W.heap.size → own' k = own k) ∧ Touch (fun k => own k ≠ none) W w'
theorem enter_held (sb gb nb pb mb n : Nat) (cv : Value) (D : DataW Unit) (cbs : List Nat) (tb : Int → Nat) (own : Nat → Option Own) (s : Sy) (id act : Int) (t : Tk) (x : Bool) (xs : List G16) (W : World) (h : SysAt W sb gb nb pb mb n cv D cbs tb own s)
 (ht : s.tasks id = some t) (hL : IsPath s.gs t.group xs) (hheld : xs.any (spentA s) = true) :
 Calls Tryz.prog 104 #[.pointer (some ⟨sb, 0, none⟩), .pointer (some ⟨tb id, 0, none⟩), .int .i64 act, .bool x] W fun e w' => e = .returned (.int .i64 0) ∧
  YP sb gb nb pb mb n cv D cbs tb own (setTk s id (stT t (nxt (nxt t.state act).1 6).1)) W w' := by
 obtain ⟨hT, hto⟩ := h.task id t ht; have hsp := spent_any sb gb nb pb mb n cv D cbs tb own s (tb id) t xs W h hT hL; rw [hheld] at hsp; have HS := lH h; have HT := lH ht; clear h ht hL hheld hT hto; go_enter Tryz.func104, Tryz.ntmps104; go_wp2_with fail
 refine hsp.mono ?_; rintro e w1 ⟨rfl, hb1⟩; have hT1 := (HS.out.below hb1).task id t HT.out; have hbe := become_any (tb id) t act w1 hT1.1; have HB1 := lH hb1; go_wp2_with fail
 refine hbe.mono ?_; rintro e w2 ⟨rfl, rfl⟩; have hT2 := hT1.1.setState (nxt t.state act).1; have hbe2 := become_any (tb id) _ 6 _ hT2; go_wp2_with fail
 refine hbe2.mono ?_; rintro e w3 ⟨rfl, rfl⟩; have hT3 := hT2.setState (nxt (nxt t.state act).1 6).1; go_wp2_with fail
 go_ret
 have hto : Touch (fun k => k = tb id) w1 ((w1.setCell ⟨tb id, 4, none⟩ (.int .i64 (nxt t.state act).1)).setCell ⟨tb id, 4, none⟩ (.int .i64 (nxt (nxt t.state act).1 6).1)) := (touch1 _ _ _ _).self (touch1 _ _ _ _); refine ⟨rfl, own, (HS.out.below HB1.out).setTask HT.out hT3 hto, fun _ _ => rfl, (Touch.of_below HB1.out).self (hto.wider (fun k hk => by rw [hk, hT1.2]; simp))⟩
section
attribute [local go_sem] Oper.semAt_some
theorem SysAt.drew1 {W : World} {sb gb nb pb mb n : Nat} {cv : Value} {D : DataW Unit} {cbs : List Nat} {tb : Int → Nat} {own : Nat → Option Own} {s : Sy} (h : SysAt W sb gb nb pb mb n cv D cbs tb own s) : SysAt W.drew sb gb nb pb mb n cv D cbs tb own s :=
 h.same (Nat.le_refl _) (fun _ _ => rfl)
def UseS (B1 sb C : Nat) (u0 u1 u2 u3 : Int) (W : World) : Prop :=
 W.cell? ⟨B1, 0, none⟩ = some (.pointer (some ⟨sb, 0, none⟩)) ∧ W.cell? ⟨C, 0, none⟩ = some (.int .i64 u0) ∧ W.cell? ⟨C, 1, none⟩ = some (.int .i64 u1) ∧ W.cell? ⟨C, 2, none⟩ = some (.int .i64 u2) ∧ W.cell? ⟨C, 3, none⟩ = some (.int .i64 u3)
theorem acc_bd {q p l f : Int} (h : FreeA q p l f ∨ FullA q p l f) : -9223372036854775808 ≤ l ∧ l ≤ 9223372036854775807 := by
 rcases h with h | h
 · unfold FreeA at h; omega
 · unfold FullA at h; omega
theorem touch_own {F : Nat → Prop} {A B C : World} {row : Option Nat} (h : Touch F A B) (hg : B.grownBy C row) (hr : ∀ r, row = some r → A.heap.size ≤ r) : Touch F A C :=
 ⟨hg.os.trans h.os, hg.tape.trans h.tape, hg.output.trans h.output, Nat.le_trans h.size hg.size, fun k hk hn => (hg.block k (Nat.lt_of_lt_of_le hk h.size) (fun e => by have := hr k e.symm; omega)).trans (h.block k hk hn)⟩
end
def Tryz.l92_ren : Go.Shelf.Ren := ⟨fun | 6 => 92 | n => n, fun | 22 => 68 | 23 => 77 | 25 => 112 | 3 => 3 | 0 => 0 | 4 => 4 | n => n, fun | n => n⟩
theorem Tryz.l92 : Go.Proofs.SlLaysH0.n6 Tryz.prog Tryz.l92_ren := {
 mixed := by kernel_rfl
 f6 := ⟨Tryz.f92.name, by decide, Tryz.func92.trans (congrArg some (by kernel_rfl))⟩
 t0 := Tryz.underlying0
 a0 := Tryz.isAgg0
 z0 := Tryz.sizeOf0
 v0 := Tryz.zeroValue0
 t3 := Tryz.underlying3
 a3 := Tryz.isAgg3
 z3 := Tryz.sizeOf3
 v3 := Tryz.zeroValue3
 t4 := Tryz.underlying4
 a4 := Tryz.isAgg4
 z4 := Tryz.sizeOf4
 v4 := Tryz.zeroValue4
 t22 := Tryz.underlying68
 a22 := Tryz.isAgg68
 z22 := Tryz.sizeOf68
 v22 := Tryz.zeroValue68
 t25 := Tryz.underlying112
 a25 := Tryz.isAgg112
 z25 := Tryz.sizeOf112
 v25 := Tryz.zeroValue112 }
theorem pred93 (id : Int) (B : Nat) (w : World) (hB : B < w.heap.size) (hcell : w.cell? ⟨B, 0, none⟩ = some (.int .i64 id)) :
 PredBelow Tryz.prog 93 #[.pointer (some ⟨B, 0, none⟩)] (fun x : It => .agg x.cells.toArray) (fun x => decide (x.id = id)) w := fun W x hb => by
 have hc : W.cell? ⟨B, 0, none⟩ = some (.int .i64 id) := (hb.cell (p := ⟨B, 0, none⟩) hB).trans hcell; have hBW : B < W.heap.size := Nat.lt_of_lt_of_le hB hb.size; have hne : B ≠ W.heap.size := by omega
 obtain ⟨i, ww, v⟩ := x; show Calls Tryz.prog 93 #[.agg #[.int .i64 i, .int .i64 ww, .int .i64 v], .pointer (some ⟨B, 0, none⟩)] W _; go_enter Tryz.func93, Tryz.ntmps93; go_wp2
 all_goals (go_ret; exact ⟨by simp_all; exact Bool.eq_iff_iff.2 (by simp), hb.alloc hb.size _⟩)
def posI (its : List It) (id : Int) : Int := Lib.idxBy (fun _ y => decide (y.id = id)) its default
theorem flatI_at (its : List It) : ∀ k i v, k < its.length → (its[k]!).cells[i]? = some v → (flatI its)[k * 3 + i]? = some v := by
 induction its with
 | nil => intro k i v h; simp at h
 | cons p l ih =>
  intro k i v h hv; cases k with
  | zero =>
   have hi : i < p.cells.length := (List.getElem?_eq_some_iff.1 hv).1; rw [show 0 * 3 + i = i from by omega]; rw [flatI, List.getElem?_append_left hi]; simpa using hv
  | succ k =>
   rw [flatI, List.getElem?_append_right (by simp [It.cells]; omega)]; have := ih k i v (by simpa using h) (by simpa using hv); rw [show (k + 1) * 3 + i - p.cells.length = k * 3 + i from by simp [It.cells]; omega]; exact this
def FSl (W : World) (v : Value) (its : List It) : Prop :=
 (v = .slice none 0 0 ∧ its = []) ∨ ∃ g cap, v = .slice (some ⟨g, 0, none⟩) its.length cap ∧ its.length ≤ cap ∧ cap ≤ 9223372036854775807 ∧ g < W.heap.size ∧ ∀ j, j < its.length → ∀ i u, (its[j]!).cells[i]? = some u → W.cell? ⟨g, j * 3 + i, none⟩ = some u
theorem FSl.of {W : World} {B : Nat} {v : Value} {its : List It} (h : W.ownsRow B 77 3 v its.length (flatI its)) : FSl W v its := by
 rcases h.2 with ⟨rfl, h0⟩ | ⟨g, cap, cur, rfl, hb, hgg, hn, hm, _⟩
 · exact .inl ⟨rfl, List.length_eq_zero_iff.1 h0⟩
 · refine .inr ⟨g, cap, rfl, hn, by unfold maxLen at hm; exact hm, (Array.getElem?_eq_some_iff.1 hgg).1, fun j hj i u hu => ?_⟩; have := h.cells (g := g) rfl _ _ (flatI_at its j i u hj hu); simpa [Addr.add_lit] using this
theorem FSl.same {W W' : World} {v : Value} {its : List It} (h : FSl W v its) (hs : W.heap.size ≤ W'.heap.size) (hb : ∀ k, v.ownBlock = some k → W'.heap[k]? = W.heap[k]?) : FSl W' v its := by
 rcases h with h | ⟨g, cap, rfl, h1, h2, h3, h4⟩
 · exact .inl h
 · exact .inr ⟨g, cap, rfl, h1, h2, Nat.lt_of_lt_of_le h3 hs, fun j hj i u hu => (World.cell?_of_block (a := ⟨g, j * 3 + i, none⟩) (hb g rfl)).trans (h4 j hj i u hu)⟩
theorem FSl.lt {W : World} {v : Value} {its : List It} (h : FSl W v its) {k : Nat} (hk : v.ownBlock = some k) : k < W.heap.size := by
 rcases h with ⟨rfl, _⟩ | ⟨g, cap, rfl, h1, h2, h3, h4⟩
 · simp [Value.ownBlock] at hk
 · have : g = k := by simpa [Value.ownBlock] using hk
   omega
theorem FSl.below {W W' : World} {v : Value} {its : List It} (h : FSl W v its) (hb : Below W.heap.size W W') : FSl W' v its := h.same hb.size (fun k hk => hb.block k (h.lt hk))
theorem FSl.alloc {W : World} {v : Value} {its : List It} (h : FSl W v its) (o : Obj) : FSl (W.alloc o) v its := h.same (by simp) (fun k hk => Below.heap_alloc _ _ _ (h.lt hk))
theorem FSl.form {W : World} {v : Value} {its : List It} (h : FSl W v its) : ∃ a c, v = .slice a its.length c := by
 rcases h with ⟨rfl, rfl⟩ | ⟨g, cap, rfl, _⟩
 · exact ⟨_, _, rfl⟩
 · exact ⟨_, _, rfl⟩
theorem FSl.cells {W : World} {a : Option Addr} {n c : Nat} {its : List It} (h : FSl W (.slice a n c) its) (k : Nat) (hk : k < its.length) : ∃ g, a = some ⟨g, 0, none⟩ ∧ g < W.heap.size ∧ W.cell? ⟨g, k * 3, none⟩ = some (.int .i64 its[k]!.id) ∧ W.cell? ⟨g, k * 3 + 1, none⟩ = some (.int .i64 its[k]!.w) ∧ W.cell? ⟨g, k * 3 + 2, none⟩ = some (.int .i64 its[k]!.lag) := by
 rcases h with ⟨_, rfl⟩ | ⟨g, cap, e, _, _, h3, h4⟩
 · simp at hk
 · simp only [Value.slice.injEq] at e; exact ⟨g, e.1, h3, h4 k hk 0 _ rfl, h4 k hk 1 _ rfl, h4 k hk 2 _ rfl⟩
theorem indexI_nil (g : Nat) (lb : Array Value) (W : World) :
 Calls Tryz.prog 92 #[.slice none 0 0, .func (.func g) #[] lb] W fun e w' => e = .returned (.int .i64 (-1)) ∧ W = w' := by
 go_enter Tryz.func92, Tryz.ntmps92; go_wp2
 go_loop [5, 8] (fun _ i => i = .int .i64 0) (fun _ i => 0)
 case atStart => rfl
 case round =>
  subst hrel; go_wp2
  go_ret
  exact ⟨rfl, rfl⟩
theorem findI_any (cur : Int) (v : Value) (its : List It) (id : Int) (W : World) (h : FSl W v its) :
 Calls Tryz.prog 41 #[.agg #[.int .i64 cur, v], .int .i64 id] W fun e w' => e = .returned (.int .i64 (posI its id)) ∧ Below W.heap.size W w' := by
 rcases h with ⟨rfl, rfl⟩ | ⟨g, cap, rfl, hn, hm, hg, hcells⟩
 · go_enter Tryz.func41, Tryz.ntmps41; go_wp2_with fail
   refine (indexI_nil _ _ _).mono ?_; rintro e w' ⟨rfl, rfl⟩; go_wp2
   go_ret
   exact ⟨rfl, ((Below.refl _ _).alloc (Nat.le_refl _) _).alloc (by simp) _⟩
 · have eg : ∀ args w, (callFunc 93 args).run Tryz.prog w = .ok (.enter 93 args) w := enters_of Tryz.func93 (by kernel_rfl) rfl; obtain ⟨W2, hW2⟩ : ∃ W2, (W.alloc (.cells #[.int .i64 cur, .slice (some ⟨g, 0, none⟩) its.length cap] 70)).alloc (.cells #[.int .i64 id] 3) = W2 := ⟨_, rfl⟩
   have hid : W2.cell? ⟨W.heap.size + 1, 0, none⟩ = some (.int .i64 id) := by
    have := heap_alloc_new (W.alloc (.cells #[.int .i64 cur, .slice (some ⟨g, 0, none⟩) its.length cap] 70)) (.cells #[.int .i64 id] 3); rw [hW2, size_alloc1] at this; simp only [World.cell?, this]; rfl
   have hsz : W2.heap.size = W.heap.size + 2 := by rw [← hW2]; simp
   have hB2 : Below W.heap.size W W2 := by rw [← hW2]; exact ((Below.refl _ _).alloc (Nat.le_refl _) _).alloc (by simp) _
   have hcon := AnyQ.slices_IndexFunc Tryz.l92 3 Tryz.isAgg77 Tryz.sizeOf77 It.cells (fun _ => rfl) (fun x => decide (x.id = id)) 93 #[.pointer (some ⟨W.heap.size + 1, 0, none⟩)] eg g 0 its.length cap its W2
    (pred93 id (W.heap.size + 1) _ (by omega) hid) (Nat.le_refl _) (by omega) (by omega) (fun j hj i u hu => by rw [Nat.zero_add, hB2.cell (p := ⟨g, j * 3 + i, none⟩) hg]; exact hcells j hj i u hu)
   change Calls Tryz.prog 92 _ _ _ at hcon; rw [List.take_of_length_le (Nat.le_refl _)] at hcon; change Calls Tryz.prog 92 _ _ (fun e w' => e = .returned (.int .i64 (posI its id)) ∧ _) at hcon; generalize posI its id = r at hcon ⊢; obtain ⟨m, HM⟩ : ∃ m, Hid (its.length = m) := ⟨_, lH rfl⟩
   rw [HM.out] at hcon hW2 ⊢; subst hW2; have HB2 := lH hB2; clear hcells eg hB2 hsz hid hn; go_enter Tryz.func41, Tryz.ntmps41; go_wp2_with fail
   refine hcon.mono ?_; rintro e w' ⟨rfl, hb'⟩; go_wp2
   go_ret
   exact ⟨rfl, HB2.out.trans (hb'.mono HB2.out.size)⟩
section
attribute [local go_sem] Oper.semAt_some
theorem info5 : (Tryz.prog.info? 5).map (fun i => (i.zero, i.size, i.bytes)) = some (some (.int .u8 0), 1, 1) := by kernel_rfl
def BRow (W : World) (B : Nat) (v : Value) (n : Nat) : Prop := ∃ bs : List Int, W.ownsRow B 5 1 v n (bs.map (Value.int .u8)) ∧ ∀ x ∈ bs, 0 ≤ x ∧ x ≤ 255
def BSl (W : World) (a : Option Addr) (n : Nat) : Prop := ∃ xs : List Int, xs.length = n ∧ (∀ x ∈ xs, 0 ≤ x ∧ x ≤ 255) ∧ (0 < n → ∃ g i, a = some ⟨g, i, none⟩ ∧ ∀ j, j < n → W.cell? ⟨g, i + j, none⟩ = some (.int .u8 (xs.getD j 0)))
theorem BRow.nil (W : World) (B : Nat) : BRow W B (.slice none 0 0) 0 := ⟨[], World.ownsRow_nil .., by simp⟩
theorem BRow.form {W : World} {B : Nat} {v : Value} {n : Nat} (h : BRow W B v n) : ∃ a c, v = .slice a n c := by
 obtain ⟨bs, h, -⟩ := h; rcases h.2 with ⟨rfl, rfl⟩ | ⟨g, cap, cur, rfl, _⟩
 · exact ⟨_, _, rfl⟩
 · exact ⟨_, _, rfl⟩
theorem BRow.same {W W' : World} {B : Nat} {v : Value} {n : Nat} (h : BRow W B v n) (hb : ∀ k, v.ownBlock = some k → W'.heap[k]? = W.heap[k]?) : BRow W' B v n := by
 obtain ⟨bs, h, h2⟩ := h; refine ⟨bs, ⟨h.1, ?_⟩, h2⟩; rcases h.2 with hn | ⟨g, cap, cur, rfl, hb', hgg, rest⟩
 · exact .inl hn
 · exact .inr ⟨g, cap, cur, rfl, hb', (hb g rfl).trans hgg, rest⟩
theorem BRow.lt {W : World} {B : Nat} {v : Value} {n : Nat} (h : BRow W B v n) {k : Nat} (hk : v.ownBlock = some k) : B ≤ k ∧ k < W.heap.size := by
 obtain ⟨bs, h, -⟩ := h; exact h.lt k hk
theorem BRow.alloc {W : World} {B : Nat} {v : Value} {n : Nat} (h : BRow W B v n) (o : Obj) : BRow (W.alloc o) B v n := h.same (fun k hk => Below.heap_alloc _ _ _ (h.lt hk).2)
theorem BRow.below {W W' : World} {B : Nat} {v : Value} {n : Nat} (h : BRow W B v n) (hb : Below W.heap.size W W') : BRow W' B v n := h.same (fun k hk => hb.block k (h.lt hk).2)
theorem BRow.base {W : World} {B B' : Nat} {v : Value} {n : Nat} (h : BRow W B v n) (hB : B' ≤ B) : BRow W B' v n := by
 obtain ⟨bs, h, h2⟩ := h; refine ⟨bs, ⟨h.1, ?_⟩, h2⟩; rcases h.2 with hn | ⟨g, cap, cur, rfl, hb', rest⟩
 · exact .inl hn
 · exact .inr ⟨g, cap, cur, rfl, by omega, rest⟩
theorem BSl.same {W W' : World} {a : Option Addr} {n : Nat} (h : BSl W a n) (hb : ∀ k, k < W.heap.size → (∃ i, a = some ⟨k, i, none⟩) → W'.heap[k]? = W.heap[k]?) : BSl W' a n := by
 obtain ⟨xs, h1, h2, h3⟩ := h; refine ⟨xs, h1, h2, fun hn => ?_⟩; obtain ⟨g, i, rfl, hc⟩ := h3 hn; have hg : g < W.heap.size := World.block_lt_of_cell? W _ (hc 0 hn); exact ⟨g, i, rfl, fun j hj => (World.cell?_of_block (a := ⟨g, i + j, none⟩) (hb g hg ⟨i, rfl⟩)).trans (hc j hj)⟩
theorem BSl.below {W W' : World} {a : Option Addr} {n : Nat} (h : BSl W a n) (hb : Below W.heap.size W W') : BSl W' a n := h.same (fun k hk _ => hb.block k hk)
theorem BSl.alloc {W : World} {a : Option Addr} {n : Nat} (h : BSl W a n) (o : Obj) : BSl (W.alloc o) a n := h.same (fun k hk _ => Below.heap_alloc _ _ _ hk)
theorem BRow.toSl {W : World} {B : Nat} {a : Option Addr} {n c : Nat} (h : BRow W B (.slice a n c) n) : BSl W a n := by
 obtain ⟨bs, h, h2⟩ := h; have hl : bs.length = n := by simpa using h.1
 refine ⟨bs, hl, h2, fun hn => ?_⟩; rcases h.2 with ⟨_, h0⟩ | ⟨g, cap, cur, e, hb', hgg, _⟩
 · omega
 · simp only [Value.slice.injEq] at e; obtain ⟨rfl, -, rfl⟩ := e; refine ⟨g, 0, rfl, fun j hj => ?_⟩; have := h.cells (g := g) rfl j (.int .u8 (bs.getD j 0)) (by simp [List.getD, List.getElem?_eq_getElem (show j < bs.length by omega)]); simpa [Addr.add_lit] using this
theorem BSl.tail {W : World} {g i n : Nat} (h : BSl W (some ⟨g, i, none⟩) n) (k : Nat) (hk : k ≤ n) : BSl W (some ⟨g, i + k, none⟩) (n - k) := by
 obtain ⟨xs, h1, h2, h3⟩ := h; refine ⟨xs.drop k, by simp [h1], fun x hx => h2 x (List.mem_of_mem_drop hx), fun hn => ⟨g, i + k, rfl, fun j hj => ?_⟩⟩; obtain ⟨g', i', e, hc⟩ := h3 (by omega); simp only [Option.some.injEq, Addr.mk.injEq] at e; obtain ⟨rfl, rfl, -⟩ := e; rw [show i + k + j = i + (k + j) from by omega, hc (k + j) (by omega)]; simp [List.getD, List.getElem?_drop]
theorem BSl.head {W : World} {a : Option Addr} {n : Nat} (h : BSl W a n) (k : Nat) (hk : k ≤ n) : BSl W a k := by
 obtain ⟨xs, h1, h2, h3⟩ := h; refine ⟨xs.take k, by simp [h1]; omega, fun x hx => h2 x (List.mem_of_mem_take hx), fun hn => ?_⟩; obtain ⟨g, i, e, hc⟩ := h3 (by omega); refine ⟨g, i, e, fun j hj => ?_⟩; rw [hc j (by omega)]; simp [List.getD, List.getElem?_take, hj]
theorem BSl.none (W : World) (a : Option Addr) : BSl W a 0 := ⟨[], rfl, by simp, fun h => absurd h (Nat.lt_irrefl 0)⟩
theorem BSl.get {W : World} {a : Option Addr} {n : Nat} (h : BSl W a n) (j : Nat) (hj : j < n) : ∃ g i x, a = some ⟨g, i, Option.none⟩ ∧ 0 ≤ x ∧ x ≤ 255 ∧ W.cell? ⟨g, i + j, Option.none⟩ = some (.int .u8 x) := by
 obtain ⟨xs, h1, h2, h3⟩ := h; obtain ⟨g, i, e, hc⟩ := h3 (by omega); have hx := h2 (xs.getD j 0) (by simp [List.getD, List.getElem?_eq_getElem (show j < xs.length by omega)]); exact ⟨g, i, _, e, hx.1, hx.2, hc j hj⟩
theorem BRow.snoc {w4 : World} {B n m g cap : Nat} {bs : List Int} (news : List Int) (hbs : ∀ x ∈ bs, 0 ≤ x ∧ x ≤ 255) (hnews : ∀ x ∈ news, 0 ≤ x ∧ x ≤ 255)
 (h : w4.ownsRow B 5 1 (.slice (some ⟨g, 0, none⟩) (n + m) cap) (n + m) (bs.map (Value.int .u8) ++ news.map (Value.int .u8))) : BRow w4 B (.slice (some ⟨g, 0, none⟩) (n + m) cap) (n + m) :=
 ⟨bs ++ news, by rw [List.map_append]; exact h, fun x hx => (List.mem_append.1 hx).elim (hbs x) (hnews x)⟩
theorem u8_of (x : Int) : 0 ≤ IntKind.u8.wrap x ∧ IntKind.u8.wrap x ≤ 255 := by rw [IntKind.wrap_u8]; omega
def Grew (w w' : World) (v v' : Value) : Prop := Touch (fun k => v.ownBlock = some k) w w' ∧ ∀ k, v'.ownBlock = some k → v.ownBlock = some k ∨ w.heap.size ≤ k
theorem Grew.refl (w : World) (v : Value) : Grew w w v v := ⟨Touch.refl _ _, fun k hk => .inl hk⟩
theorem Grew.trans {a b c : World} {u v x : Value} (h : Grew a b u v) (k : Grew b c v x) : Grew a c u x :=
 ⟨h.1.trans (fun i hi => h.2 i hi) k.1, fun i hi => (k.2 i hi).elim (fun e => h.2 i e) (fun e => .inr (Nat.le_trans h.1.size e))⟩
theorem Grew.alloc {a b : World} {u v : Value} (h : Grew a b u v) (o : Obj) : Grew a (b.alloc o) u v := ⟨h.1.alloc o, h.2⟩
theorem Grew.drew {a b : World} {u v : Value} (h : Grew a b u v) : Grew a b.drew u v := ⟨h.1.drew, h.2⟩
theorem Grew.of {w w4 : World} {v : Value} {g H n cap : Nat} {o : Obj} (hg : (w.alloc o).grownBy w4 v.ownBlock) (hat : v.ownBlock = some g ∨ g = H) (hH : H = w.heap.size + 1) : Grew w w4 v (.slice (some ⟨g, 0, none⟩) n cap) := by
 refine ⟨⟨hg.os, hg.tape, hg.output, ?_, fun k hk hf => ?_⟩, fun k hk => ?_⟩
 · have := hg.size; simp at this; omega
 · rw [hg.block k (by simp; omega) (fun e => hf e.symm), Below.heap_alloc _ _ _ hk]
 · have : g = k := by simpa [Value.ownBlock] using hk
   subst this; rcases hat with e | e
   · exact .inl e
   · exact .inr (by omega)
theorem Grew.below {a b : World} {u v : Value} {B : Nat} (h : Grew a b u v) (hB : B ≤ a.heap.size) (hu : ∀ k, u.ownBlock = some k → B ≤ k) : Below B a b := h.1.below hB hu
set_option maxRecDepth 100000 in
theorem number_any (B n s : Nat) (v : Value) (x : Int) (w : World) (h : BRow w B v n) (hB : B ≤ w.heap.size) (hn : n + s ≤ 100000) (hs : s ≤ 8) :
 Calls Tryz.prog 215 #[v, .int .i64 x, .int .i64 s] w fun e W' => ∃ v', e = .returned v' ∧ BRow W' B v' (n + s) ∧ Grew w W' v v' := by
 obtain ⟨i0, hi, hz0, hz1, hz2⟩ := info_parts info5; have H0 := lH h; clear h; go_enter Tryz.func215, Tryz.ntmps215; go_wp2_with fail
 go_loopw [0, 7] (fun b i wr => ∃ k : Nat, k ≤ s ∧ i = .int .i64 ((s : Int) - 1 - k) ∧ Hid (BRow wr B b (n + k)) ∧ Hid (Grew w wr v b)) (fun _ i _ => (intOf i + 1).toNat)
 case atStart => exact ⟨0, Nat.zero_le _, by go_num, H0, lH (Grew.refl _ _)⟩
 case round =>
  obtain ⟨k, hk, rfl, HR, HG⟩ := hrel; by_cases hks : k < s
  · obtain ⟨bs, hrow, hbs⟩ := HR.out; have HBS := lH hbs; clear hbs; have hks1 : 0 ≤ (s : Int) - 1 - k := by omega
    have hks2 : (s : Int) - 1 - k ≤ 7 := by omega
    have hks3 : 0 ≤ 8 * ((s : Int) - 1 - k) := by omega
    obtain ⟨i, hik⟩ : ∃ i : Int, (s : Int) - 1 - k = i := ⟨_, rfl⟩
    rw [hik] at hks1 hks2 hks3 ⊢; have HIK := lH hik; clear hik; have hBw := HG.out.1.size; go_wp2_with (at_builtin; refine wpList_append_lies _ rfl _ _ 257 rfl B 5 i0 (.int .u8 0) 1 1 Tryz.underlying257 hi hz0 hz1 hz2 rfl (by decide) _ (n + k) _ rfl (hrow.alloc _) ⟨wr.heap.size, 0, none⟩ 1 1 [_] rfl rfl (World.news_of_block (heap_alloc_new wr _)) (by simp [Value.oneCell']) (by omega) (by unfold maxLen; omega) (by omega) (by simp; omega) (wr.heap.size + 1) (by simp) ?_; intro g cap w4 hown4 hgrow4 hat4 hlt4)
    have HR4 : Hid (BRow w4 B (.slice (some ⟨g, 0, none⟩) (n + k + 1) cap) (n + (k + 1))) := lH (BRow.snoc (m := 1) [_] HBS.out (by intro y hy; simp at hy; subst hy; first | exact u8_of _ | omega) hown4); have HG4 : Hid (Grew w w4 v (.slice (some ⟨g, 0, none⟩) (n + k + 1) cap)) := lH (HG.out.trans (Grew.of hgrow4 hat4 rfl)); clear hown4 hgrow4 hat4 hlt4 hrow; go_wp2_with fail
    go_roundw
    case rel => exact ⟨k + 1, hks, by rw [← HIK.out]; go_num, HR4, HG4⟩
    case measure => simp [intOf]; omega
  · obtain rfl : k = s := by omega
    go_wp2_with fail
    go_ret
    exact ⟨_, rfl, HR.out, HG.out⟩
end
end Go.Proofs.YtoiajjobecinpaaGreat
namespace Go.Proofs.YtoiajjobecinpaaGreat
open Go.RowKit
set_option linter.unusedVariables false
set_option linter.unusedSimpArgs false
theorem klass (S : World → Prop) (w : World) (h : S w.drew) : ∃ (Idx : Type) (f : Idx → World) (i0 : Idx), w.drew = f i0 ∧ (∀ i, S (f i)) ∧ (∀ w', S w' → ∃ i, w' = f i) :=
 ⟨{w' // S w'}, Subtype.val, ⟨w.drew, h⟩, rfl, fun i => i.2, fun w' h => ⟨⟨w', h⟩, rfl⟩⟩
theorem wp_region_quietC {P : Program} {Idx : Type} (f : Idx → World) (i0 : Idx) {id : Nat} {Q : Exit → Act → World → Prop} {a : Act} {w : World} {l : List Oper} (h0 : w.drew = f i0) (hm : P.follows .mixedOrders = true) (hB : Region.lexB .any l.toArray = true)
 (h : wpQuiet P l.toArray (fun w' => ∃ i, w' = f i) (fun a' => ∀ i, Q .normal a' (f i)) l a) : (Code.region id l.toArray true).wp P Q a w := by
 refine wp_region_quiet (C := fun w' => ∃ i, w' = f i) hm hB ⟨i0, h0⟩ ?_; have : ∀ (l' : List Oper) (a : Act), wpQuiet P l.toArray (fun w' => ∃ i, w' = f i) (fun a' => ∀ i, Q .normal a' (f i)) l' a → wpQuiet P l.toArray (fun w' => ∃ i, w' = f i) (fun a' => ∀ w', (∃ i, w' = f i) → Q .normal a' w') l' a := by
  intro l'; induction l' with
  | nil => intro a h w' ⟨i, e⟩; rw [e]; exact h i
  | cons o l' ih =>
   intro a h; unfold wpQuiet at h ⊢; split
   · rename_i hw; rw [if_pos hw] at h; obtain ⟨v, h1, h2⟩ := h; exact ⟨v, h1, ih _ h2⟩
   · rename_i hw; rw [if_neg hw] at h; exact ih _ h
 simpa using this l a h
end Go.Proofs.YtoiajjobecinpaaGreat
namespace Go.Proofs.YtoiajjobecinpaaGreat
open Go.RowKit Go.Shelf Go.Lib Go.Proofs
set_option linter.unusedVariables false
set_option linter.unusedSimpArgs false
section
attribute [local go_sem] Oper.semAt_some
def GoodI (cur : Int) (its : List It) : Prop :=
 its.length ≤ 64 ∧ (cur = -1 ∨ 0 ≤ posI its cur) ∧ (∀ k, k < its.length → mayI its[k]!.id its[k]!.w its[k]!.lag = true ∧ (0 < k → its[k - 1]!.id < its[k]!.id)) ∧ (its = [] ∨ ∃ k, k < its.length ∧ 0 ≤ its[k]!.lag)
def GoodP (cur : Int) (its : List It) (w : World) (e : Ending) (W' : World) : Prop := ∃ b : Bool, e = .returned (.bool b) ∧ (b = true ↔ GoodI cur its) ∧ Below w.heap.size w W'
def GdS (B X g : Nat) (v : Value) (p : Option Int) (q : Nat) (i ww lag : Int) (W : World) : Prop :=
 W.cell? ⟨B, 1, none⟩ = some v ∧ W.cell? ⟨X, 0, none⟩ = some (.int .i64 i) ∧ W.cell? ⟨X, 1, none⟩ = some (.int .i64 ww) ∧ W.cell? ⟨X, 2, none⟩ = some (.int .i64 lag) ∧ (∀ y, p = some y → W.cell? ⟨g, q, none⟩ = some (.int .i64 y))
theorem GdS.below {B X g : Nat} {v : Value} {p : Option Int} {q : Nat} {i ww lag : Int} {W W' : World} (h : GdS B X g v p q i ww lag W) (hb : Below W.heap.size W W') : GdS B X g v p q i ww lag W' := by
 obtain ⟨h1, h2, h3, h4, h5⟩ := h; have f : ∀ {a : Addr} {u : Value}, W.cell? a = some u → W'.cell? a = some u := fun hc => (hb.cell (World.block_lt_of_cell? W _ hc)).trans hc; exact ⟨f h1, f h2, f h3, f h4, fun y hy => f (h5 y hy)⟩
def OkTo (its : List It) (k : Nat) : Prop := ∀ j, j < k → mayI its[j]!.id its[j]!.w its[j]!.lag = true ∧ (0 < j → its[j - 1]!.id < its[j]!.id)
def SomeTo (its : List It) (k : Nat) : Prop := its = [] ∨ ∃ j, j < k ∧ 0 ≤ its[j]!.lag
theorem not_good_may {cur : Int} {its : List It} {k : Nat} (hk : k < its.length) (h : mayI its[k]!.id its[k]!.w its[k]!.lag = false) : ¬ GoodI cur its := fun hg => by
 have := (hg.2.2.1 k hk).1; rw [h] at this; cases this
theorem not_good_order {cur : Int} {its : List It} {k : Nat} (hk : k < its.length) (h0 : 0 < k) (h : its[k]!.id ≤ its[k - 1]!.id) : ¬ GoodI cur its := fun hg => by
 have := (hg.2.2.1 k hk).2 h0; omega
theorem good_all {cur : Int} {its : List It} (h1 : its.length ≤ 64) (h2 : cur = -1 ∨ 0 ≤ posI its cur) (h3 : OkTo its its.length) {s : Bool} (h4 : s = true ↔ SomeTo its its.length) : s = true ↔ GoodI cur its := by
 rw [h4]; exact ⟨fun h => ⟨h1, h2, h3, h⟩, fun h => h.2.2.2⟩
theorem OkTo.snoc {its : List It} {k : Nat} (h : OkTo its k) (h1 : mayI its[k]!.id its[k]!.w its[k]!.lag = true) (h2 : 0 < k → its[k - 1]!.id < its[k]!.id) : OkTo its (k + 1) := fun j hj => by
 by_cases e : j = k
 · subst e; exact ⟨h1, h2⟩
 · exact h j (by omega)
theorem SomeTo.snoc {its : List It} {k : Nat} {s : Bool} (h : s = true ↔ SomeTo its k) : (s || decide (0 ≤ its[k]!.lag)) = true ↔ SomeTo its (k + 1) := by
 rw [Bool.or_eq_true, decide_eq_true_eq, h]; unfold SomeTo; constructor
 · rintro ((h | ⟨j, h1, h2⟩) | h)
   · exact .inl h
   · exact .inr ⟨j, by omega, h2⟩
   · exact .inr ⟨k, by omega, h⟩
 · rintro (h | ⟨j, h1, h2⟩)
   · exact .inl (.inl h)
   · by_cases e : j = k
     · subst e; exact .inr h2
     · exact .inl (.inr ⟨j, by omega, h2⟩)
theorem keepB {W W' : World} {a : Addr} {u : Value} (hb : Below W.heap.size W W') (hc : W.cell? a = some u) : W'.cell? a = some u := (hb.cell (World.block_lt_of_cell? W _ hc)).trans hc
theorem someTo_zero {its : List It} {n : Nat} (h : its.length = n) : decide ((n : Int) = 0) = true ↔ SomeTo its 0 := by
 rw [decide_eq_true_eq]; unfold SomeTo; rw [← List.length_eq_zero_iff, h]; constructor
 · intro e; exact .inl (by omega)
 · rintro (e | ⟨j, hj, _⟩)
   · omega
   · omega
set_option maxRecDepth 100000 in
theorem good_cur (cur : Int) (v : Value) (its : List It) (W : World) (h : FSl W v its) (hcur : cur = -1) (h64 : its.length ≤ 64) :
 Calls Tryz.prog 21 #[.agg #[.int .i64 cur, v]] W (GoodP cur its W) := by
 obtain ⟨a, c, rfl⟩ := h.form; have HCUR : Hid (cur = -1 ∨ 0 ≤ posI its cur) := lH (.inl hcur); obtain ⟨n, hn⟩ : ∃ n, its.length = n := ⟨_, rfl⟩
 rw [hn] at h64 h ⊢; have HF0 := lH h; have HN := lH hn; have hgt : decide ((n : Int) > 64) = false := decide_eq_false (by omega); have hne : (cur != -1) = false := by simp [hcur]
 have HB1 : Hid (Below (W.heap.size + 1) (W.alloc (.cells #[.int .i64 cur, .slice a n c] 70)) (W.alloc (.cells #[.int .i64 cur, .slice a n c] 70))) := lH (Below.refl _ _); clear h hn hcur; go_enter Tryz.func21, Tryz.ntmps21; go_wp2_with fail
 go_loopw [3, 29] (fun s x wr => ∃ (k : Nat) (sm : Bool), k ≤ n ∧ x = .int .i64 k ∧ s = .bool sm ∧ Hid (OkTo its k) ∧ Hid (sm = true ↔ SomeTo its k) ∧ Hid (Below (W.heap.size + 1) (W.alloc (.cells #[.int .i64 cur, .slice a n c] 70)) wr)) (fun _ x _ => n - (intOf x).toNat)
 case atStart => exact ⟨0, decide ((n : Int) = 0), Nat.zero_le _, rfl, by first | rfl | (congr 1), lH (fun j hj => absurd hj (Nat.not_lt_zero _)), lH (someTo_zero HN.out), HB1⟩
 case round =>
  obtain ⟨k, sm, hk, rfl, rfl, HO, HSM, HB⟩ := hrel; by_cases hkn : k < n
  · have hkl : k < its.length := by rw [HN.out]; exact hkn
    have hbz := HB.out.size; simp only [World.size_alloc] at hbz; have HF : Hid (FSl wr (.slice a n c) its) := lH ((HF0.out.alloc _).same (by simp; omega) (fun j hj => HB.out.block j (by have := HF0.out.lt hj; omega))); obtain ⟨g, rfl, hg, c0, c1, c2⟩ := HF.out.cells k hkl; have hv : wr.cell? ⟨W.heap.size, 1, none⟩ = some (.slice (some ⟨g, 0, none⟩) n c) := by
     rw [HB.out.cell (p := ⟨W.heap.size, 1, none⟩) (by simp)]; simp only [World.cell?, heap_alloc_new]; rfl
    obtain ⟨pp, hpp⟩ : ∃ pp : Option Int, pp = if 0 < k then some its[k - 1]!.id else none := ⟨_, rfl⟩
    have hp : ∀ y, pp = some y → wr.cell? ⟨g, (k - 1) * 3, none⟩ = some (.int .i64 y) := by
     intro y hy; rw [hpp] at hy; split at hy
     · cases hy; obtain ⟨g', e, _, d0, _⟩ := HF.out.cells (k - 1) (by omega); cases e; exact d0
     · cases hy
    have HPP := lH hpp; have hcon := fun W' => imay_any its[k]!.id its[k]!.w its[k]!.lag W'; have hsn := OkTo.snoc HO.out (k := k); have hss := SomeTo.snoc HSM.out; have hnm := not_good_may (cur := cur) hkl; have hno := not_good_order (cur := cur) hkl; obtain ⟨x, hx⟩ : ∃ x, its[k]! = x := ⟨_, rfl⟩
    rw [hx] at c0 c1 c2 hcon hsn hss hnm hno; obtain ⟨i, ww, lag⟩ := x; simp only at c0 c1 c2 hcon hsn hss hnm hno; obtain ⟨m, hm⟩ : ∃ m, mayI i ww lag = m := ⟨_, rfl⟩
    rw [hm] at hcon hsn hnm; have HSN := lH hsn; have HSS := lH hss; have HNM := lH hnm; have HNO := lH hno; have hk1 : (k : Int) < (n : Int) := by omega
    have hk0 : 0 ≤ (k : Int) := by omega
    clear hpp hx hm hsn hss hnm hno; have hX : ∀ j u, #[Value.int .i64 i, .int .i64 ww, .int .i64 lag][j]? = some u → (wr.alloc (.cells #[.int .i64 i, .int .i64 ww, .int .i64 lag] 77)).drew.cell? ⟨wr.heap.size, j, none⟩ = some u := fun j u hu => by
     show (wr.alloc _).cell? _ = _; simp only [World.cell?, heap_alloc_new]; simpa using hu
    have hS : GdS W.heap.size wr.heap.size g (.slice (some ⟨g, 0, none⟩) n c) pp (((k : Int) - 1).toNat * 3) i ww lag (wr.alloc (.cells #[.int .i64 i, .int .i64 ww, .int .i64 lag] 77)).drew :=
     ⟨c2a _ hv, hX 0 _ rfl, hX 1 _ rfl, hX 2 _ rfl, fun y hy => c2a _ (by rw [show ((k : Int) - 1).toNat = k - 1 from by omega]; exact hp y hy)⟩
    have hB0 : Below (W.heap.size + 1) (W.alloc (.cells #[.int .i64 cur, .slice (some ⟨g, 0, none⟩) n c] 70)) (wr.alloc (.cells #[.int .i64 i, .int .i64 ww, .int .i64 lag] 77)).drew := (HB.out.alloc hbz _).drew; clear hv hp hX; obtain ⟨Idx, f, i0, hf0, hfS, hfin⟩ := klass (fun w' => GdS W.heap.size wr.heap.size g (.slice (some ⟨g, 0, none⟩) n c) pp (((k : Int) - 1).toNat * 3) i ww lag w' ∧ Below (W.heap.size + 1) (W.alloc (.cells #[.int .i64 cur, .slice (some ⟨g, 0, none⟩) n c] 70)) w' ∧ wr.heap.size + 1 ≤ w'.heap.size) (wr.alloc (.cells #[.int .i64 i, .int .i64 ww, .int .i64 lag] 77)) ⟨hS, hB0, by simp [World.drew]⟩; have hne0 : Nonempty Idx := ⟨i0⟩
    have d0 := fun ix => (hfS ix).1.1; have d1 := fun ix => (hfS ix).1.2.1; have d2 := fun ix => (hfS ix).1.2.2.1; have d3 := fun ix => (hfS ix).1.2.2.2.1; have HFS := lH hfS; have hcon2 : ∀ ix, Calls Tryz.prog 42 #[.agg #[.int .i64 i, .int .i64 ww, .int .i64 lag]] (f ix) fun e w' => e = .returned (.bool m) ∧ ∃ j, w' = f j := fun ix => (hcon (f ix)).mono (fun e w' ⟨he, hb⟩ => ⟨he, hfin w' ⟨(HFS.out ix).1.below hb, (HFS.out ix).2.1.trans (hb.mono (by have := (HFS.out ix).2.2; omega)), Nat.le_trans (HFS.out ix).2.2 hb.size⟩⟩); clear hS hB0 hfS hfin hcon; cases m with
    | false =>
     go_wp2_with fail
     refine wp_region_quietC f i0 hf0 (by kernel_rfl) (by kernel_rfl) ?_; repeat (go_big_quiet_step (exact hcon2 _))
     refine wpQuiet_nil ?_; intro ix; have hB9 := (HFS.out ix).2.1; go_wp2_with fail
     go_ret
     exact ⟨false, rfl, iff_of_false (by simp) (HNM.out (by first | rfl | trivial)), ((Below.refl _ W).alloc (Nat.le_refl _) _).trans (hB9.mono (by omega))⟩
    | true =>
     by_cases hk00 : k = 0
     · have hd : decide ((k : Int) > 0) = false := decide_eq_false (by omega); have hd2 : decide (0 < k) = false := decide_eq_false (by omega); replace hk00 := lH hk00; go_wp2_with fail
       refine wp_region_quietC f i0 hf0 (by kernel_rfl) (by kernel_rfl) ?_; repeat (go_big_quiet_step (exact hcon2 _))
       refine wpQuiet_nil ?_; intro ix; have hB9 := (HFS.out ix).2.1; go_wp2_with fail
       all_goals (go_roundw)
       all_goals (first | exact ⟨k + 1, _, hkn, by go_num, rfl, lH (HSN.out (by first | rfl | trivial) (fun h0 => absurd hk00.out (by omega))), lH (by have := HSS.out; simp_all), lH hB9⟩ | (simp [intOf]; omega))
     · have hd : decide ((k : Int) > 0) = true := decide_eq_true (by omega); have hd2 : decide (0 < k) = true := decide_eq_true (by omega); have hk3 : (0 : Int) ≤ (k : Int) - 1 := by omega
       have hk4 : (k : Int) - 1 < (n : Int) := by omega
       obtain ⟨y, hy⟩ : ∃ y, its[k - 1]!.id = y := ⟨_, rfl⟩
       have hpy : pp = some y := by rw [HPP.out, if_pos (by omega), hy]
       have d4 := fun ix => (HFS.out ix).1.2.2.2.2 _ hpy; have d5 : ∀ ix, (f ix).cell? ⟨g, (k - 1) * 3, none⟩ = some (.int .i64 y) := fun ix => by rw [show k - 1 = ((k : Int) - 1).toNat from by omega]; exact d4 ix
       have HY := lH hy; replace hk00 := lH hk00; clear hy hpy; by_cases hiy : i ≤ y
       · have hdi : decide (i ≤ y) = true := decide_eq_true hiy; go_wp2_with fail
         refine wp_region_quietC f i0 hf0 (by kernel_rfl) (by kernel_rfl) ?_; repeat (go_big_quiet_step (exact hcon2 _))
         refine wpQuiet_nil ?_; intro ix; have hB9 := (HFS.out ix).2.1; go_wp2_with fail
         go_ret
         exact ⟨false, rfl, iff_of_false (by simp) (HNO.out (Nat.pos_of_ne_zero hk00.out) (by rw [HY.out]; assumption)), ((Below.refl _ W).alloc (Nat.le_refl _) _).trans (hB9.mono (by omega))⟩
       · have hdi : decide (i ≤ y) = false := decide_eq_false hiy; go_wp2_with fail
         refine wp_region_quietC f i0 hf0 (by kernel_rfl) (by kernel_rfl) ?_; repeat (go_big_quiet_step (exact hcon2 _))
         refine wpQuiet_nil ?_; intro ix; have hB9 := (HFS.out ix).2.1; go_wp2_with fail
         all_goals (go_roundw)
         all_goals (first | exact ⟨k + 1, _, hkn, by go_num, rfl, lH (HSN.out (by first | rfl | trivial) (fun _ => by rw [HY.out]; omega)), lH (by have := HSS.out; simp_all), lH hB9⟩ | (simp [intOf]; omega))
  · obtain rfl : k = n := by omega
    go_wp2_with fail
    go_ret
    exact ⟨sm, rfl, good_all (by rw [HN.out]; exact h64) HCUR.out (by rw [HN.out]; exact HO.out) (by rw [HN.out]; exact HSM.out), ((Below.refl _ W).alloc (Nat.le_refl _) _).trans (HB.out.mono (by omega))⟩
set_option maxRecDepth 100000 in
theorem good_find (cur : Int) (v : Value) (its : List It) (W : World) (h : FSl W v its) (hcur : ¬ cur = -1) (h64 : its.length ≤ 64) :
 Calls Tryz.prog 21 #[.agg #[.int .i64 cur, v]] W (GoodP cur its W) := by
 obtain ⟨a, c, rfl⟩ := h.form; have hfind := findI_any cur _ its cur (W.alloc (.cells #[.int .i64 cur, .slice a its.length c] 70)) (h.alloc _); obtain ⟨r, hr⟩ : ∃ r, posI its cur = r := ⟨_, rfl⟩
 rw [hr] at hfind; have HR := lH hr; have HNC := lH hcur; obtain ⟨n, hn⟩ : ∃ n, its.length = n := ⟨_, rfl⟩
 rw [hn] at h64 h hfind ⊢; have HF0 := lH h; have HN := lH hn; have hgt : decide ((n : Int) > 64) = false := decide_eq_false (by omega); have hne : (cur != -1) = true := by simp [hcur]
 clear h hn hcur hr; go_enter Tryz.func21, Tryz.ntmps21; go_wp2_with fail
 refine hfind.mono ?_; rintro e w1 ⟨rfl, hb⟩; have HB1 : Hid (Below (W.heap.size + 1) (W.alloc (.cells #[.int .i64 cur, .slice a n c] 70)) w1) := lH (hb.mono (by simp)); have f1 : w1.cell? ⟨W.heap.size, 1, none⟩ = some (.slice a n c) := by
  rw [hb.cell (p := ⟨W.heap.size, 1, none⟩) (by simp)]; simp only [World.cell?, heap_alloc_new]; rfl
 clear hb hfind; by_cases hr0 : r < 0
 · have hd : decide (r < 0) = true := decide_eq_true hr0; go_wp2_with fail
   go_ret
   refine ⟨false, rfl, iff_of_false (by simp) (fun hg => ?_), ((Below.refl _ W).alloc (Nat.le_refl _) _).trans (HB1.out.mono (by omega))⟩; rcases hg.2.1 with e | e
   · exact HNC.out e
   · rw [HR.out] at e; omega
 have hd : decide (r < 0) = false := decide_eq_false hr0; have HCUR : Hid (cur = -1 ∨ 0 ≤ posI its cur) := lH (.inr (by rw [HR.out]; omega)); clear HR HNC; go_wp2_with fail
 go_loopw [3, 29] (fun s x wr => ∃ (k : Nat) (sm : Bool), k ≤ n ∧ x = .int .i64 k ∧ s = .bool sm ∧ Hid (OkTo its k) ∧ Hid (sm = true ↔ SomeTo its k) ∧ Hid (Below (W.heap.size + 1) (W.alloc (.cells #[.int .i64 cur, .slice a n c] 70)) wr)) (fun _ x _ => n - (intOf x).toNat)
 case atStart => exact ⟨0, decide ((n : Int) = 0), Nat.zero_le _, rfl, by first | rfl | (congr 1), lH (fun j hj => absurd hj (Nat.not_lt_zero _)), lH (someTo_zero HN.out), HB1⟩
 case round =>
  obtain ⟨k, sm, hk, rfl, rfl, HO, HSM, HB⟩ := hrel; by_cases hkn : k < n
  · have hkl : k < its.length := by rw [HN.out]; exact hkn
    have hbz := HB.out.size; simp only [World.size_alloc] at hbz; have HF : Hid (FSl wr (.slice a n c) its) := lH ((HF0.out.alloc _).same (by simp; omega) (fun j hj => HB.out.block j (by have := HF0.out.lt hj; omega))); obtain ⟨g, rfl, hg, c0, c1, c2⟩ := HF.out.cells k hkl; have hv : wr.cell? ⟨W.heap.size, 1, none⟩ = some (.slice (some ⟨g, 0, none⟩) n c) := by
     rw [HB.out.cell (p := ⟨W.heap.size, 1, none⟩) (by simp)]; simp only [World.cell?, heap_alloc_new]; rfl
    obtain ⟨pp, hpp⟩ : ∃ pp : Option Int, pp = if 0 < k then some its[k - 1]!.id else none := ⟨_, rfl⟩
    have hp : ∀ y, pp = some y → wr.cell? ⟨g, (k - 1) * 3, none⟩ = some (.int .i64 y) := by
     intro y hy; rw [hpp] at hy; split at hy
     · cases hy; obtain ⟨g', e, _, d0, _⟩ := HF.out.cells (k - 1) (by omega); cases e; exact d0
     · cases hy
    have HPP := lH hpp; have hcon := fun W' => imay_any its[k]!.id its[k]!.w its[k]!.lag W'; have hsn := OkTo.snoc HO.out (k := k); have hss := SomeTo.snoc HSM.out; have hnm := not_good_may (cur := cur) hkl; have hno := not_good_order (cur := cur) hkl; obtain ⟨x, hx⟩ : ∃ x, its[k]! = x := ⟨_, rfl⟩
    rw [hx] at c0 c1 c2 hcon hsn hss hnm hno; obtain ⟨i, ww, lag⟩ := x; simp only at c0 c1 c2 hcon hsn hss hnm hno; obtain ⟨m, hm⟩ : ∃ m, mayI i ww lag = m := ⟨_, rfl⟩
    rw [hm] at hcon hsn hnm; have HSN := lH hsn; have HSS := lH hss; have HNM := lH hnm; have HNO := lH hno; have hk1 : (k : Int) < (n : Int) := by omega
    have hk0 : 0 ≤ (k : Int) := by omega
    clear hpp hx hm hsn hss hnm hno; have hX : ∀ j u, #[Value.int .i64 i, .int .i64 ww, .int .i64 lag][j]? = some u → (wr.alloc (.cells #[.int .i64 i, .int .i64 ww, .int .i64 lag] 77)).drew.cell? ⟨wr.heap.size, j, none⟩ = some u := fun j u hu => by
     show (wr.alloc _).cell? _ = _; simp only [World.cell?, heap_alloc_new]; simpa using hu
    have hS : GdS W.heap.size wr.heap.size g (.slice (some ⟨g, 0, none⟩) n c) pp (((k : Int) - 1).toNat * 3) i ww lag (wr.alloc (.cells #[.int .i64 i, .int .i64 ww, .int .i64 lag] 77)).drew :=
     ⟨c2a _ hv, hX 0 _ rfl, hX 1 _ rfl, hX 2 _ rfl, fun y hy => c2a _ (by rw [show ((k : Int) - 1).toNat = k - 1 from by omega]; exact hp y hy)⟩
    have hB0 : Below (W.heap.size + 1) (W.alloc (.cells #[.int .i64 cur, .slice (some ⟨g, 0, none⟩) n c] 70)) (wr.alloc (.cells #[.int .i64 i, .int .i64 ww, .int .i64 lag] 77)).drew := (HB.out.alloc hbz _).drew; clear hv hp hX; obtain ⟨Idx, f, i0, hf0, hfS, hfin⟩ := klass (fun w' => GdS W.heap.size wr.heap.size g (.slice (some ⟨g, 0, none⟩) n c) pp (((k : Int) - 1).toNat * 3) i ww lag w' ∧ Below (W.heap.size + 1) (W.alloc (.cells #[.int .i64 cur, .slice (some ⟨g, 0, none⟩) n c] 70)) w' ∧ wr.heap.size + 1 ≤ w'.heap.size) (wr.alloc (.cells #[.int .i64 i, .int .i64 ww, .int .i64 lag] 77)) ⟨hS, hB0, by simp [World.drew]⟩; have hne0 : Nonempty Idx := ⟨i0⟩
    have d0 := fun ix => (hfS ix).1.1; have d1 := fun ix => (hfS ix).1.2.1; have d2 := fun ix => (hfS ix).1.2.2.1; have d3 := fun ix => (hfS ix).1.2.2.2.1; have HFS := lH hfS; have hcon2 : ∀ ix, Calls Tryz.prog 42 #[.agg #[.int .i64 i, .int .i64 ww, .int .i64 lag]] (f ix) fun e w' => e = .returned (.bool m) ∧ ∃ j, w' = f j := fun ix => (hcon (f ix)).mono (fun e w' ⟨he, hb⟩ => ⟨he, hfin w' ⟨(HFS.out ix).1.below hb, (HFS.out ix).2.1.trans (hb.mono (by have := (HFS.out ix).2.2; omega)), Nat.le_trans (HFS.out ix).2.2 hb.size⟩⟩); clear hS hB0 hfS hfin hcon; cases m with
    | false =>
     go_wp2_with fail
     refine wp_region_quietC f i0 hf0 (by kernel_rfl) (by kernel_rfl) ?_; repeat (go_big_quiet_step (exact hcon2 _))
     refine wpQuiet_nil ?_; intro ix; have hB9 := (HFS.out ix).2.1; go_wp2_with fail
     go_ret
     exact ⟨false, rfl, iff_of_false (by simp) (HNM.out (by first | rfl | trivial)), ((Below.refl _ W).alloc (Nat.le_refl _) _).trans (hB9.mono (by omega))⟩
    | true =>
     by_cases hk00 : k = 0
     · have hd : decide ((k : Int) > 0) = false := decide_eq_false (by omega); have hd2 : decide (0 < k) = false := decide_eq_false (by omega); replace hk00 := lH hk00; go_wp2_with fail
       refine wp_region_quietC f i0 hf0 (by kernel_rfl) (by kernel_rfl) ?_; repeat (go_big_quiet_step (exact hcon2 _))
       refine wpQuiet_nil ?_; intro ix; have hB9 := (HFS.out ix).2.1; go_wp2_with fail
       all_goals (go_roundw)
       all_goals (first | exact ⟨k + 1, _, hkn, by go_num, rfl, lH (HSN.out (by first | rfl | trivial) (fun h0 => absurd hk00.out (by omega))), lH (by have := HSS.out; simp_all), lH hB9⟩ | (simp [intOf]; omega))
     · have hd : decide ((k : Int) > 0) = true := decide_eq_true (by omega); have hd2 : decide (0 < k) = true := decide_eq_true (by omega); have hk3 : (0 : Int) ≤ (k : Int) - 1 := by omega
       have hk4 : (k : Int) - 1 < (n : Int) := by omega
       obtain ⟨y, hy⟩ : ∃ y, its[k - 1]!.id = y := ⟨_, rfl⟩
       have hpy : pp = some y := by rw [HPP.out, if_pos (by omega), hy]
       have d4 := fun ix => (HFS.out ix).1.2.2.2.2 _ hpy; have d5 : ∀ ix, (f ix).cell? ⟨g, (k - 1) * 3, none⟩ = some (.int .i64 y) := fun ix => by rw [show k - 1 = ((k : Int) - 1).toNat from by omega]; exact d4 ix
       have HY := lH hy; replace hk00 := lH hk00; clear hy hpy; by_cases hiy : i ≤ y
       · have hdi : decide (i ≤ y) = true := decide_eq_true hiy; go_wp2_with fail
         refine wp_region_quietC f i0 hf0 (by kernel_rfl) (by kernel_rfl) ?_; repeat (go_big_quiet_step (exact hcon2 _))
         refine wpQuiet_nil ?_; intro ix; have hB9 := (HFS.out ix).2.1; go_wp2_with fail
         go_ret
         exact ⟨false, rfl, iff_of_false (by simp) (HNO.out (Nat.pos_of_ne_zero hk00.out) (by rw [HY.out]; assumption)), ((Below.refl _ W).alloc (Nat.le_refl _) _).trans (hB9.mono (by omega))⟩
       · have hdi : decide (i ≤ y) = false := decide_eq_false hiy; go_wp2_with fail
         refine wp_region_quietC f i0 hf0 (by kernel_rfl) (by kernel_rfl) ?_; repeat (go_big_quiet_step (exact hcon2 _))
         refine wpQuiet_nil ?_; intro ix; have hB9 := (HFS.out ix).2.1; go_wp2_with fail
         all_goals (go_roundw)
         all_goals (first | exact ⟨k + 1, _, hkn, by go_num, rfl, lH (HSN.out (by first | rfl | trivial) (fun _ => by rw [HY.out]; omega)), lH (by have := HSS.out; simp_all), lH hB9⟩ | (simp [intOf]; omega))
  · obtain rfl : k = n := by omega
    go_wp2_with fail
    go_ret
    exact ⟨sm, rfl, good_all (by rw [HN.out]; exact h64) HCUR.out (by rw [HN.out]; exact HO.out) (by rw [HN.out]; exact HSM.out), ((Below.refl _ W).alloc (Nat.le_refl _) _).trans (HB.out.mono (by omega))⟩
theorem good_any (cur : Int) (v : Value) (its : List It) (W : World) (h : FSl W v its) (h64 : its.length ≤ 100000) :
 Calls Tryz.prog 21 #[.agg #[.int .i64 cur, v]] W (GoodP cur its W) := by
 by_cases hn : its.length ≤ 64
 · by_cases hc : cur = -1
   · exact good_cur cur v its W h hc hn
   · exact good_find cur v its W h hc hn
 · obtain ⟨a, c, rfl⟩ := h.form; have HNG : Hid (¬ GoodI cur its) := lH (fun hg => hn hg.1); obtain ⟨n, hn2⟩ : ∃ n, its.length = n := ⟨_, rfl⟩
   rw [hn2] at h hn ⊢; have hgt : decide ((n : Int) > 64) = true := decide_eq_true (by omega); clear h hn hn2; go_enter Tryz.func21, Tryz.ntmps21; go_wp2_with fail
   go_ret
   exact ⟨false, rfl, iff_of_false (by simp) HNG.out, (Below.refl _ W).alloc (Nat.le_refl _) _⟩
end
end Go.Proofs.YtoiajjobecinpaaGreat
