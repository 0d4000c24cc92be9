/- Start. What a world does with an act: try, Do. What a world does with an act: the state behind it. Group: a new group, w -/
import Derived.Test.YtoiajjobecinpaaGreatTA23
set_option maxHeartbeats 4000000
namespace Go.Proofs.YtoiajjobecinpaaGreat
open Go.RowKit Go.Shelf Go.Lib Go.Proofs
set_option linter.unusedVariables false
set_option linter.unusedSimpArgs false
theorem enter_any (sb gb nb pb mb n : Nat) (cv : Value) (D : DataW Unit) (cbs : List Nat) (tb : Int → Nat) (own : Nat → Option Own) (s : Sy) (id act : Int) (t : Tk) (x : Bool) (xs : List G16) (i : Nat) (W : World) (h : SysAt W sb gb nb pb mb n cv D cbs tb own s)
 (ht : s.tasks id = some t) (hL : IsPath s.gs t.group xs) (hi : t.core = (i : Int)) (hil : i < cbs.length) (hf : FitsY s) :
 Calls Tryz.prog 104 #[.pointer (some ⟨sb, 0, none⟩), .pointer (some ⟨tb id, 0, none⟩), .int .i64 act, .bool x] W fun e w' => e = .returned (.int .i64 (enterY s id t (xs.any (spentA s)) i act x).1) ∧
  YP sb gb nb pb mb n cv D cbs tb own (enterY s id t (xs.any (spentA s)) i act x).2 W w' := by
 cases hh : xs.any (spentA s) with
 | true => exact enter_held sb gb nb pb mb n cv D cbs tb own s id act t x xs W h ht hL hh
 | false => exact enter_free sb gb nb pb mb n cv D cbs tb own s id act t x xs i W h ht hL hh hi hil hf
def coT (t : Tk) (x : Int) : Tk := ⟨t.id, t.w, t.group, x, t.state, t.mask, t.lag⟩
theorem start_none (sb gb nb pb mb n : Nat) (cv : Value) (D : DataW Unit) (cbs : List Nat) (tb : Int → Nat) (own : Nat → Option Own) (s : Sy) (id : Int) (W : World) (h : SysAt W sb gb nb pb mb n cv D cbs tb own s)
 (h1 : -9223372036854775808 ≤ id) (h2 : id ≤ 9223372036854775807) (ht : s.tasks id = none) :
 Calls Tryz.prog 48 #[.pointer (some ⟨sb, 0, none⟩), .int .i64 id] W fun e w' => e = .returned (.int .i64 2) ∧ W = w' := by
 have hfind := find_none sb gb nb pb mb n cv D cbs tb own s id 1 W h h1 h2 ht; clear h ht; go_enter Tryz.func48, Tryz.ntmps48; go_wp2_with fail
 refine hfind.mono ?_; rintro e w' ⟨rfl, rfl⟩; go_wp2_with fail
 go_ret
 exact ⟨rfl, rfl⟩
theorem start_err (sb gb nb pb mb n : Nat) (cv : Value) (D : DataW Unit) (cbs : List Nat) (tb : Int → Nat) (own : Nat → Option Own) (s : Sy) (id : Int) (t : Tk) (W : World) (h : SysAt W sb gb nb pb mb n cv D cbs tb own s)
 (h1 : -9223372036854775808 ≤ id) (h2 : id ≤ 9223372036854775807) (ht : s.tasks id = some t) (he : ¬ (nxt t.state 1).2 = 0) :
 Calls Tryz.prog 48 #[.pointer (some ⟨sb, 0, none⟩), .int .i64 id] W fun e w' => e = .returned (.int .i64 (nxt t.state 1).2) ∧ W = w' := by
 have hfind := find_task sb gb nb pb mb n cv D cbs tb own s id 1 t W h h1 h2 ht; generalize (nxt t.state 1).2 = y at he hfind ⊢; clear h ht; go_enter Tryz.func48, Tryz.ntmps48; go_wp2_with fail
 refine hfind.mono ?_; rintro e w' ⟨rfl, rfl⟩; go_wp2_with fail
 go_ret
 exact ⟨rfl, rfl⟩
set_option maxRecDepth 100000 in
theorem start_ok (sb gb nb pb mb n : Nat) (cv : Value) (D : DataW Unit) (cbs : List Nat) (tb : Int → Nat) (own : Nat → Option Own) (s : Sy) (id : Int) (t : Tk) (xs : List G16) (i : Nat) (W : World) (h : SysAt W sb gb nb pb mb n cv D cbs tb own s)
 (h1 : -9223372036854775808 ≤ id) (h2 : id ≤ 9223372036854775807) (ht : s.tasks id = some t) (he : (nxt t.state 1).2 = 0) (hm : 0 ≤ t.mask ∧ t.mask < 65536) (hf : FitsY s) (h0 : 0 < cbs.length) (h16 : cbs.length ≤ 16) (hL : IsPath s.gs t.group xs)
 (hi : (leastL (loadsY s) t.mask).1 = (i : Int)) (hil : i < cbs.length) (hr : (enterY (setTk s id (coT t i)) id (coT t i) (xs.any (spentA s)) i 1 false).1 = 0) :
 Calls Tryz.prog 48 #[.pointer (some ⟨sb, 0, none⟩), .int .i64 id] W fun e w' => e = .returned (.int .i64 0) ∧
  YP sb gb nb pb mb n cv D cbs tb own (enterY (setTk s id (coT t i)) id (coT t i) (xs.any (spentA s)) i 1 false).2 W w' := by
 have hfind := find_task sb gb nb pb mb n cv D cbs tb own s id 1 t W h h1 h2 ht; rw [he] at hfind; obtain ⟨hT, hto⟩ := h.task id t ht; obtain ⟨b, hb⟩ : ∃ b, tb id = b := ⟨_, rfl⟩
 rw [hb] at hfind hT hto; have hTlt := World.block_lt_of_cell? _ _ hT.id; have q0 := hT.id; have q1 := hT.w; have q2 := hT.group; have q3 := hT.core; have q4 := hT.state; have q5 := hT.mask; have q6 := hT.lag; have HBT := lH hb; have HS := lH h; have HT := lH ht; have HF := lH hf; have HTO := lH hto; have HL := lH hL; have HI := lH hi; have HR := lH hr; have HM := lH hm; have H0 := lH (And.intro h0 h16); obtain ⟨res, hres⟩ : ∃ res, (enterY (setTk s id (coT t i)) id (coT t i) (xs.any (spentA s)) i 1 false).2 = res := ⟨_, rfl⟩
 rw [hres]; have HRES := lH hres; clear h ht hb hto hf hL hi hr hm h0 h16 hres he; go_enter Tryz.func48, Tryz.ntmps48; go_wp2_with fail
 refine hfind.mono ?_; rintro e w' ⟨rfl, rfl⟩; clear hfind; go_wp2_with fail
 have hB0 : Below W.heap.size W (W.alloc (.cells #[.int .i64 t.id, .int .i64 t.w, .int .i64 t.group, .int .i64 t.core, .int .i64 t.state, .int .u16 t.mask, .int .i64 t.lag] 60)) := (Below.refl _ _).alloc (Nat.le_refl _) _; have hleast := yleast_any sb gb nb pb mb n cv D cbs tb own s t.mask _ (HS.out.below hB0) HF.out H0.out.1 H0.out.2 HM.out; rw [HI.out] at hleast; refine hleast.mono ?_; rintro e w1 ⟨rfl, hb1⟩; have hBW : Below W.heap.size W w1 := hB0.trans (hb1.mono hB0.size)
 have hS1 := HS.out.below hBW; have hT1 := (hS1.task id t HT.out).1; rw [HBT.out] at hT1; have c3 := hT1.core; have f3 := hT1.live 3; have hS2 : SysAt (w1.setCell ⟨b, 3, none⟩ (.int .i64 i)) sb gb nb pb mb n cv D cbs tb own (setTk s id (coT t i)) := hS1.setTask HT.out (by rw [HBT.out]; exact hT1.setCore i) (by rw [HBT.out]; exact touch1 _ _ _ _); have hent := enter_any sb gb nb pb mb n cv D cbs tb own (setTk s id (coT t i)) id 1 (coT t i) false xs i _ hS2 (by simp [setTk]) HL.out rfl hil HF.out; rw [show xs.any (spentA (setTk s id (coT t i))) = xs.any (spentA s) from rfl, HR.out, HRES.out, HBT.out] at hent; have HBW := lH hBW; clear hleast hb1 hS1 hT1 hS2 hB0 hBW; go_wp2_with fail
 refine hent.mono ?_; rintro e w2 ⟨rfl, own', hS3, ho3, ht3⟩; go_wp2_with fail
 go_ret
 have e1 : Touch (fun k => own k ≠ none) W (w1.setCell ⟨b, 3, none⟩ (.int .i64 i)) := (Touch.of_below HBW.out).self ((touch1 w1 b 3 (.int .i64 i)).wider (fun k hk => by rw [hk, HTO.out]; simp)); exact ⟨rfl, own', hS3, fun k hk => ho3 k (Nat.lt_of_lt_of_le hk e1.size), e1.self ht3⟩
section
attribute [local go_sem] Oper.semAt_some
def TwoB (R : Bool → Int → World → Prop) (e : Ending) (w' : World) : Prop := ∃ (x : Bool) (y : Int), e = .returned (.tuple #[.bool x, .int .i64 y]) ∧ R x y w'
set_option maxRecDepth 100000 in
theorem try_attempt (W : World) (ob wb : Nat) (sv : Value) (a b c n m : Int) (bl : Value) (R : Bool → Int → World → Prop) (h0 : W.cell? ⟨ob, 0, none⟩ = some sv) (h1 : W.cell? ⟨ob, 1, none⟩ = some (.pointer (some ⟨wb, 0, none⟩)))
 (hcall : Calls Tryz.prog 61 #[.pointer (some ⟨wb, 0, none⟩), .int .i64 a, .int .i64 b, bl] (inAct W 16 a b c n m bl) (TwoB fun x y w' => R x y w' ∧ KeepA (inAct W 16 a b c n m bl) ob W.heap.size w')) :
 Calls Tryz.prog 29 #[.pointer (some ⟨ob, 0, none⟩), actV 16 a b c n m bl] W (Two fun x y w' => ∃ ok : Bool, x = (if ok = true then 1 else 0) ∧ R ok y w') := by
 unfold inAct at hcall; unfold actV; have hS := actS_alloc h0 h1 16 a b c n m bl; generalize hB : W.heap.size = B at hS hcall; have hSk : ∀ w', KeepA ((W.alloc (.cells #[.int .i64 16, .int .i64 a, .int .i64 b, .int .i64 c, .int .i64 n, .int .i64 m, bl] 35)).drew) ob B w' → ActS w' ob B sv (.pointer (some ⟨wb, 0, none⟩)) 16 a b c n m bl := fun w' hk => hS.kept hk.1 hk.2; go_enter Tryz.func29, Tryz.ntmps29; go_wp2_with fail
 go_region_held3 (fun W2 => W2.cell? ⟨ob, 1, none⟩ = some (.pointer (some ⟨wb, 0, none⟩)) ∧ W2.cell? ⟨B, 1, none⟩ = some (.int .i64 a) ∧ W2.cell? ⟨B, 2, none⟩ = some (.int .i64 b) ∧ W2.cell? ⟨B, 6, none⟩ = some bl) (first | exact ⟨hS.1.2, hS.2.2.1, hS.2.2.2.1, hS.2.2.2.2.2.2.2⟩ | exact ⟨hS9.1.2, hS9.2.2.1, hS9.2.2.2.1, hS9.2.2.2.2.2.2.2⟩) (first | (go_at_call 61; refine hcall.mono ?_; rintro e w9 ⟨x9, y9, rfl, hr9, hk9⟩; have hS9 := hSk w9 hk9) | fail)
 all_goals
  cases x9 with
  | true =>
   go_wp2_with fail
   go_ret2
   exact ⟨1, y9, rfl, true, rfl, hr9⟩
  | false =>
   go_wp2_with fail
   go_ret2
   exact ⟨0, y9, rfl, false, rfl, hr9⟩
def inDo (W : World) (op a b c n m : Int) (bl : Value) : World := (W.alloc (.cells #[.int .i64 op, .int .i64 a, .int .i64 b, .int .i64 c, .int .i64 n, .int .i64 m, bl] 35)).alloc (.cells #[.int .i64 0, .int .i64 0] 37)
def DoP (B : Nat) (R : Int → Int → World → Prop) (e : Ending) (w' : World) : Prop :=
 ∃ (x y : Int) (w1 : World), R x y w1 ∧ e = .returned (.agg #[.int .i64 (if y = 0 then x else 0), .int .i64 y]) ∧ Touch (fun k => k = B + 1) w1 w'
theorem do_end (B : Nat) (w1 : World) (x y : Int) (h : w1.heap[B + 1]? = some (.cells #[.int .i64 0, .int .i64 0] 37 (0, 0))) :
 w1.cell? ⟨B + 1, 0, none⟩ = some (.int .i64 0) ∧ w1.cell? ⟨B + 1, 1, none⟩ = some (.int .i64 0) ∧ (∀ i, w1.frozen? ⟨B + 1, i, none⟩ = false) ∧
 ((w1.setCell ⟨B + 1, 0, none⟩ (.int .i64 x)).setCell ⟨B + 1, 1, none⟩ (.int .i64 y)).cell? ⟨B + 1, 0, none⟩ = some (.int .i64 x) ∧ ((w1.setCell ⟨B + 1, 0, none⟩ (.int .i64 x)).setCell ⟨B + 1, 1, none⟩ (.int .i64 y)).cell? ⟨B + 1, 1, none⟩ = some (.int .i64 y) := by
 have a0 : w1.cell? ⟨B + 1, 0, none⟩ = some (.int .i64 0) := by simp only [World.cell?, h]; rfl
 have a1 : w1.cell? ⟨B + 1, 1, none⟩ = some (.int .i64 0) := by simp only [World.cell?, h]; rfl
 refine ⟨a0, a1, fun i => by simp only [World.frozen?, h]; simp, ?_, ?_⟩
 · rw [cell_setCell_ne _ (by simp)]; exact World.cell?_setCell_same _ _ _ a0
 · exact World.cell?_setCell_same _ _ _ (by rw [cell_setCell_ne _ (by simp)]; exact a1)
set_option maxRecDepth 100000 in
theorem do_system (W : World) (ob : Nat) (op a b c n m : Int) (bl : Value) (R : Int → Int → World → Prop) (hop : ¬ (13 ≤ op ∧ op ≤ 16))
 (hcall : Calls Tryz.prog 28 #[.pointer (some ⟨ob, 0, none⟩), actV op a b c n m bl] (inDo W op a b c n m bl) (Two fun x y w' => R x y w' ∧ w'.heap[W.heap.size + 1]? = some (.cells #[.int .i64 0, .int .i64 0] 37 (0, 0)))) :
 Calls Tryz.prog 13 #[.pointer (some ⟨ob, 0, none⟩), actV op a b c n m bl] W (DoP W.heap.size R) := by
 unfold inDo actV at hcall; unfold actV; go_enter Tryz.func13, Tryz.ntmps13; have hopa : op < 13 ∨ 16 < op := by omega
 rcases hopa with hopa | hopa; all_goals
  clear hop; go_wp2_with fail
  refine hcall.mono ?_; rintro e w1 ⟨x, y, rfl, hr, hb⟩; obtain ⟨c0, c1, cf, -, -⟩ := do_end _ w1 (if y = 0 then x else 0) y hb; by_cases hy : y = 0
  · subst hy; obtain ⟨-, -, -, g0, g1'⟩ := do_end _ w1 x 0 hb; have HG0 := lH g0; have HG1 := lH g1'; have HR := lH hr; have cf0 := cf 0; have cf1 := cf 1; clear g0 g1' hb hr cf; go_wp2_with fail
    exact bodyPost_ret (v := .agg #[.int .i64 x, .int .i64 0]) (by simp [results, Tryz.results13, go_sem, HG0.out, HG1.out]) rfl ⟨x, 0, w1, HR.out, rfl, (touch1 _ _ _ _).self (touch1 _ _ _ _)⟩
  · obtain ⟨-, -, -, g0, g1'⟩ := do_end _ w1 0 y hb; have HG0 := lH g0; have HG1 := lH g1'; have HR := lH hr; have HY := lH hy; have cf0 := cf 0; have cf1 := cf 1; clear g0 g1' hb hr cf; go_wp2_with fail
    exact bodyPost_ret (v := .agg #[.int .i64 0, .int .i64 y]) (by simp [results, Tryz.results13, go_sem, HG0.out, HG1.out]) rfl ⟨x, y, w1, HR.out, by rw [if_neg HY.out], (touch1 _ _ _ _).self (touch1 _ _ _ _)⟩
set_option maxRecDepth 100000 in
theorem do_try (W : World) (ob : Nat) (op a b c n m : Int) (bl : Value) (R : Int → Int → World → Prop) (hop : 13 ≤ op ∧ op ≤ 16)
 (hcall : Calls Tryz.prog 29 #[.pointer (some ⟨ob, 0, none⟩), actV op a b c n m bl] (inDo W op a b c n m bl) (Two fun x y w' => R x y w' ∧ w'.heap[W.heap.size + 1]? = some (.cells #[.int .i64 0, .int .i64 0] 37 (0, 0)))) :
 Calls Tryz.prog 13 #[.pointer (some ⟨ob, 0, none⟩), actV op a b c n m bl] W (DoP W.heap.size R) := by
 unfold inDo actV at hcall; unfold actV; obtain ⟨hopa, hopb⟩ := hop; go_enter Tryz.func13, Tryz.ntmps13; go_wp2_with fail
 all_goals
  refine hcall.mono ?_; rintro e w1 ⟨x, y, rfl, hr, hb⟩; obtain ⟨c0, c1, cf, -, -⟩ := do_end _ w1 (if y = 0 then x else 0) y hb; by_cases hy : y = 0
  · subst hy; obtain ⟨-, -, -, g0, g1'⟩ := do_end _ w1 x 0 hb; have HG0 := lH g0; have HG1 := lH g1'; have HR := lH hr; have cf0 := cf 0; have cf1 := cf 1; clear g0 g1' hb hr cf; go_wp2_with fail
    exact bodyPost_ret (v := .agg #[.int .i64 x, .int .i64 0]) (by simp [results, Tryz.results13, go_sem, HG0.out, HG1.out]) rfl ⟨x, 0, w1, HR.out, rfl, (touch1 _ _ _ _).self (touch1 _ _ _ _)⟩
  · obtain ⟨-, -, -, g0, g1'⟩ := do_end _ w1 0 y hb; have HG0 := lH g0; have HG1 := lH g1'; have HR := lH hr; have HY := lH hy; have cf0 := cf 0; have cf1 := cf 1; clear g0 g1' hb hr cf; go_wp2_with fail
    exact bodyPost_ret (v := .agg #[.int .i64 0, .int .i64 y]) (by simp [results, Tryz.results13, go_sem, HG0.out, HG1.out]) rfl ⟨x, y, w1, HR.out, by rw [if_neg HY.out], (touch1 _ _ _ _).self (touch1 _ _ _ _)⟩
end
section
attribute [local go_sem] Oper.semAt_some
def YQ (sb : Nat) (cbs : List Nat) (own : Nat → Option Own) (s' : Sy) (W w' : World) : Prop :=
 ∃ own', (∃ gb nb pb mb n cv D tb, SysAt w' sb gb nb pb mb n cv D cbs tb own' s') ∧ (∀ k, own' k ≠ none → own k ≠ none ∨ W.heap.size ≤ k) ∧ Touch (fun k => own k ≠ none) W w'
theorem YP.q {sb gb nb pb mb n : Nat} {cv : Value} {D : DataW Unit} {cbs : List Nat} {tb : Int → Nat} {own : Nat → Option Own} {s' : Sy} {W w' : World} (h : YP sb gb nb pb mb n cv D cbs tb own s' W w') : YQ sb cbs own s' W w' := by
 obtain ⟨own', h1, h2, h3⟩ := h; refine ⟨own', ⟨gb, nb, pb, mb, n, cv, D, tb, h1⟩, fun k hk => ?_, h3⟩; by_cases hl : k < W.heap.size
 · rw [h2 k hl] at hk; exact .inl hk
 · exact .inr (by omega)
theorem do_fin {W W2 w1 w' : World} {ob wb sb : Nat} {s s' : Sy} {m : Nat} {cbs : List Nat} {L : Int → Option Tr} {own : Nat → Option Own} {ow : Nat → Option OwnW} (h : WoIn W ob wb sb s m cbs L own ow) (hB : Below W.heap.size W W2) (hY : YQ sb cbs own s' W2 w1)
 (hT : Touch (fun k => k = W.heap.size + 1) w1 w') (hz : W.heap.size + 1 < W2.heap.size) :
 ∃ own', WoIn w' ob wb sb s' m cbs L own' ow ∧ Touch (fun k => own k ≠ none) W w' ∧ ∀ k, own' k ≠ none → own k ≠ none ∨ W.heap.size ≤ k := by
 obtain ⟨hob, ⟨hy, ⟨mb2, n2, av, D2, tbs, ttb, hW⟩, hd⟩, hno, hnw⟩ := h; obtain ⟨gb, nb, pb, mb, n, cv, D, tb, hS⟩ := hy; obtain ⟨own', ⟨gb', nb', pb', mb', n', cv', D', tb', hS'⟩, ho, hto⟩ := hY; have hobl : ob < W.heap.size := (Array.getElem?_eq_some_iff.1 hob).1; have hz2 := hto.size; have hBs := hB.size; have hkeep : ∀ k, k < W.heap.size → own k = none → w'.heap[k]? = W.heap[k]? := fun k hk hn => by
  rw [hT.block k (by omega) (by omega), hto.block k (by omega) (by simpa using hn), hB.block k hk]
 have hown2 : ∀ k, own' k ≠ none → own k ≠ none ∨ W.heap.size ≤ k := fun k hk => (ho k hk).imp id (fun h => by omega); have hsame : ∀ k, own' k ≠ none → w'.heap[k]? = w1.heap[k]? := fun k hk => by
  have hl := hS'.lt k hk; refine hT.block k hl (fun e => ?_); rcases ho k hk with h1 | h1
  · have := hS.lt k h1; omega
  · omega
 refine ⟨own', ⟨(hkeep ob hobl hno).trans hob, ⟨⟨gb', nb', pb', mb', n', cv', D', tb', hS'.same hT.size hsame⟩, ⟨mb2, n2, av, D2, tbs, ttb, hW.same (by have := hT.size; omega) (fun k hk => hkeep k (hW.lt k hk) (hd k hk))⟩, fun k hk => ?_⟩, ?_, hnw⟩, ?_, hown2⟩
 · by_cases e : own' k = none
   · exact e
   · rcases hown2 k e with h1 | h1
     · exact absurd (hd k hk) h1
     · have := hW.lt k hk; omega
 · by_cases e : own' ob = none
   · exact e
   · rcases hown2 ob e with h1 | h1
     · exact absurd hno h1
     · omega
 · refine ⟨?_, ?_, ?_, by have := hT.size; omega, fun k hk hn => hkeep k hk (by simpa using hn)⟩
   · rw [hT.os, hto.os, hB.os]
   · rw [hT.tape, hto.tape, hB.tape]
   · rw [hT.output, hto.output, hB.output]
def DoQ (ob wb sb : Nat) (s' : Sy) (m : Nat) (cbs : List Nat) (L : Int → Option Tr) (own : Nat → Option Own) (ow : Nat → Option OwnW) (x y : Int) (W : World) (e : Ending) (w' : World) : Prop :=
 e = .returned (.agg #[.int .i64 (if y = 0 then x else 0), .int .i64 y]) ∧ ∃ own', WoIn w' ob wb sb s' m cbs L own' ow ∧ Touch (fun k => own k ≠ none) W w' ∧ ∀ k, own' k ≠ none → own k ≠ none ∨ W.heap.size ≤ k
def actW (W : World) (op a b c n m : Int) (bl : Value) : World := inAct (inDo W op a b c n m bl) op a b c n m bl
theorem actW_below (W : World) (op a b c n m : Int) (bl : Value) : Below W.heap.size W (actW W op a b c n m bl) ∧ W.heap.size + 1 < (actW W op a b c n m bl).heap.size ∧ (inDo W op a b c n m bl).heap.size = W.heap.size + 2 ∧
 (inDo W op a b c n m bl).heap[W.heap.size + 1]? = some (.cells #[.int .i64 0, .int .i64 0] 37 (0, 0)) ∧ (∀ k, k < W.heap.size + 2 → (actW W op a b c n m bl).heap[k]? = (inDo W op a b c n m bl).heap[k]?) ∧ (∀ k, k < W.heap.size → (inDo W op a b c n m bl).heap[k]? = W.heap[k]?) := by
 have hz : (inDo W op a b c n m bl).heap.size = W.heap.size + 2 := by unfold inDo; simp
 refine ⟨?_, ?_, hz, ?_, fun k hk => ?_, fun k hk => ?_⟩
 · unfold actW inAct inDo; exact ((((Below.refl _ W).alloc (Nat.le_refl _) _).alloc (by simp) _).alloc (by simp; omega) _).drew
 · show W.heap.size + 1 < ((inDo W op a b c n m bl).alloc _).heap.size; rw [World.size_alloc, hz]; omega
 · unfold inDo; have := heap_alloc_new (W.alloc (.cells #[.int .i64 op, .int .i64 a, .int .i64 b, .int .i64 c, .int .i64 n, .int .i64 m, bl] 35)) (.cells #[.int .i64 0, .int .i64 0] 37); rwa [World.size_alloc] at this
 · show ((inDo W op a b c n m bl).alloc _).heap[k]? = _; exact Below.heap_alloc _ _ _ (by rw [hz]; exact hk)
 · unfold inDo; rw [Below.heap_alloc _ _ _ (by simp; omega), Below.heap_alloc _ _ _ hk]
theorem YQ.keepA {W w1 : World} {ob wb sb : Nat} {s s' : Sy} {mm : Nat} {cbs : List Nat} {L : Int → Option Tr} {own : Nat → Option Own} {ow : Nat → Option OwnW} {op a b c n m : Int} {bl : Value} (h : WoIn W ob wb sb s mm cbs L own ow) (hY : YQ sb cbs own s' (actW W op a b c n m bl) w1) :
 KeepA (inAct (inDo W op a b c n m bl) op a b c n m bl) ob (inDo W op a b c n m bl).heap.size w1 := by
 obtain ⟨h1, h2, h3, h4, h5, h6⟩ := actW_below W op a b c n m bl; obtain ⟨hob, ⟨⟨gb, nb, pb, mb, n', cv, D, tb, hS⟩, _, _⟩, hno, _⟩ := h; obtain ⟨own', _, _, hto⟩ := hY; have hobl : ob < W.heap.size := (Array.getElem?_eq_some_iff.1 hob).1; have hzz : (actW W op a b c n m bl).heap.size = W.heap.size + 3 := by
  show ((inDo W op a b c n m bl).alloc _).heap.size = _; rw [World.size_alloc, h3]
 refine ⟨hto.block ob (by omega) (by simpa using hno), hto.block _ (by rw [h3, hzz]; omega) (fun e => by have := hS.lt _ e; omega)⟩
theorem WoIn.act {W : World} {ob wb sb : Nat} {s : Sy} {mm : Nat} {cbs : List Nat} {L : Int → Option Tr} {own : Nat → Option Own} {ow : Nat → Option OwnW} (op a b c n m : Int) (bl : Value) (h : WoIn W ob wb sb s mm cbs L own ow) :
 (∃ gb nb pb mb n' cv D tb, SysAt (actW W op a b c n m bl) sb gb nb pb mb n' cv D cbs tb own s) ∧ (inDo W op a b c n m bl).cell? ⟨ob, 0, none⟩ = some (.pointer (some ⟨sb, 0, none⟩)) ∧ (inDo W op a b c n m bl).cell? ⟨ob, 1, none⟩ = some (.pointer (some ⟨wb, 0, none⟩)) := by
 obtain ⟨h1, h2, h3, h4, h5, h6⟩ := actW_below W op a b c n m bl; have hc := h.cells; obtain ⟨hob, ⟨⟨gb, nb, pb, mb, n', cv, D, tb, hS⟩, _, _⟩, hno, _⟩ := h; have hobl : ob < W.heap.size := (Array.getElem?_eq_some_iff.1 hob).1; exact ⟨⟨gb, nb, pb, mb, n', cv, D, tb, hS.below h1⟩, (World.cell?_of_block (a := ⟨ob, 0, none⟩) (h6 ob hobl)).trans hc.1, (World.cell?_of_block (a := ⟨ob, 1, none⟩) (h6 ob hobl)).trans hc.2⟩
end
section
attribute [local go_sem] Oper.semAt_some
def gaddS (gs : List (Bool × Int)) (up : Int) (n : Nat) : Int × Int × List (Bool × Int) :=
 if hasG gs up = true then (if 4 ≤ n then (0, 6, gs) else gaddP gs up) else (0, 2, gs)
theorem gadd_all (gb : Nat) (gs : List (Bool × Int)) (up : Int) (xs : List G16) (W : World) (h : GroupsAt W gb gs) (hL : IsPath gs up xs) (h1000 : xs.length ≤ 1000) :
 Calls Tryz.prog 98 #[.pointer (some ⟨gb, 0, none⟩), .int .i64 up] W (GAddP gb (gaddS gs up xs.length) W) := by
 unfold gaddS; cases hh : hasG gs up with
 | false =>
  refine (gadd_none gb gs up W h hh).mono ?_; rintro e w' ⟨rfl, rfl⟩; exact ⟨rfl, h, Touch.refl _ _⟩
 | true =>
  by_cases h4 : 4 ≤ xs.length
  · refine (gadd_deep gb gs up xs W h hL hh h4 h1000).mono ?_; rintro e w' ⟨rfl, hb⟩; rw [if_pos rfl, if_pos h4]; exact ⟨rfl, h.same (hb.block gb (World.block_lt_of_cell? _ _ (h.there 0 (by omega)))), Touch.of_below hb⟩
  · rw [if_pos rfl, if_neg h4]; exact gadd_any gb gs up xs W h hL hh (by omega)
theorem gaddS_fst {gs : List (Bool × Int)} {up : Int} {n : Nat} (h : (gaddS gs up n).2.1 = 0) (hl : gs.length = 16) : ∃ k : Nat, k < 16 ∧ (gaddS gs up n).1 = (k : Int) := by
 unfold gaddS at h ⊢; split at h
 · rename_i h1; rw [if_pos h1]; split at h
   · simp at h
   · rename_i h2; rw [if_neg h2]; unfold gaddP at h ⊢; cases hf : gs.findIdx? (fun p => !p.1) with
     | none => rw [hf] at h; simp at h
     | some i =>
      have := (List.findIdx?_eq_some_iff_findIdx_eq.1 hf).1; exact ⟨i, by omega, rfl⟩
 · simp at h
theorem gaddS_gs {gs : List (Bool × Int)} {up : Int} {n : Nat} (h : (gaddS gs up n).2.1 ≠ 0) : (gaddS gs up n).2.2 = gs := by
 unfold gaddS at h ⊢; split
 · rename_i h1; rw [if_pos h1] at h; split
   · rfl
   · rename_i h2; rw [if_neg h2] at h; unfold gaddP at h ⊢; cases hf : gs.findIdx? (fun p => !p.1) with
     | none => rfl
     | some i => rw [hf] at h; simp at h
 · rfl
def setG (s : Sy) (gs : List (Bool × Int)) : Sy := ⟨s.cores, gs, s.acc, s.ps, s.tasks, s.cnt⟩
theorem SysAt.setGs {W W' : World} {sb gb nb pb mb n : Nat} {cv : Value} {D : DataW Unit} {cbs : List Nat} {tb : Int → Nat} {own : Nat → Option Own} {s : Sy} (h : SysAt W sb gb nb pb mb n cv D cbs tb own s) (gs : List (Bool × Int)) (hg : GroupsAt W' gb gs) (hT : Touch (fun k => k = gb) W W') :
 SysAt W' sb gb nb pb mb n cv D cbs tb own (setG s gs) := by
 have hne : ∀ x o, own x = some o → o ≠ .groups → W'.heap[x]? = W.heap[x]? := fun x o hx ho => hT.block x (h.lt x (by rw [hx]; simp)) (fun e => by subst e; rw [h.ogb] at hx; exact ho (by simpa using hx.symm)); have hbs := hne sb _ h.osb (by simp); have h0 : ∀ i, W'.cell? ⟨sb, i, none⟩ = W.cell? ⟨sb, i, none⟩ := fun i => World.cell?_of_block hbs; have h1 : ∀ i, W'.frozen? ⟨sb, i, none⟩ = W.frozen? ⟨sb, i, none⟩ := fun i => World.frozen?_of_block hbs; refine ⟨(h0 _).trans h.head, (h0 _).trans h.c1, fun i hi => ?_, (h0 _).trans h.c66, (h0 _).trans h.c67, fun i => (h1 i).trans (h.live i), hg, h.slots.same (hne nb _ h.onb (by simp)) (hne pb _ h.opb (by simp)),
  ownsMap_same h.map (hne mb _ h.omb (by simp)), h.cnt, h.reads, fun id t ht => ?_, ownsRow_same h.row (fun k hk => hne k _ (h.rown k hk) (by simp)), h.rown, h.num, fun i hi => (h.core i hi).same hT.size (fun k hk => hne k _ hk (by simp)), h.osb, h.ogb, h.onb, h.opb, h.omb, fun k hk => Nat.lt_of_lt_of_le (h.lt k hk) hT.size⟩
 · obtain ⟨a0, a1, a2, a3⟩ := h.acc i hi; exact ⟨(h0 _).trans a0, (h0 _).trans a1, (h0 _).trans a2, (h0 _).trans a3⟩
 · obtain ⟨t1, t2⟩ := h.task id t ht; exact ⟨t1.same (hne _ _ t2 (by simp)), t2⟩
def groupY (s : Sy) (up q p : Int) (n : Nat) : Int × Int × Sy :=
 if (newP q p).2 ≠ 0 then (0, (newP q p).2, s)
 else if (gaddS s.gs up n).2.1 ≠ 0 then (0, (gaddS s.gs up n).2.1, s)
 else ((gaddS s.gs up n).1, 0, setAcc (setG s (gaddS s.gs up n).2.2) (s.acc.set (gaddS s.gs up n).1.toNat (newP q p).1))
theorem YQ.below {sb gb nb pb mb n : Nat} {cv : Value} {D : DataW Unit} {cbs : List Nat} {tb : Int → Nat} {own : Nat → Option Own} {s : Sy} {W W' : World} (h : SysAt W sb gb nb pb mb n cv D cbs tb own s) (hb : Below W.heap.size W W') : YQ sb cbs own s W W' :=
 ⟨own, ⟨gb, nb, pb, mb, n, cv, D, tb, h.below hb⟩, fun _ hk => .inl hk, Touch.of_below hb⟩
theorem four_kept {W : World} {c sb : Nat} {u0 u1 u2 u3 : Int} (h : W.cell? ⟨c, 0, none⟩ = some (.int .i64 u0) ∧ W.cell? ⟨c, 1, none⟩ = some (.int .i64 u1) ∧ W.cell? ⟨c, 2, none⟩ = some (.int .i64 u2) ∧ W.cell? ⟨c, 3, none⟩ = some (.int .i64 u3)) (hne : c ≠ sb) (i0 i1 i2 i3 : Nat) (v0 v1 v2 v3 : Value) :
 let W' := (((W.setCell ⟨sb, i0, none⟩ v0).setCell ⟨sb, i1, none⟩ v1).setCell ⟨sb, i2, none⟩ v2).setCell ⟨sb, i3, none⟩ v3
 W'.cell? ⟨c, 0, none⟩ = some (.int .i64 u0) ∧ W'.cell? ⟨c, 1, none⟩ = some (.int .i64 u1) ∧ W'.cell? ⟨c, 2, none⟩ = some (.int .i64 u2) ∧ W'.cell? ⟨c, 3, none⟩ = some (.int .i64 u3) := by
 have hh : ∀ (V : World) (j i : Nat) (v : Value), (V.setCell ⟨sb, i, none⟩ v).cell? ⟨c, j, none⟩ = V.cell? ⟨c, j, none⟩ := fun V j i v => cell_setCell_ne _ (fun e => hne (congrArg Addr.block e)); simp only [hh]; exact h
set_option maxRecDepth 100000 in
theorem group_any (sb : Nat) (cbs : List Nat) (own : Nat → Option Own) (s : Sy) (up q p : Int) (xs : List G16) (W : World) (h : ∃ gb nb pb mb n cv D tb, SysAt W sb gb nb pb mb n cv D cbs tb own s) (hL : IsPath s.gs up xs) (h1000 : xs.length ≤ 1000) (hl : s.acc.length = 16) (hgl : s.gs.length = 16) :
 Calls Tryz.prog 46 #[.pointer (some ⟨sb, 0, none⟩), .int .i64 up, .int .i64 q, .int .i64 p] W
  (fun e w' => e = .returned (.tuple #[.int .i64 (groupY s up q p xs.length).1, .int .i64 (groupY s up q p xs.length).2.1]) ∧ YQ sb cbs own (groupY s up q p xs.length).2.2 W w') := by
 obtain ⟨gb, nb, pb, mb, n, cv, D, tb, hS⟩ := h; have hnew := anew_any q p W; have hfst := @gaddS_fst s.gs up xs.length; have hgs := @gaddS_gs s.gs up xs.length; unfold groupY; obtain ⟨⟨⟨u0, u1, u2, u3⟩, ue⟩, hu⟩ : ∃ r, newP q p = r := ⟨_, rfl⟩
 rw [hu] at hnew ⊢; simp only [accT] at hnew ⊢; have hadd := fun W' h' => gadd_all gb s.gs up xs W' h' hL h1000; obtain ⟨⟨r1, r2, r3⟩, hr⟩ : ∃ r, gaddS s.gs up xs.length = r := ⟨_, rfl⟩
 rw [hr] at hadd hfst hgs ⊢; simp only at hadd hfst hgs ⊢; have c1 := hS.c1; have hsb := hS.lt sb (by rw [hS.osb]; simp); have hne : sb ≠ gb := fun e => by have a := hS.osb; rw [e, hS.ogb] at a; cases a
 have HS := lH hS; have HAC := lH hl; have HF := lH (hfst · hgl); have HGS := lH hgs; have HADD := lH hadd; clear hS hl hgl hu hr hL h1000 hadd hfst hgs; by_cases hue : ue = 0
 · subst hue; rw [if_neg (by simp)]; by_cases hre : r2 = 0
   · subst hre; rw [if_neg (by simp)]; obtain ⟨k, hk, rfl⟩ := HF.out rfl; have hki : (k : Int) < 16 := by omega
     have hk0 : 0 ≤ (k : Int) := by omega
     go_enter Tryz.func46, Tryz.ntmps46; go_wp2_with fail
     refine hnew.mono ?_; rintro e w1 ⟨rfl, hb1⟩; have hb1' : Below W.heap.size W (w1.alloc (.cells #[.int .i64 u0, .int .i64 u1, .int .i64 u2, .int .i64 u3] 119)) := hb1.alloc hb1.size _; have hS1 := HS.out.below hb1'; have d1 := hS1.c1; have hnew1 := heap_alloc_new w1 (.cells #[.int .i64 u0, .int .i64 u1, .int .i64 u2, .int .i64 u3] 119); have hadd1 := HADD.out _ hS1.groups; have HB1 := lH hb1'; have HS1 := lH hS1; have HNW := lH hnew1; clear hS1 hb1' hnew1; have hz1 := hb1.size; clear hb1; go_wp2_with fail
     refine hadd1.mono ?_; rintro e w2 ⟨rfl, hg2, ht2⟩; have hS2 := HS1.out.setGs r3 hg2 ht2; have hblk := (ht2.block w1.heap.size (by simp) (fun e => by have := HS.out.lt gb (by rw [HS.out.ogb]; simp); omega)).trans HNW.out; have b0 : w2.cell? ⟨w1.heap.size, 0, none⟩ = some (.int .i64 u0) := by simp [World.cell?, hblk]
     have b1 : w2.cell? ⟨w1.heap.size, 1, none⟩ = some (.int .i64 u1) := by simp [World.cell?, hblk]
     have b2 : w2.cell? ⟨w1.heap.size, 2, none⟩ = some (.int .i64 u2) := by simp [World.cell?, hblk]
     have b3 : w2.cell? ⟨w1.heap.size, 3, none⟩ = some (.int .i64 u3) := by simp [World.cell?, hblk]
     obtain ⟨a0, a1, a2, a3⟩ := hS2.acc k hk; have l0 := hS2.live (2 + k * 4); have l1 := hS2.live (2 + k * 4 + 1); have l2 := hS2.live (2 + k * 4 + 2); have l3 := hS2.live (2 + k * 4 + 3); have hS5 := hS2.setA k hk HAC.out u0 u1 u2 u3; have HS5 := lH hS5; have HT2 := lH ht2; have HS2 := lH hS2; have hbb : w2.drew.cell? ⟨w1.heap.size, 0, none⟩ = some (.int .i64 u0) ∧ w2.drew.cell? ⟨w1.heap.size, 1, none⟩ = some (.int .i64 u1) ∧ w2.drew.cell? ⟨w1.heap.size, 2, none⟩ = some (.int .i64 u2) ∧ w2.drew.cell? ⟨w1.heap.size, 3, none⟩ = some (.int .i64 u3) := ⟨b0, b1, b2, b3⟩
     have hKK := four_kept hbb (sb := sb) (by have := HS.out.lt sb (by rw [HS.out.osb]; simp); omega) (2 + k * 4) (2 + k * 4 + 1) (2 + k * 4 + 2) (2 + k * 4 + 3) (.int .i64 u0) (.int .i64 u1) (.int .i64 u2) (.int .i64 u3); clear hg2 ht2 hS2 hS5 hblk b0 b1 b2 b3; go_wp2_with fail
     go_region_held3 (fun W2 => W2.cell? ⟨w1.heap.size, 0, none⟩ = some (.int .i64 u0) ∧ W2.cell? ⟨w1.heap.size, 1, none⟩ = some (.int .i64 u1) ∧ W2.cell? ⟨w1.heap.size, 2, none⟩ = some (.int .i64 u2) ∧ W2.cell? ⟨w1.heap.size, 3, none⟩ = some (.int .i64 u3)) (first | exact hbb | exact hKK) (fail)
     clear hbb hKK; go_wp2_with fail
     go_ret2
     refine ⟨rfl, own, ⟨gb, nb, pb, mb, n, cv, D, tb, HS5.out.drew1⟩, fun _ hk => .inl hk, ?_⟩; have t2 := HT2.out; have tS : Touch (fun k => own k ≠ none) _ w2 := (Touch.of_below HB1.out).self (t2.wider (fun k hk => by rw [hk, HS.out.ogb]; simp)); have hsbo : own sb ≠ none := by rw [HS.out.osb]; simp
     exact Touch.drew ((((tS.setCell (t := none) (Or.inl hsbo) _).setCell (t := none) (Or.inl hsbo) _).setCell (t := none) (Or.inl hsbo) _).setCell (t := none) (Or.inl hsbo) _)
   · rw [if_pos hre]; have hgg := HGS.out hre; subst hgg; go_enter Tryz.func46, Tryz.ntmps46; go_wp2_with fail
     refine hnew.mono ?_; rintro e w1 ⟨rfl, hb1⟩; have hb1' : Below W.heap.size W (w1.alloc (.cells #[.int .i64 u0, .int .i64 u1, .int .i64 u2, .int .i64 u3] 119)) := hb1.alloc hb1.size _; have hS1 := HS.out.below hb1'; have d1 := hS1.c1; have hadd1 := HADD.out _ hS1.groups; have HB1 := lH hb1'; have HS1 := lH hS1; clear hS1 hb1' hb1; go_wp2_with fail
     refine hadd1.mono ?_; rintro e w2 ⟨rfl, hg2, ht2⟩; have HS2 := lH (HS1.out.setGs s.gs hg2 ht2); have HT2 := lH ht2; clear hg2 ht2; go_wp2_with fail
     go_ret2
     exact ⟨rfl, own, ⟨gb, nb, pb, mb, n, cv, D, tb, HS2.out⟩, fun _ hk => .inl hk, (Touch.of_below HB1.out).self (HT2.out.wider (fun k hk => by rw [hk, HS.out.ogb]; simp))⟩
 · rw [if_pos hue]; go_enter Tryz.func46, Tryz.ntmps46; go_wp2_with fail
   refine hnew.mono ?_; rintro e w1 ⟨rfl, hb1⟩; have hb1' : Below W.heap.size W (w1.alloc (.cells #[.int .i64 u0, .int .i64 u1, .int .i64 u2, .int .i64 u3] 119)) := hb1.alloc hb1.size _; have HB1 := lH hb1'; clear hb1' hb1; go_wp2_with fail
   go_ret2
   exact ⟨rfl, YQ.below HS.out HB1.out⟩
end
def weighL (l : Ln) (id w : Int) : Int × Ln :=
 if posP l.ps id < 0 then (2, l)
 else if goodW w = true then
  (0, ⟨growB l.base (l.ps.set (posP l.ps id).toNat (dayP ⟨(l.ps[(posP l.ps id).toNat]!).id, w, (l.ps[(posP l.ps id).toNat]!).v, 0⟩)), l.cur, l.ps.set (posP l.ps id).toNat (dayP ⟨(l.ps[(posP l.ps id).toNat]!).id, w, (l.ps[(posP l.ps id).toNat]!).v, 0⟩)⟩)
 else (1, l)
theorem ownsRow_cell_any {W : World} {b g n cap : Nat} {l : Ln} (h : LineAt W b (.slice (some ⟨g, 0, none⟩) n cap) l) (j : Nat) (hj : j < l.ps.length) (i : Nat) (v : Value) (hv : (l.ps[j]!).cells[i]? = some v) : W.cell? ⟨g, j * 4 + i, none⟩ = some v := by
 have hrow := h.row; rcases hrow.2 with ⟨e, _⟩ | ⟨g', cap', cur, e, _⟩
 · cases e
 · simp only [Value.slice.injEq] at e; obtain ⟨_, rfl, _⟩ := e; have := ownsRow_cell hrow j hj i v hv; simpa using this
theorem LineAt.setW {W : World} {b g n cap : Nat} {l : Ln} (h : LineAt W b (.slice (some ⟨g, 0, none⟩) n cap) l) (k : Nat) (hk : k < l.ps.length) (ii ww pv day w : Int) (hp : l.ps[k]! = ⟨ii, ww, pv, day⟩) :
 LineAt (W.setCell ⟨g, k * 4 + 1, none⟩ (.int .i64 w)) b (.slice (some ⟨g, 0, none⟩) n cap) ⟨l.base, l.cur, l.ps.set k ⟨ii, w, pv, day⟩⟩ := by
 have hne : b ≠ g := fun e => h.ne (by rw [e]; rfl); have hbl : (W.setCell ⟨g, k * 4 + 1, none⟩ (.int .i64 w)).heap[b]? = W.heap[b]? := Below.heap_setCell _ _ _ _ hne; have h0 : ∀ i, (W.setCell ⟨g, k * 4 + 1, none⟩ (.int .i64 w)).cell? ⟨b, i, none⟩ = W.cell? ⟨b, i, none⟩ := fun i => World.cell?_of_block hbl; have h1 : ∀ i, (W.setCell ⟨g, k * 4 + 1, none⟩ (.int .i64 w)).frozen? ⟨b, i, none⟩ = W.frozen? ⟨b, i, none⟩ := fun i => World.frozen?_of_block hbl; refine ⟨(h0 0).trans h.base, (h0 1).trans h.cur, (h0 2).trans h.sl, fun i => (h1 i).trans (h.live i), ?_, h.ne⟩; have hcl := fun j hj i v hv => ownsRow_cell_any h j hj i v hv; rcases h.row.2 with ⟨e, _⟩ | ⟨g', cap', cur, e, _, hgg, hn, hm, hsz, _⟩
 · cases e
 · simp only [Value.slice.injEq, Option.some.injEq, Addr.mk.injEq] at e; obtain ⟨⟨rfl, _⟩, rfl, rfl⟩ := e; have hl : (l.ps.set k ⟨ii, w, pv, day⟩).length = l.ps.length := by simp
   have := ownsRow_of_cells (ps := l.ps.set k ⟨ii, w, pv, day⟩) (heap_setCell_row (i := k * 4 + 1) (v := .int .i64 w) hgg) (by rw [hl]; exact hn) hm (by simp; exact hsz) (fun j hj i v hv => ?_)
   · simp only
     rw [hl] at this ⊢; exact this
   · have hj' : j < l.ps.length := by simpa using hj
     have hi : i < 4 := by
      have := (List.getElem?_eq_some_iff.1 hv).1; simpa [Pt.cells] using this
     rw [getElem!_set_list _ _ _ _ hj'] at hv; by_cases e : k = j
     · subst e; rw [if_pos rfl] at hv; have h4 : i = 0 ∨ i = 1 ∨ i = 2 ∨ i = 3 := by omega
       have hold := hcl k hk; rw [hp] at hold; rcases h4 with rfl | rfl | rfl | rfl <;> simp [Pt.cells] at hv <;> subst hv
       · rw [cell_setCell_ne _ (by simp)]; exact hold 0 _ rfl
       · exact World.cell?_setCell_same _ _ _ (hold 1 _ rfl)
       · rw [cell_setCell_ne _ (by simp)]; exact hold 2 _ rfl
       · rw [cell_setCell_ne _ (by simp)]; exact hold 3 _ rfl
     · rw [if_neg e] at hv; rw [cell_setCell_ne _ (fun e => by have := congrArg Addr.off e; simp at this; omega)]; exact hcl j hj' i v hv
def WeighP (b : Nat) (v : Value) (r : Int × Ln) (W : World) (e : Ending) (w' : World) : Prop :=
 e = .returned (.int .i64 r.1) ∧ LineAt w' b v r.2 ∧ Touch (lfp b v) W w'
set_option maxRecDepth 100000 in
theorem weigh_any (b : Nat) (v : Value) (l : Ln) (id w : Int) (W : World) (h : LineAt W b v l) (hlen : l.ps.length ≤ 64)
 (hv : ∀ p ∈ l.ps, -2305843009213693952 ≤ p.v ∧ p.v ≤ 4611686018427387904) :
 Calls Tryz.prog 275 #[.pointer (some ⟨b, 0, none⟩), .int .i64 id, .int .i64 w] W (WeighP b v (weighL l id w) W) := by
 have hfind := find_any b v l id W h; have hgood := wgood_any w; unfold WeighP; rcases posP_cases l.ps id with ⟨hp, _⟩ | ⟨k, hk, hp, _⟩
 · have hr : weighL l id w = (2, l) := by unfold weighL; rw [if_pos (by omega)]
   rw [hp] at hfind; rw [hr]; have HL := lH h; clear h hp hr; go_enter Tryz.func275, Tryz.ntmps275; go_wp2_with fail
   refine hfind.mono ?_; rintro e w1 ⟨rfl, hb⟩; have HB := lH hb; clear hfind hb; go_wp2_with fail
   go_ret
   exact ⟨rfl, HL.out.below HB.out, Touch.of_below HB.out⟩
 · rw [hp] at hfind; by_cases hg : goodW w = true
   · obtain ⟨p, hpk⟩ : ∃ p, l.ps[k]! = p := ⟨_, rfl⟩
     have hvp := hv p (by rw [← hpk, getElem!_pos l.ps k hk]; exact List.getElem_mem hk); obtain ⟨ii, ww, pv, day⟩ := p; obtain ⟨dd, hdd⟩ : ∃ dd, dayP ⟨ii, w, pv, 0⟩ = ⟨ii, w, pv, dd⟩ := ⟨_, rfl⟩
     have hr : weighL l id w = (0, ⟨growB l.base (l.ps.set k ⟨ii, w, pv, dd⟩), l.cur, l.ps.set k ⟨ii, w, pv, dd⟩⟩) := by
      unfold weighL; rw [hp, if_neg (by omega), if_pos hg]; simp only [Int.toNat_natCast]; rw [hpk, hdd]
     rw [hr]; rw [hg] at hgood; obtain ⟨v1, v2⟩ := hvp; simp only at v1 v2; have hday := fun W' => day_any ⟨ii, w, pv, day⟩ W' (by simp only; omega) (by simp only; omega); have hdd2 : dayP ⟨ii, w, pv, day⟩ = ⟨ii, w, pv, dd⟩ := hdd; rw [hdd2] at hday; simp only [Pt.cells] at hday; obtain ⟨g, cap, hvv⟩ := h.form (by omega); subst hvv; obtain ⟨n, hn⟩ : ∃ n, l.ps.length = n := ⟨_, rfl⟩
     rw [hn] at hk hlen h ⊢; have HN := lH hn; have HL := lH h; have HPK := lH hpk; have hk0 : ¬ (k : Int) < 0 := by omega
     have hk1 : (k : Int) < (n : Int) := by omega
     have hk2 : 0 ≤ (k : Int) := by omega
     clear hn h hpk hp hr hv hdd hdd2 hg; go_enter Tryz.func275, Tryz.ntmps275; go_wp2_with fail
     refine hfind.mono ?_; rintro e w1 ⟨rfl, hb⟩; have hL1 := HL.out.below hb; obtain ⟨c0, c1, c2, c3⟩ := hL1.cells (by rw [HN.out]; exact hk) HPK.out; simp only at c0 c1 c2 c3; have cs := hL1.sl; have gf1 := hL1.rowLive (k * 4 + 1); have HL1 := lH hL1; have HB := lH hb; clear hfind hb hL1; go_wp2_with fail
     refine (hgood _).mono ?_; rintro e w2 ⟨rfl, rfl⟩; have hL3 := HL1.out.setW k (by rw [HN.out]; exact hk) ii ww pv day w HPK.out; have hT3 : Touch (lfp b (.slice (some ⟨g, 0, none⟩) n cap)) W (w1.setCell ⟨g, k * 4 + 1, none⟩ (.int .i64 w)) := (Touch.of_below HB.out).self ((touch1 w1 g (k * 4 + 1) _).wider (fun j hj => .inr (by rw [hj]; rfl))); have HT3 := lH hT3; clear hT3; have hlen3 : (l.ps.set k ⟨ii, w, pv, day⟩).length = n := by simp [HN.out]
     have HN3 := lH hlen3; have hpk3 : (l.ps.set k ⟨ii, w, pv, day⟩)[k]! = ⟨ii, w, pv, day⟩ := by rw [getElem!_set_list _ _ _ _ (by rw [HN.out]; exact hk), if_pos rfl]
     have HPK3 := lH hpk3; clear hlen3 hpk3; go_upto_region 7 with fail
     clear c0 c1 c2 c3 cs gf1; generalize w1.setCell ⟨g, k * 4 + 1, none⟩ (.int .i64 w) = w3 at hL3 HT3 ⊢; obtain ⟨c0, c1, c2, c3⟩ := hL3.cells (by show k < (l.ps.set k ⟨ii, w, pv, day⟩).length; rw [HN3.out]; exact hk) HPK3.out; simp only at c0 c1 c2 c3; have cs := hL3.sl; have f0 := hL3.rowLive (k * 4); have f1 := hL3.rowLive (k * 4 + 1); have f2 := hL3.rowLive (k * 4 + 2); have f3 := hL3.rowLive (k * 4 + 3); have hL3 := hL3.drew; have HT3 := lH HT3.out.drew; go_region_law (go_simp; go_at_call 236; refine (hday _).mono ?_; rintro e w9 ⟨rfl, hb9⟩; have hL3 := hL3.below hb9; have HT3 := lH (HT3.out.self (Touch.of_below hb9)); obtain ⟨c0, c1, c2, c3⟩ := hL3.cells (by show k < (l.ps.set k ⟨ii, w, pv, day⟩).length; rw [HN3.out]; exact hk) HPK3.out; simp only at c0 c1 c2 c3; have cs := hL3.sl; have f0 := hL3.rowLive (k * 4); have f1 := hL3.rowLive (k * 4 + 1); have f2 := hL3.rowLive (k * 4 + 2); have f3 := hL3.rowLive (k * 4 + 3))
     all_goals
      have hset := hL3.setPt k (by show k < (l.ps.set k ⟨ii, w, pv, day⟩).length; rw [HN3.out]; exact hk) ⟨ii, w, pv, dd⟩; rw [List.set_set] at hset; have ht4 := lH (HT3.out.self ((touch_put4 w9 g (k * 4) ⟨ii, w, pv, dd⟩).wider (fun j hj => .inr (by rw [hj]; rfl)))); have hgrow := grow_any b _ _ _ hset (by show (l.ps.set k _).length ≤ 64; simp only [List.length_set]; rw [HN.out]; exact hlen); clear hL3 c0 c1 c2 c3 cs f0 f1 f2 f3 hset; unfold put4 at hgrow ht4; simp only at hgrow ht4; go_wp2_with fail
      refine hgrow.mono ?_; rintro e w7 ⟨rfl, hL7, ht7⟩; have HL7 := lH hL7; have HT7 := lH (ht4.out.self (ht7.wider (fun j hj => .inl hj))); clear hL7 ht7 hgrow; go_wp2_with fail
      go_ret
      exact ⟨rfl, HL7.out, HT7.out⟩
   · have hr : weighL l id w = (1, l) := by unfold weighL; rw [hp, if_neg (by omega), if_neg hg]
     rw [hr]; rw [show goodW w = false by simpa using hg] at hgood; have HL := lH h; have hk0 : ¬ (k : Int) < 0 := by omega
     clear h hp hr hg hv; go_enter Tryz.func275, Tryz.ntmps275; go_wp2_with fail
     refine hfind.mono ?_; rintro e w1 ⟨rfl, hb⟩; have HB := lH hb; clear hfind hb; go_wp2_with fail
     refine (hgood _).mono ?_; rintro e w2 ⟨rfl, rfl⟩; go_wp2_with fail
     go_ret
     exact ⟨rfl, HL.out.below HB.out, Touch.of_below HB.out⟩
end Go.Proofs.YtoiajjobecinpaaGreat
