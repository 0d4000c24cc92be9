/- A task is told. A state that is being told: five rows. A state is told: what its rows hold. All loads; the core with the -/
import Derived.Test.YtoiajjobecinpaaGreatTA10
import Derived.Test.YtoiajjobecinpaaGreatTA19
set_option maxHeartbeats 4000000
namespace Go.Proofs.YtoiajjobecinpaaGreat
open Go.RowKit Go.Shelf Go.Lib Go.Proofs
set_option linter.unusedVariables false
set_option linter.unusedSimpArgs false
section
attribute [local go_sem] Oper.semAt_some
def Tk.cells (t : Tk) : List Value := [.int .i64 t.id, .int .i64 t.w, .int .i64 t.group, .int .i64 t.core, .int .i64 t.state, .int .u16 t.mask, .int .i64 t.lag]
def lagY (s : Sy) (t : Tk) : Int := if t.state = 2 then (itemI (formL s.cores[t.core.toNat]!.l) t.id).lag else t.lag
def toldT (s : Sy) (t : Tk) : Tk := ⟨t.id, t.w, t.group, t.core, t.state, t.mask, lagY s t⟩
def TaskP (s : Sy) (t : Tk) (w : World) (e : Ending) (W' : World) : Prop :=
 e = .returned (.tuple #[.agg (toldT s t).cells.toArray, .int .i64 0]) ∧ Below w.heap.size w W'
def TBox (W : World) (B : Nat) (t : Tk) : Prop := W.heap[B]? = some (.cells t.cells.toArray 60 (0, 0))
theorem TBox.cells {W : World} {B : Nat} {t : Tk} (h : TBox W B t) : (W.cell? ⟨B, 0, none⟩ = some (.int .i64 t.id) ∧ W.cell? ⟨B, 1, none⟩ = some (.int .i64 t.w) ∧ W.cell? ⟨B, 2, none⟩ = some (.int .i64 t.group) ∧ W.cell? ⟨B, 3, none⟩ = some (.int .i64 t.core) ∧
 W.cell? ⟨B, 4, none⟩ = some (.int .i64 t.state) ∧ W.cell? ⟨B, 5, none⟩ = some (.int .u16 t.mask) ∧ W.cell? ⟨B, 6, none⟩ = some (.int .i64 t.lag)) ∧ ∀ i, W.frozen? ⟨B, i, none⟩ = false := by
 unfold TBox at h; refine ⟨⟨?_, ?_, ?_, ?_, ?_, ?_, ?_⟩, fun i => by simp only [World.frozen?, h]; simp⟩; all_goals (simp only [World.cell?, h]; rfl)
theorem TBox.lt {W : World} {B : Nat} {t : Tk} (h : TBox W B t) : B < W.heap.size := (Array.getElem?_eq_some_iff.1 h).1
theorem TBox.below {W W' : World} {B n : Nat} {t : Tk} (h : TBox W B t) (hb : Below n W W') (hB : B < n) : TBox W' B t := (hb.block B hB).trans h
theorem TBox.alloc {W : World} {B : Nat} {t : Tk} (h : TBox W B t) (o : Obj) : TBox (W.alloc o) B t := (Below.heap_alloc _ _ _ h.lt).trans h
theorem TBox.put {W : World} {B : Nat} {t : Tk} (h : TBox W B t) (u : Tk) :
 TBox (((((((W.setCell ⟨B, 0, none⟩ (.int .i64 u.id)).setCell ⟨B, 1, none⟩ (.int .i64 u.w)).setCell ⟨B, 2, none⟩ (.int .i64 u.group)).setCell ⟨B, 3, none⟩ (.int .i64 u.core)).setCell ⟨B, 4, none⟩ (.int .i64 u.state)).setCell ⟨B, 5, none⟩ (.int .u16 u.mask)).setCell ⟨B, 6, none⟩ (.int .i64 u.lag)) B u := by
 unfold TBox at h ⊢; simp [World.setCell, Array.getElem?_modify, h, Tk.cells]
theorem tbox_new (W : World) (t : Tk) : TBox (W.alloc (.cells t.cells.toArray 60)) W.heap.size t := heap_alloc_new _ _
theorem TaskAt.lt {W : World} {b : Nat} {t : Tk} (h : TaskAt W b t) : b < W.heap.size := World.block_lt_of_cell? _ _ h.id
set_option maxRecDepth 100000 in
theorem task_idle (sb gb nb pb mb n : Nat) (cv : Value) (D : DataW Unit) (cbs : List Nat) (tb : Int → Nat) (own : Nat → Option Own) (s : Sy) (id : Int) (t : Tk) (W : World) (h : SysAt W sb gb nb pb mb n cv D cbs tb own s)
 (h1 : -9223372036854775808 ≤ id) (h2 : id ≤ 9223372036854775807) (ht : s.tasks id = some t) (hst : t.state ≠ 2) :
 Calls Tryz.prog 142 #[.pointer (some ⟨sb, 0, none⟩), .int .i64 id] W (TaskP s t W) := by
 have hl0 := h.look id h1 h2; rw [ht] at hl0; simp only at hl0; have hS1 := h.below ((Below.refl _ W).alloc (Nat.le_refl _) (.cells #[.int .i64 0, .int .i64 0, .int .i64 0, .int .i64 0, .int .i64 0, .int .u16 0, .int .i64 0] 60)); have hl := hS1.look id h1 h2; rw [ht] at hl; simp only at hl; have c67 := hS1.c67; have hT := (hS1.task id t ht).1; have htl := (h.task id t ht).1.lt; obtain ⟨b, hb⟩ : ∃ b, tb id = b := ⟨_, rfl⟩
 rw [hb] at hl hT htl; have hlag : lagY s t = t.lag := by unfold lagY; rw [if_neg hst]
 have htold : toldT s t = t := by unfold toldT; rw [hlag]
 unfold TaskP; rw [htold]; have hB0 := tbox_new W ⟨0, 0, 0, 0, 0, 0, 0⟩; obtain ⟨ti, tw, tg, tc, ts, tm, tl⟩ := t; simp only at hst; obtain ⟨e0, e1, e2, e3, e4, e5, e6, -⟩ := hT; simp only at e0 e1 e2 e3 e4 e5 e6; have HB0 := lH hB0; unfold Tk.cells at HB0; have HTL := lH htl; clear h ht hb hl0 hS1 hlag htold hB0 htl; go_enter Tryz.func142, Tryz.ntmps142; go_wp2_with fail
 refine bodyPost_ret (v := .tuple #[.agg #[.int .i64 ti, .int .i64 tw, .int .i64 tg, .int .i64 tc, .int .i64 ts, .int .u16 tm, .int .i64 tl], .int .i64 0]) ?_ rfl ⟨rfl, ((Below.refl _ _).alloc (Nat.le_refl _) _).alloc (by simp) _⟩; obtain ⟨⟨g0, g1, g2, g3, g4, g5, g6⟩, -⟩ := ((tbox_new W ⟨ti, tw, tg, tc, ts, tm, tl⟩).alloc (.cells #[.int .i64 ti, .int .i64 tw, .int .i64 tg, .int .i64 tc, .int .i64 ts, .int .u16 tm, .int .i64 tl] 60)).cells; unfold Tk.cells at g0 g1 g2 g3 g4 g5 g6; simp only at g0 g1 g2 g3 g4 g5 g6; simp [results, Tryz.results142, go_sem, g0, g1, g2, g3, g4, g5, g6]
abbrev RdS (W : World) (sb g i cb B : Nat) (n c : Nat) (W2 : World) : Prop :=
 Below W.heap.size W W2 ∧ W2.cell? ⟨sb, 0, none⟩ = some (.slice (some ⟨g, 0, none⟩) n c) ∧ W2.cell? ⟨g, i, none⟩ = some (.pointer (some ⟨cb, 0, none⟩)) ∧ W2.cell? ⟨B, 3, none⟩ = some (.int .i64 i)
theorem RdS.step {W : World} {sb g i cb B n c : Nat} {W2 W3 : World} (h : RdS W sb g i cb B n c W2) (hb : Below W2.heap.size W2 W3) : RdS W sb g i cb B n c W3 :=
 ⟨h.1.trans (hb.mono h.1.size), keepB hb h.2.1, keepB hb h.2.2.1, keepB hb h.2.2.2⟩
theorem RdS.allocd {W : World} {sb g i cb B n c : Nat} {W2 : World} (h : RdS W sb g i cb B n c W2) (o : Obj) : RdS W sb g i cb B n c (W2.alloc o) := h.step ((Below.refl _ _).alloc (Nat.le_refl _) _)
theorem RdS.put {W : World} {sb g i cb B n c B8 : Nat} {W2 : World} (h : RdS W sb g i cb B n c W2) (hB : W.heap.size ≤ B8) (hs : sb < W.heap.size) (hg : g < W.heap.size) (hb : B < W.heap.size) (x y z : Value) :
 RdS W sb g i cb B n c (((W2.setCell ⟨B8, 0, none⟩ x).setCell ⟨B8, 1, none⟩ y).setCell ⟨B8, 2, none⟩ z) := by
 refine ⟨((h.1.setCell (show W.heap.size ≤ B8 from hB) _).setCell (show W.heap.size ≤ B8 from hB) _).setCell (show W.heap.size ≤ B8 from hB) _, ?_, ?_, ?_⟩
 · rw [cell_setCell_ne _ (fun e => by injection e; omega), cell_setCell_ne _ (fun e => by injection e; omega), cell_setCell_ne _ (fun e => by injection e; omega)]; exact h.2.1
 · rw [cell_setCell_ne _ (fun e => by injection e; omega), cell_setCell_ne _ (fun e => by injection e; omega), cell_setCell_ne _ (fun e => by injection e; omega)]; exact h.2.2.1
 · rw [cell_setCell_ne _ (fun e => by injection e; omega), cell_setCell_ne _ (fun e => by injection e; omega), cell_setCell_ne _ (fun e => by injection e; omega)]; exact h.2.2.2
def RdE (W1 : World) (B8 : Nat) (x : It) (Wf : World) : Prop := Below W1.heap.size W1 Wf ∧ W1.heap.size ≤ B8 ∧ IBox Wf B8 x
set_option maxRecDepth 100000 in
theorem task_ready (sb gb nb pb mb n : Nat) (cv : Value) (D : DataW Unit) (cbs : List Nat) (tb : Int → Nat) (own : Nat → Option Own) (s : Sy) (id : Int) (t : Tk) (i : Nat) (W : World) (h : SysAt W sb gb nb pb mb n cv D cbs tb own s)
 (h1 : -9223372036854775808 ≤ id) (h2 : id ≤ 9223372036854775807) (ht : s.tasks id = some t) (hst : t.state = 2) (hid : t.id = id) (hi : t.core = (i : Int)) (hil : i < cbs.length) (hf : Fits s.cores[i]!.l) :
 Calls Tryz.prog 142 #[.pointer (some ⟨sb, 0, none⟩), .int .i64 id] W (TaskP s t W) := by
 have hB0 : Below W.heap.size W (W.alloc (.cells #[.int .i64 0, .int .i64 0, .int .i64 0, .int .i64 0, .int .i64 0, .int .u16 0, .int .i64 0] 60)) := (Below.refl _ W).alloc (Nat.le_refl _) _; have hS1 := h.below hB0; have hl := hS1.look id h1 h2; rw [ht] at hl; simp only at hl; have c67 := hS1.c67; have hT := (hS1.task id t ht).1; have htl := (h.task id t ht).1.lt; obtain ⟨b, hb⟩ : ∃ b, tb id = b := ⟨_, rfl⟩
 rw [hb] at hl hT htl; obtain ⟨g, cc, hcv⟩ := h.form (by omega); subst hcv; have hh := h.head; have hcc := h.coreCell i hil; have hgl : g < W.heap.size := World.block_lt_of_cell? _ _ hcc; have hsl := h.lt sb (by rw [h.osb]; simp); have hcf : ∀ W', Below W.heap.size W W' → Calls Tryz.prog 89 #[.pointer (some ⟨cbs[i]!, 0, none⟩)] W' (FormP W' s.cores[i]!.l.cur (formL s.cores[i]!.l)) := fun W' hb => cform_any _ _ _ W' ((h.below hb).core i hil) hf; have hlen : (formL s.cores[i]!.l).length ≤ 64 := by unfold formL; rw [List.length_map]; exact hf.1
 have hlag : lagY s t = (itemI (formL s.cores[i]!.l) id).lag := by unfold lagY; rw [if_pos hst, hi, hid]; rfl
 have htold : toldT s t = ⟨t.id, t.w, t.group, t.core, t.state, t.mask, (itemI (formL s.cores[i]!.l) id).lag⟩ := by unfold toldT; rw [hlag]
 unfold TaskP; rw [htold]; have hfi : ∀ (v : Value) (W' : World), FSl W' v (formL s.cores[i]!.l) → Calls Tryz.prog 22 #[.agg #[.int .i64 s.cores[i]!.l.cur, v], .int .i64 id] W' (FindP (formL s.cores[i]!.l) id W') := fun v W' hv => finditem_any _ v _ id W' hv (by omega); obtain ⟨cb, hcb⟩ : ∃ x, cbs[i]! = x := ⟨_, rfl⟩
 rw [hcb] at hcf hcc; obtain ⟨its, hits⟩ : ∃ x, formL s.cores[i]!.l = x := ⟨_, rfl⟩
 obtain ⟨cur, hcur⟩ : ∃ x, s.cores[i]!.l.cur = x := ⟨_, rfl⟩
 rw [hits] at hcf hfi ⊢; rw [hcur] at hcf hfi; obtain ⟨lag, hlg⟩ : ∃ x, (itemI its id).lag = x := ⟨_, rfl⟩
 obtain ⟨iw, hiw⟩ : ∃ x, (itemI its id).w = x := ⟨_, rfl⟩
 obtain ⟨ii, hii⟩ : ∃ x, (itemI its id).id = x := ⟨_, rfl⟩
 obtain ⟨pb2, hpb2⟩ : ∃ x, decide (0 ≤ posI its id) = x := ⟨_, rfl⟩
 unfold FindP at hfi; rw [hlg, hiw, hii, hpb2] at hfi; rw [hlg]; obtain ⟨ti, tw, tg, tc, ts, tm, tl⟩ := t; simp only at hst hi hid; subst hst hi; obtain ⟨e0, e1, e2, e3, e4, e5, e6, -⟩ := hT; simp only at e0 e1 e2 e3 e4 e5 e6; have HTL := lH htl; have hnl : (i : Int) < (cbs.length : Int) := by omega
 have hi0 : (0 : Int) ≤ (i : Int) := by omega
 obtain ⟨N, hN⟩ : ∃ x, cbs.length = x := ⟨_, rfl⟩
 rw [hN] at hh hnl; clear h ht hb hS1 hlag htold htl hits hcur hlg hiw hii hpb2 hf hlen hcb hil hid hN; go_enter Tryz.func142, Tryz.ntmps142; go_wp2_with fail
 have hB1 : Below W.heap.size W ((W.alloc (.cells #[.int .i64 0, .int .i64 0, .int .i64 0, .int .i64 0, .int .i64 0, .int .u16 0, .int .i64 0] 60)).alloc (.cells #[.int .i64 ti, .int .i64 tw, .int .i64 tg, .int .i64 i, .int .i64 2, .int .u16 tm, .int .i64 tl] 60)).drew := (hB0.alloc (by simp) _).drew; have hX := (tbox_new (W.alloc (.cells #[.int .i64 0, .int .i64 0, .int .i64 0, .int .i64 0, .int .i64 0, .int .u16 0, .int .i64 0] 60)) ⟨ti, tw, tg, i, 2, tm, tl⟩)
 rw [size_alloc1] at hX; have hX0 := (tbox_new W ⟨0, 0, 0, 0, 0, 0, 0⟩).alloc (.cells (Tk.cells ⟨ti, tw, tg, i, 2, tm, tl⟩).toArray 60); unfold Tk.cells at hX hX0; simp only at hX hX0; have hhc := c2a (.cells #[.int .i64 ti, .int .i64 tw, .int .i64 tg, .int .i64 i, .int .i64 2, .int .u16 tm, .int .i64 tl] 60) (c2a (.cells #[.int .i64 0, .int .i64 0, .int .i64 0, .int .i64 0, .int .i64 0, .int .u16 0, .int .i64 0] 60) hh); have hgc := c2a (.cells #[.int .i64 ti, .int .i64 tw, .int .i64 tg, .int .i64 i, .int .i64 2, .int .u16 tm, .int .i64 tl] 60) (c2a (.cells #[.int .i64 0, .int .i64 0, .int .i64 0, .int .i64 0, .int .i64 0, .int .u16 0, .int .i64 0] 60) hcc); clear hl c67 e0 e1 e2 e3 e4 e5 e6 hh hcc hB0; have hB1' : Below W.heap.size W ((W.alloc (.cells #[.int .i64 0, .int .i64 0, .int .i64 0, .int .i64 0, .int .i64 0, .int .u16 0, .int .i64 0] 60)).alloc (.cells #[.int .i64 ti, .int .i64 tw, .int .i64 tg, .int .i64 i, .int .i64 2, .int .u16 tm, .int .i64 tl] 60)) := ((Below.refl _ W).alloc (Nat.le_refl _) _).alloc (by simp) _; clear hB1; generalize (W.alloc (.cells #[.int .i64 0, .int .i64 0, .int .i64 0, .int .i64 0, .int .i64 0, .int .u16 0, .int .i64 0] 60)).alloc (.cells #[.int .i64 ti, .int .i64 tw, .int .i64 tg, .int .i64 i, .int .i64 2, .int .u16 tm, .int .i64 tl] 60) = W1 at hhc hgc hB1' hX hX0 ⊢; have hBl : W.heap.size + 1 < W1.heap.size := hX.lt; have hsl1 : sb < W1.heap.size := Nat.lt_of_lt_of_le hsl hB1'.size; have hgl1 : g < W1.heap.size := Nat.lt_of_lt_of_le hgl hB1'.size; replace hcf : ∀ W', Below W1.heap.size W1 W' → Calls Tryz.prog 89 #[.pointer (some ⟨cb, 0, none⟩)] W' (FormP W' cur its) := fun W' hb => hcf W' (hB1'.trans (hb.mono hB1'.size)); have hS : RdS W1 sb g i cb (W.heap.size + 1) N cc W1.drew := ⟨(Below.refl _ _).drew, hhc, hgc, hX.cells.1.2.2.2.1⟩
 have HX := lH hX; have HX0 := lH hX0; have HB1 := lH hB1'; clear hX hX0 hB1' hhc hgc; go_region_held3 (RdS W1 sb g i cb (W.heap.size + 1) N cc) (first | (with_reducible exact hS) | exact hS | exact hS.allocd _ | exact hS.put hz9 hsl1 hgl1 hBl _ _ _) (first | (go_at_call 22; refine (hfi _ _ hP).mono ?_; rintro e w9 ⟨rfl, hb9⟩; replace hS := hS.step hb9; (try replace hI9 := hI9.below hb9 hI9.lt); (try obtain ⟨⟨c0, c1, c2⟩, f0, f1, f2⟩ := hI9.cells)) | (go_at_call 89; refine (hcf _ hS.1).mono ?_; rintro e w8 ⟨v8, rfl, hr8, hb8⟩; have hP := FSl.of hr8; replace hS := hS.step hb8) | (go_at_call 89; refine (hcf _ (hS.allocd (.cells #[.int .i64 0, .int .i64 0, .int .i64 0] 77)).1).mono ?_; rintro e w8 ⟨v8, rfl, hr8, hb8⟩; have hP := FSl.of hr8; have hz9 : W1.heap.size ≤ W1.heap.size := Nat.le_refl _; have hI9 : IBox w8 W1.heap.size ⟨0, 0, 0⟩ := (ibox_new W1.drew ⟨0, 0, 0⟩).below hb8 (ibox_new W1.drew ⟨0, 0, 0⟩).lt; replace hS := (hS.allocd _).step hb8) | (go_at_call 22; refine (hfi _ _ (hP.alloc (.cells #[.int .i64 0, .int .i64 0, .int .i64 0] 77))).mono ?_; rintro e w9 ⟨rfl, hb9⟩; have hz9 := hS.1.size; have hI9 := (ibox_new _ ⟨0, 0, 0⟩).below hb9 (ibox_new _ ⟨0, 0, 0⟩).lt; obtain ⟨⟨c0, c1, c2⟩, f0, f1, f2⟩ := hI9.cells; replace hS := (hS.allocd _).step hb9) | fail)
 all_goals
  rename_i hHd; first
   | (have hE : RdE W1 w9.heap.size ⟨ii, iw, lag⟩ (w9.alloc (.cells #[.int .i64 ii, .int .i64 iw, .int .i64 lag] 77)) := ⟨hHd.1, hS.1.size, ibox_new w9 ⟨ii, iw, lag⟩⟩
      clear hHd hS; generalize w9.alloc (.cells #[.int .i64 ii, .int .i64 iw, .int .i64 lag] 77) = Wf at hE ⊢; generalize w9.heap.size = B8 at hE ⊢)
   | (have hE : RdE W1 w8.heap.size ⟨ii, iw, lag⟩ (((w9.setCell ⟨w8.heap.size, 0, none⟩ (.int .i64 ii)).setCell ⟨w8.heap.size, 1, none⟩ (.int .i64 iw)).setCell ⟨w8.heap.size, 2, none⟩ (.int .i64 lag)) := ⟨hHd.1, hz9, hI9.set ⟨ii, iw, lag⟩⟩
      clear hHd hS hI9 c0 c1 c2 f0 f1 f2; generalize ((w9.setCell ⟨w8.heap.size, 0, none⟩ (.int .i64 ii)).setCell ⟨w8.heap.size, 1, none⟩ (.int .i64 iw)).setCell ⟨w8.heap.size, 2, none⟩ (.int .i64 lag) = Wf at hE ⊢; generalize w8.heap.size = B8 at hE ⊢)
   | (have hE : RdE W1 W1.heap.size ⟨ii, iw, lag⟩ (((w9.setCell ⟨W1.heap.size, 0, none⟩ (.int .i64 ii)).setCell ⟨W1.heap.size, 1, none⟩ (.int .i64 iw)).setCell ⟨W1.heap.size, 2, none⟩ (.int .i64 lag)) := ⟨hHd.1, hz9, hI9.set ⟨ii, iw, lag⟩⟩
      clear hHd hS hI9 c0 c1 c2 f0 f1 f2; generalize ((w9.setCell ⟨W1.heap.size, 0, none⟩ (.int .i64 ii)).setCell ⟨W1.heap.size, 1, none⟩ (.int .i64 iw)).setCell ⟨W1.heap.size, 2, none⟩ (.int .i64 lag) = Wf at hE ⊢; generalize W1.heap.size = B8 at hE ⊢)
 all_goals
  obtain ⟨hbE, hzE, hIE⟩ := hE; have z2 := hIE.cells.1.2.2; have hTE := HX.out.below hbE hBl; have hTE0 := HX0.out.below hbE (Nat.lt_of_succ_lt hBl); obtain ⟨⟨d0, d1, d2, d3, d4, d5, d6⟩, df⟩ := hTE.cells; obtain ⟨⟨o0, o1, o2, o3, o4, o5, o6⟩, oz⟩ := hTE0.cells; have df6 := df 6; have oz0 := oz 0; have oz1 := oz 1; have oz2 := oz 2; have oz3 := oz 3; have oz4 := oz 4; have oz5 := oz 5; have oz6 := oz 6; have hTE1 : TBox (Wf.setCell ⟨W.heap.size + 1, 6, none⟩ (.int .i64 lag)) W.heap.size ⟨0, 0, 0, 0, 0, 0, 0⟩ := (Below.heap_setCell _ _ _ _ (by simp)).trans hTE0; obtain ⟨⟨p0, p1, p2, p3, p4, p5, p6⟩, -⟩ := (hTE1.put ⟨ti, tw, tg, i, 2, tm, lag⟩).cells; simp only at z2 d0 d1 d2 d3 d4 d5 d6 o0 o1 o2 o3 o4 o5 o6 p0 p1 p2 p3 p4 p5 p6; have HP := lH (And.intro p0 (And.intro p1 (And.intro p2 (And.intro p3 (And.intro p4 (And.intro p5 p6)))))); have HBE := lH hbE; clear p0 p1 p2 p3 p4 p5 p6 df oz hTE hTE0 hTE1 hIE hzE hbE hcf hfi hP hb8 hb9 hr8; go_wp2_with fail
  obtain ⟨p0, p1, p2, p3, p4, p5, p6⟩ := HP.out; refine bodyPost_ret (v := .tuple #[.agg #[.int .i64 ti, .int .i64 tw, .int .i64 tg, .int .i64 i, .int .i64 2, .int .u16 tm, .int .i64 lag], .int .i64 0]) ?_ rfl ⟨rfl, ?_⟩
  · simp [results, Tryz.results142, go_sem, p0, p1, p2, p3, p4, p5, p6]
  · have hb := HB1.out.trans (HBE.out.mono HB1.out.size)
    exact (((((((hb.setCell (by simp) _).setCell (by simp) _).setCell (by simp) _).setCell (by simp) _).setCell (by simp) _).setCell (by simp) _).setCell (by simp) _).setCell (by simp) _
end
section
attribute [local go_sem] Oper.semAt_some
def rty : Nat → TypeId
 | 0 => 3
 | 1 => 70
 | 2 => 60
 | _ => 2
def rsz : Nat → Nat
 | 0 => 1
 | 1 => 2
 | 2 => 7
 | _ => 1
structure StA (H : Nat) (W : World) (B : Nat) (vs : Nat → Value) (cnt : Nat → Nat) (xs : Nat → List Value) (P : Nat → Prop) : Prop where
 cell : ∀ i, i < 5 → W.cell? ⟨B, i, none⟩ = some (vs i)
 live : ∀ i, W.frozen? ⟨B, i, none⟩ = false
 row : ∀ i, i < 5 → W.ownsRow H (rty i) (rsz i) (vs i) (cnt i) (xs i)
 apart : ∀ i j k, i < 5 → j < 5 → i ≠ j → (vs i).ownBlock = some k → (vs j).ownBlock ≠ some k
 box : B < H
 lt : H ≤ W.heap.size
 free : ∀ k, P k → k < W.heap.size ∧ k ≠ B ∧ ∀ i, i < 5 → (vs i).ownBlock ≠ some k
theorem StA.same {H : Nat} {W W' : World} {B : Nat} {vs : Nat → Value} {cnt : Nat → Nat} {xs : Nat → List Value} {P : Nat → Prop} (h : StA H W B vs cnt xs P) (hb : Below W.heap.size W W') : StA H W' B vs cnt xs P := by
 have hB : B < W.heap.size := Nat.lt_of_lt_of_le h.box h.lt; exact ⟨fun i hi => (World.cell?_of_block (a := ⟨B, i, none⟩) (hb.block B hB)).trans (h.cell i hi), fun i => (World.frozen?_of_block (a := ⟨B, i, none⟩) (hb.block B hB)).trans (h.live i),
  fun i hi => ownsRow_same (h.row i hi) (fun k hk => hb.block k ((h.row i hi).lt k hk).2), h.apart, h.box, Nat.le_trans h.lt hb.size, fun k hk => ⟨Nat.lt_of_lt_of_le (h.free k hk).1 hb.size, (h.free k hk).2⟩⟩
theorem StA.more {H : Nat} {W : World} {B : Nat} {vs : Nat → Value} {cnt : Nat → Nat} {xs : Nat → List Value} {P P' : Nat → Prop} (h : StA H W B vs cnt xs P)
 (hP : ∀ k, P' k → P k ∨ (k < W.heap.size ∧ k ≠ B ∧ ∀ i, i < 5 → (vs i).ownBlock ≠ some k)) : StA H W B vs cnt xs P' :=
 ⟨h.cell, h.live, h.row, h.apart, h.box, h.lt, fun k hk => (hP k hk).elim (h.free k) id⟩
def setV {α : Type} (vs : Nat → α) (i : Nat) (v : α) : Nat → α := fun j => if j = i then v else vs j
theorem StA.put {H : Nat} {W : World} {B : Nat} {vs : Nat → Value} {cnt : Nat → Nat} {xs : Nat → List Value} {P : Nat → Prop} (h : StA H W B vs cnt xs P) {i : Nat} (hi : i < 5) {v : Value} {n : Nat} {ys : List Value} (hr : W.ownsRow H (rty i) (rsz i) v n ys)
 (hv : ∀ k, v.ownBlock = some k → (∀ j, j < 5 → j ≠ i → (vs j).ownBlock ≠ some k) ∧ ¬ P k) :
 StA H (W.setCell ⟨B, i, none⟩ v) B (setV vs i v) (setV cnt i n) (setV xs i ys) P := by
 have hb : ∀ k, k ≠ B → (W.setCell ⟨B, i, none⟩ v).heap[k]? = W.heap[k]? := fun k hk => Below.heap_setCell _ _ _ _ hk; have hbox := h.box; refine ⟨fun j hj => ?_, fun j => by rw [World.frozen?_setCell]; exact h.live j, fun j hj => ?_, fun a b k ha hb' hab hk => ?_, h.box, by simp; exact h.lt, fun k hk => ⟨by simp; exact (h.free k hk).1, (h.free k hk).2.1, fun j hj => ?_⟩⟩
 · unfold setV; by_cases e : j = i
   · subst e; rw [if_pos rfl]; exact World.cell?_setCell_same _ _ _ (h.cell j hj)
   · rw [if_neg e, cell_setCell_ne _ (by intro e2; injection e2; omega)]; exact h.cell j hj
 · unfold setV; by_cases e : j = i
   · subst e; rw [if_pos rfl, if_pos rfl, if_pos rfl]; exact ownsRow_same hr (fun k hk => hb k (by have := (hr.lt k hk).1; omega))
   · rw [if_neg e, if_neg e, if_neg e]; exact ownsRow_same (h.row j hj) (fun k hk => hb k (by have := ((h.row j hj).lt k hk).1; omega))
 · unfold setV at hk ⊢; by_cases ea : a = i
   · rw [if_pos ea] at hk; rw [if_neg (by omega)]; exact (hv k hk).1 b hb' (by omega)
   · rw [if_neg ea] at hk; by_cases eb : b = i
     · rw [if_pos eb]; intro e; exact (hv k e).1 a ha ea hk
     · rw [if_neg eb]; exact h.apart a b k ha hb' hab hk
 · unfold setV; by_cases e : j = i
   · rw [if_pos e]; intro e2; exact (hv k e2).2 hk
   · rw [if_neg e]; exact (h.free k hk).2.2 j hj
theorem StA.step {H : Nat} {W w4 : World} {B : Nat} {vs : Nat → Value} {cnt : Nat → Nat} {xs : Nat → List Value} {P : Nat → Prop} (h : StA H W B vs cnt xs P) {i : Nat} (hi : i < 5) {g cap : Nat} {news : List Value} {o : Obj}
 (hg : (W.alloc o).grownBy w4 (vs i).ownBlock) (hown : w4.ownsRow H (rty i) (rsz i) (.slice (some ⟨g, 0, none⟩) (cnt i + 1) cap) (cnt i + 1) (xs i ++ news)) (hat : (vs i).ownBlock = some g ∨ g = W.heap.size + 1) :
 (w4.cell? ⟨B, i, none⟩ = some (vs i) ∧ w4.frozen? ⟨B, i, none⟩ = false) ∧
 StA H (w4.setCell ⟨B, i, none⟩ (.slice (some ⟨g, 0, none⟩) (cnt i + 1) cap)) B (setV vs i (.slice (some ⟨g, 0, none⟩) (cnt i + 1) cap)) (setV cnt i (cnt i + 1)) (setV xs i (xs i ++ news)) P ∧
 (∀ k, k < W.heap.size → k ≠ B → (vs i).ownBlock ≠ some k → (w4.setCell ⟨B, i, none⟩ (.slice (some ⟨g, 0, none⟩) (cnt i + 1) cap)).heap[k]? = W.heap[k]?) ∧
 Below (B) W (w4.setCell ⟨B, i, none⟩ (.slice (some ⟨g, 0, none⟩) (cnt i + 1) cap)) := by
 have hbox := h.box; have hlt := h.lt; have hz := hg.size; simp only [World.size_alloc] at hz; have hvH : ∀ j, j < 5 → ∀ k, (vs j).ownBlock = some k → H ≤ k ∧ k < W.heap.size := fun j hj k hk => (h.row j hj).lt k hk; have hold : ∀ k, k < W.heap.size → (vs i).ownBlock ≠ some k → w4.heap[k]? = W.heap[k]? := fun k hk h2 => by
  rw [hg.block k (by simp; omega) (fun e => h2 e.symm), Below.heap_alloc _ _ _ hk]
 have hBk : w4.heap[B]? = W.heap[B]? := hold B (by omega) (fun e => by have := (hvH i hi B e).1; omega); have h4 : StA H w4 B (setV vs i (vs i)) (setV cnt i (cnt i)) (setV xs i (xs i)) P → True := fun _ => trivial; have hset : ∀ k, k ≠ B → (w4.setCell ⟨B, i, none⟩ (.slice (some ⟨g, 0, none⟩) (cnt i + 1) cap)).heap[k]? = w4.heap[k]? := fun k hk => Below.heap_setCell _ _ _ _ hk; have hgno : ∀ j, j < 5 → j ≠ i → (vs j).ownBlock ≠ some g := fun j hj hji e => by
  rcases hat with h5 | h5
  · exact h.apart i j g hi hj (by omega) h5 e
  · have := (hvH j hj g e).2; omega
 refine ⟨⟨(World.cell?_of_block (a := ⟨B, i, none⟩) hBk).trans (h.cell i hi), (World.frozen?_of_block (a := ⟨B, i, none⟩) hBk).trans (h.live i)⟩, ⟨fun j hj => ?_, fun j => ?_, fun j hj => ?_, fun a b k ha hb' hab hk => ?_, h.box, by simp; omega, fun k hk => ⟨by have := (h.free k hk).1; simp; omega, (h.free k hk).2.1, fun j hj => ?_⟩⟩, fun k hk h1 h2 => (hset k h1).trans (hold k hk h2), ?_⟩
 · unfold setV; by_cases e : j = i
   · subst e; rw [if_pos rfl]; exact World.cell?_setCell_same _ _ _ ((World.cell?_of_block (a := ⟨B, j, none⟩) hBk).trans (h.cell j hj))
   · rw [if_neg e, cell_setCell_ne _ (by intro e2; injection e2; omega)]; exact (World.cell?_of_block (a := ⟨B, j, none⟩) hBk).trans (h.cell j hj)
 · rw [World.frozen?_setCell]; exact (World.frozen?_of_block (a := ⟨B, j, none⟩) hBk).trans (h.live j)
 · unfold setV; by_cases e : j = i
   · subst e; rw [if_pos rfl, if_pos rfl, if_pos rfl]; exact ownsRow_same hown (fun k hk => hset k (by have := (hown.lt k hk).1; omega))
   · rw [if_neg e, if_neg e, if_neg e]; refine ownsRow_same (h.row j hj) (fun k hk => ?_); have h6 := hvH j hj k hk; rw [hset k (by omega), hold k h6.2 (fun e2 => h.apart i j k hi hj (by omega) e2 hk)]
 · unfold setV at hk ⊢; by_cases ea : a = i
   · rw [if_pos ea] at hk; have : g = k := by simpa [Value.ownBlock] using hk
     subst this; rw [if_neg (by omega)]; exact hgno b hb' (by omega)
   · rw [if_neg ea] at hk; by_cases eb : b = i
     · rw [if_pos eb]; intro e; have : g = k := by simpa [Value.ownBlock] using e
       subst this; exact hgno a ha ea hk
     · rw [if_neg eb]; exact h.apart a b k ha hb' hab hk
 · unfold setV; obtain ⟨f1, f2, f3⟩ := h.free k hk; by_cases e : j = i
   · rw [if_pos e]; intro e2; have : g = k := by simpa [Value.ownBlock] using e2
     subst this; rcases hat with h5 | h5
     · exact f3 i hi h5
     · omega
   · rw [if_neg e]; exact f3 j hj
 · refine ⟨hg.os, hg.tape, hg.output, by simp; omega, fun k hk => ?_⟩; rw [hset k (by omega), hold k (by omega) (fun e => by have := (hvH i hi k e).1; omega)]
def AcctP (s : Sy) (id : Int) (xs : List G16) (w : World) (e : Ending) (W' : World) : Prop :=
 Below w.heap.size w W' ∧ ((xs = [] ∧ e = .returned (.tuple #[.agg #[.int .i64 0, .int .i64 0, .int .i64 0, .int .i64 0], .int .i64 2])) ∨
  (xs ≠ [] ∧ e = .returned (.tuple #[.agg #[.int .i64 (s.acc.getD id.toNat default).1, .int .i64 (s.acc.getD id.toNat default).2.1, .int .i64 (s.acc.getD id.toNat default).2.2.1, .int .i64 (s.acc.getD id.toNat default).2.2.2], .int .i64 0])))
theorem cells4b {W : World} {B : Nat} {a b c d : Value} {t : TypeId} (h : W.heap[B]? = some (.cells #[a, b, c, d] t (0, 0))) :
 (W.cell? ⟨B, 0, none⟩ = some a ∧ W.cell? ⟨B, 1, none⟩ = some b ∧ W.cell? ⟨B, 2, none⟩ = some c ∧ W.cell? ⟨B, 3, none⟩ = some d) ∧ (∀ i, W.frozen? ⟨B, i, none⟩ = false) ∧
 ∀ a' b' c' d', ((((W.setCell ⟨B, 0, none⟩ a').setCell ⟨B, 1, none⟩ b').setCell ⟨B, 2, none⟩ c').setCell ⟨B, 3, none⟩ d').heap[B]? = some (.cells #[a', b', c', d'] t (0, 0)) := by
 refine ⟨⟨?_, ?_, ?_, ?_⟩, fun i => by simp only [World.frozen?, h]; simp, fun a' b' c' d' => ?_⟩
 · simp only [World.cell?, h]; rfl
 · simp only [World.cell?, h]; rfl
 · simp only [World.cell?, h]; rfl
 · simp only [World.cell?, h]; rfl
 · simp [World.setCell, Array.getElem?_modify, h]
set_option maxRecDepth 100000 in
theorem acct_any (sb gb nb pb mb n : Nat) (cv : Value) (D : DataW Unit) (cbs : List Nat) (tb : Int → Nat) (own : Nat → Option Own) (s : Sy) (id : Int) (xs : List G16) (W : World) (h : SysAt W sb gb nb pb mb n cv D cbs tb own s)
 (hL : IsPath s.gs id xs) (hlen : xs.length ≤ 1000) :
 Calls Tryz.prog 91 #[.pointer (some ⟨sb, 0, none⟩), .int .i64 id] W (AcctP s id xs W) := by
 have hB0 : Below W.heap.size W (W.alloc (.cells #[.int .i64 0, .int .i64 0, .int .i64 0, .int .i64 0] 119)) := (Below.refl _ W).alloc (Nat.le_refl _) _; have hdep := depth_any gb s.gs id xs _ (h.below hB0).groups hL hlen; have c1 := (h.below hB0).c1; have hbox := heap_alloc_new W (.cells #[.int .i64 0, .int .i64 0, .int .i64 0, .int .i64 0] 119); have hcase : (xs = [] ∧ xs.length = 0) ∨ (xs ≠ [] ∧ xs.length ≠ 0 ∧ ∃ k : Nat, id = (k : Int) ∧ k < 16) := by
  cases xs with
  | nil => exact .inl ⟨rfl, rfl⟩
  | cons x t =>
   refine .inr ⟨by simp, by simp, ?_⟩; obtain ⟨hx, _, _⟩ := hL; have := x.2; exact ⟨id.toNat, by omega, by omega⟩
 have HS := lH h; have HB0 := lH hB0; have HX := lH hbox; unfold AcctP; obtain ⟨q, hq⟩ : ∃ q, s.acc.getD id.toNat default = q := ⟨_, rfl⟩
 rw [hq]; have HQ := lH hq; generalize hn : xs.length = m at hdep hcase; clear h hL hlen hB0 hbox hn hq; go_enter Tryz.func91, Tryz.ntmps91; go_wp2_with fail
 refine hdep.mono ?_; rintro e w1 ⟨rfl, hb1⟩; have hx1 := (hb1.block W.heap.size (by simp)).trans HX.out; obtain ⟨⟨x0, x1, x2, x3⟩, xf, xput⟩ := cells4b hx1; have xf0 := xf 0; have xf1 := xf 1; have xf2 := xf 2; have xf3 := xf 3; have HPUT := lH xput; have HB1 := lH (HB0.out.trans (hb1.mono HB0.out.size)); clear hx1 xput xf; rcases hcase with ⟨hxs, hm⟩ | ⟨hxs, hm, k, rfl, hk⟩
 · subst hm; have HXS := lH hxs; clear hxs; go_wp2_with fail
   obtain ⟨⟨g0, g1, g2, g3⟩, -, -⟩ := cells4b (HPUT.out (.int .i64 0) (.int .i64 0) (.int .i64 0) (.int .i64 0)); refine bodyPost_ret (v := .tuple #[.agg #[.int .i64 0, .int .i64 0, .int .i64 0, .int .i64 0], .int .i64 2]) (by simp [results, Tryz.results91, go_sem, g0, g1, g2, g3]) rfl ⟨(((HB1.out.setCell (by simp) _).setCell (by simp) _).setCell (by simp) _).setCell (by simp) _, .inl ⟨HXS.out, rfl⟩⟩
 · have hS1 := HS.out.below HB1.out; obtain ⟨a0, a1, a2, a3⟩ := hS1.acc k hk; have hq2 := HQ.out; rw [Int.toNat_natCast] at hq2; rw [hq2] at a0 a1 a2 a3; clear hq2 HQ; have hki : (k : Int) < 16 := by omega
   have hk0 : (0 : Int) ≤ (k : Int) := by omega
   have hmi : ((m : Int) == 0) = false := by simp; omega
   obtain ⟨q0, q1, q2, q3⟩ := q; simp only at a0 a1 a2 a3; have HXS := lH hxs; clear hxs hm hS1 hb1 c1; have c1 := (HS.out.below HB1.out).c1; go_wp2_with fail
   obtain ⟨⟨g0, g1, g2, g3⟩, -, -⟩ := cells4b (HPUT.out (.int .i64 q0) (.int .i64 q1) (.int .i64 q2) (.int .i64 q3)); refine bodyPost_ret (v := .tuple #[.agg #[.int .i64 q0, .int .i64 q1, .int .i64 q2, .int .i64 q3], .int .i64 0]) (by simp [results, Tryz.results91, go_sem, g0, g1, g2, g3]) rfl ⟨(((HB1.out.setCell (by simp) _).setCell (by simp) _).setCell (by simp) _).setCell (by simp) _, .inr ⟨HXS.out, rfl⟩⟩
end
section
attribute [local go_sem] Oper.semAt_some
theorem info70 : (Tryz.prog.info? 70).map (fun i => (i.zero, i.size, i.bytes)) = some (some (.agg #[.int .i64 0, .slice none 0 0]), 2, 32) := by kernel_rfl
theorem cores_any (sb gb nb pb mb n : Nat) (cv : Value) (D : DataW Unit) (cbs : List Nat) (tb : Int → Nat) (own : Nat → Option Own) (s : Sy) (W : World) (h : SysAt W sb gb nb pb mb n cv D cbs tb own s) :
 Calls Tryz.prog 86 #[.pointer (some ⟨sb, 0, none⟩)] W fun e w' => e = .returned (.int .i64 cbs.length) ∧ W = w' := by
 obtain ⟨a, c, hcv⟩ : ∃ a c, cv = .slice a cbs.length c := by
  rcases h.row.2 with ⟨e, h0⟩ | ⟨g, cap, cur, e, _⟩
  · rw [h0]; exact ⟨_, _, e⟩
  · exact ⟨_, cap, e⟩
 subst hcv; have c0 := h.head; generalize cbs.length = m at c0 ⊢; clear h; go_enter Tryz.func86, Tryz.ntmps86; go_wp2
 go_ret
 exact ⟨rfl, rfl⟩
def FormsOk (W : World) (P : Nat → Prop) : List (Int × Value) → List Co → Prop
 | [], [] => True
 | f :: fs, c :: cs => (f.1 = c.l.cur ∧ FSl W f.2 (formL c.l) ∧ ∀ k, f.2.ownBlock = some k → P k) ∧ FormsOk W P fs cs
 | _, _ => False
theorem FormsOk.len {W : World} {P : Nat → Prop} : ∀ {fs : List (Int × Value)} {cs : List Co}, FormsOk W P fs cs → fs.length = cs.length
 | [], [], _ => rfl
 | f :: fs, c :: cs, h => by simp only [List.length_cons]; rw [FormsOk.len h.2]
 | [], _ :: _, h => h.elim
 | _ :: _, [], h => h.elim
theorem FormsOk.same {W W' : World} {P P' : Nat → Prop} (hs : W.heap.size ≤ W'.heap.size) (hb : ∀ k, P k → W'.heap[k]? = W.heap[k]?) (hP : ∀ k, P k → P' k) : ∀ {fs : List (Int × Value)} {cs : List Co}, FormsOk W P fs cs → FormsOk W' P' fs cs
 | [], [], _ => trivial
 | f :: fs, c :: cs, h => ⟨⟨h.1.1, h.1.2.1.same hs (fun k hk => hb k (h.1.2.2 k hk)), fun k hk => hP k (h.1.2.2 k hk)⟩, FormsOk.same hs hb hP h.2⟩
 | [], _ :: _, h => h.elim
 | _ :: _, [], h => h.elim
theorem FormsOk.snoc {W : World} {P : Nat → Prop} {f : Int × Value} {c : Co} (h1 : f.1 = c.l.cur) (h2 : FSl W f.2 (formL c.l)) (h3 : ∀ k, f.2.ownBlock = some k → P k) : ∀ {fs : List (Int × Value)} {cs : List Co}, FormsOk W P fs cs → FormsOk W P (fs ++ [f]) (cs ++ [c])
 | [], [], _ => ⟨⟨h1, h2, h3⟩, trivial⟩
 | f :: fs, c :: cs, h => ⟨h.1, FormsOk.snoc h1 h2 h3 h.2⟩
 | [], _ :: _, h => h.elim
 | _ :: _, [], h => h.elim
def flatF (fl : List (Int × Value)) : List Value := fl.flatMap fun f => [.int .i64 f.1, f.2]
def tagsV (cs : List Co) : List Value := cs.map fun c => .int .i64 c.tag
def OfInv (w : World) (cs : List Co) (k : Nat) (wr : World) : Prop :=
 ∃ (vs : Nat → Value) (cnt : Nat → Nat) (xs : Nat → List Value) (P : Nat → Prop) (fl : List (Int × Value)), StA (w.heap.size + 2) wr (w.heap.size + 1) vs cnt xs P ∧ Below w.heap.size w wr ∧
  wr.heap[w.heap.size]? = some (.cells #[.slice none 0 0, .slice none 0 0, .slice none 0 0, .slice none 0 0, .slice none 0 0] 44 (0, 0)) ∧ (∀ k, P k → w.heap.size + 2 ≤ k) ∧
  (cnt 0 = k ∧ xs 0 = tagsV (cs.take k)) ∧ (cnt 1 = k ∧ xs 1 = flatF fl ∧ FormsOk wr P fl (cs.take k)) ∧ ∀ i, 2 ≤ i → i < 5 → vs i = .slice none 0 0 ∧ cnt i = 0 ∧ xs i = []
def RwS (B i : Nat) (v : Value) (W : World) : Prop := W.cell? ⟨B, i, none⟩ = some v
theorem ofInv_start (w : World) (cs : List Co) : OfInv w cs 0 ((w.alloc (.cells #[.slice none 0 0, .slice none 0 0, .slice none 0 0, .slice none 0 0, .slice none 0 0] 44)).alloc (.cells #[.slice none 0 0, .slice none 0 0, .slice none 0 0, .slice none 0 0, .slice none 0 0] 44)) := by
 have hh := heap_alloc_new (w.alloc (.cells #[.slice none 0 0, .slice none 0 0, .slice none 0 0, .slice none 0 0, .slice none 0 0] 44)) (.cells #[.slice none 0 0, .slice none 0 0, .slice none 0 0, .slice none 0 0, .slice none 0 0] 44); rw [World.size_alloc] at hh; have h0 : ((w.alloc (.cells #[.slice none 0 0, .slice none 0 0, .slice none 0 0, .slice none 0 0, .slice none 0 0] 44)).alloc (.cells #[.slice none 0 0, .slice none 0 0, .slice none 0 0, .slice none 0 0, .slice none 0 0] 44)).heap[w.heap.size]? = some (.cells #[.slice none 0 0, .slice none 0 0, .slice none 0 0, .slice none 0 0, .slice none 0 0] 44 (0, 0)) :=
  (Below.heap_alloc _ _ _ (by simp)).trans (heap_alloc_new w _)
 refine ⟨fun _ => .slice none 0 0, fun _ => 0, fun _ => [], fun k => False, [], ⟨fun i hi => ?_, fun i => ?_, fun i _ => World.ownsRow_nil .., fun i j k _ _ _ hk => by simp [Value.ownBlock] at hk, by omega, by simp, fun k hk => hk.elim⟩, ((Below.refl _ w).alloc (Nat.le_refl _) _).alloc (by simp) _, h0, fun k hk => hk.elim, ⟨rfl, rfl⟩, ⟨rfl, rfl, trivial⟩, fun i _ _ => ⟨rfl, rfl, rfl⟩⟩
 · simp only [World.cell?, hh]; rcases (by omega : i = 0 ∨ i = 1 ∨ i = 2 ∨ i = 3 ∨ i = 4) with rfl | rfl | rfl | rfl | rfl <;> rfl
 · simp only [World.frozen?, hh]; simp
def OfMid (w : World) (cs : List Co) (k : Nat) (wr : World) : Prop :=
 ∃ (vs : Nat → Value) (cnt : Nat → Nat) (xs : Nat → List Value) (P : Nat → Prop) (fl : List (Int × Value)), StA (w.heap.size + 2) wr (w.heap.size + 1) vs cnt xs P ∧ Below w.heap.size w wr ∧
  wr.heap[w.heap.size]? = some (.cells #[.slice none 0 0, .slice none 0 0, .slice none 0 0, .slice none 0 0, .slice none 0 0] 44 (0, 0)) ∧ (∀ k, P k → w.heap.size + 2 ≤ k) ∧
  (cnt 0 = k + 1 ∧ xs 0 = tagsV (cs.take (k + 1))) ∧ (cnt 1 = k ∧ xs 1 = flatF fl ∧ FormsOk wr P fl (cs.take k)) ∧ ∀ i, 2 ≤ i → i < 5 → vs i = .slice none 0 0 ∧ cnt i = 0 ∧ xs i = []
theorem take_snoc_co (cs : List Co) (k : Nat) (hk : k < cs.length) : cs.take (k + 1) = cs.take k ++ [cs[k]!] := by
 rw [List.take_succ_eq_append_getElem hk, getElem!_pos cs k hk]
theorem OfInv.tag {w wr w4 : World} {cs : List Co} {k : Nat} (hk : k < cs.length) {vs : Nat → Value} {cnt : Nat → Nat} {xs : Nat → List Value} {P : Nat → Prop} {fl : List (Int × Value)} {g cap : Nat} {o : Obj}
 (hSt : StA (w.heap.size + 2) wr (w.heap.size + 1) vs cnt xs P) (hBw : Below w.heap.size w wr) (hz0 : wr.heap[w.heap.size]? = some (.cells #[.slice none 0 0, .slice none 0 0, .slice none 0 0, .slice none 0 0, .slice none 0 0] 44 (0, 0))) (hP0 : ∀ k, P k → w.heap.size + 2 ≤ k)
 (hc0 : cnt 0 = k ∧ xs 0 = tagsV (cs.take k)) (hc1 : cnt 1 = k ∧ xs 1 = flatF fl ∧ FormsOk wr P fl (cs.take k)) (hrest : ∀ i, 2 ≤ i → i < 5 → vs i = .slice none 0 0 ∧ cnt i = 0 ∧ xs i = [])
 (hg : (wr.alloc o).grownBy w4 (vs 0).ownBlock) (hown : w4.ownsRow (w.heap.size + 2) 3 1 (.slice (some ⟨g, 0, none⟩) (k + 1) cap) (k + 1) (xs 0 ++ [.int .i64 cs[k]!.tag])) (hat : (vs 0).ownBlock = some g ∨ g = wr.heap.size + 1) :
 OfMid w cs k (w4.setCell ⟨w.heap.size + 1, 0, none⟩ (.slice (some ⟨g, 0, none⟩) (k + 1) cap)) := by
 obtain ⟨hc0, hx0⟩ := hc0; subst hc0; obtain ⟨-, hS, hsame, hbel⟩ := hSt.step (i := 0) (by omega) hg hown hat; have hlt := hSt.lt; have hkeep : ∀ j, P j → (w4.setCell ⟨w.heap.size + 1, 0, none⟩ (.slice (some ⟨g, 0, none⟩) (cnt 0 + 1) cap)).heap[j]? = wr.heap[j]? := fun j hj => hsame j (hSt.free j hj).1 (hSt.free j hj).2.1 ((hSt.free j hj).2.2 0 (by omega)); refine ⟨_, _, _, P, fl, hS, hBw.trans (hbel.mono (by omega)), (hsame _ (by omega) (by omega) (fun e => by have := ((hSt.row 0 (by omega)).lt _ e).1; omega)).trans hz0, hP0, ⟨by simp [setV], ?_⟩, ⟨by simpa [setV] using hc1.1, by simpa [setV] using hc1.2.1, hc1.2.2.same hbel.size hkeep (fun _ h => h)⟩, fun i hi hi5 => ?_⟩
 · simp only [setV, if_pos]; rw [take_snoc_co cs _ hk, hx0]; simp [tagsV]
 · simp only [setV]; rw [if_neg (by omega), if_neg (by omega), if_neg (by omega)]; exact hrest i hi hi5
theorem OfMid.form {w wr w8 w4 : World} {cs : List Co} {k : Nat} (hk : k < cs.length) {vs : Nat → Value} {cnt : Nat → Nat} {xs : Nat → List Value} {P : Nat → Prop} {fl : List (Int × Value)} {g cap : Nat} {o : Obj} {v : Value}
 (hSt : StA (w.heap.size + 2) wr (w.heap.size + 1) vs cnt xs P) (hBw : Below w.heap.size w wr) (hz0 : wr.heap[w.heap.size]? = some (.cells #[.slice none 0 0, .slice none 0 0, .slice none 0 0, .slice none 0 0, .slice none 0 0] 44 (0, 0))) (hP0 : ∀ k, P k → w.heap.size + 2 ≤ k)
 (hc0 : cnt 0 = k + 1 ∧ xs 0 = tagsV (cs.take (k + 1))) (hc1 : cnt 1 = k ∧ xs 1 = flatF fl ∧ FormsOk wr P fl (cs.take k)) (hrest : ∀ i, 2 ≤ i → i < 5 → vs i = .slice none 0 0 ∧ cnt i = 0 ∧ xs i = [])
 (hb8 : Below wr.heap.size wr w8) (hr8 : w8.ownsRow wr.heap.size 77 3 v (formL cs[k]!.l).length (flatI (formL cs[k]!.l)))
 (hg : (w8.alloc o).grownBy w4 (vs 1).ownBlock) (hown : w4.ownsRow (w.heap.size + 2) 70 2 (.slice (some ⟨g, 0, none⟩) (k + 1) cap) (k + 1) (xs 1 ++ [.int .i64 cs[k]!.l.cur, v])) (hat : (vs 1).ownBlock = some g ∨ g = w8.heap.size + 1) :
 OfInv w cs (k + 1) (w4.setCell ⟨w.heap.size + 1, 1, none⟩ (.slice (some ⟨g, 0, none⟩) (k + 1) cap)) := by
 obtain ⟨hc1, hx1, hfo⟩ := hc1; subst hc1; have hS8 := hSt.same hb8; have hlt := hSt.lt; have hz8 := hb8.size; have hfree : ∀ j, v.ownBlock = some j → j < w8.heap.size ∧ j ≠ w.heap.size + 1 ∧ ∀ i, i < 5 → (vs i).ownBlock ≠ some j := fun j hj => by
  have h1 := hr8.lt j hj; exact ⟨h1.2, by omega, fun i hi e => by have := ((hSt.row i hi).lt j e).2; omega⟩
 have hS9 := hS8.more (P' := fun j => P j ∨ v.ownBlock = some j) (fun j hj => hj.elim .inl (fun h => .inr (hfree j h))); obtain ⟨-, hS, hsame, hbel⟩ := hS9.step (i := 1) (by omega) hg hown hat; have hkeep : ∀ j, (P j ∨ v.ownBlock = some j) → (w4.setCell ⟨w.heap.size + 1, 1, none⟩ (.slice (some ⟨g, 0, none⟩) (cnt 1 + 1) cap)).heap[j]? = w8.heap[j]? := fun j hj => hsame j (hS9.free j hj).1 (hS9.free j hj).2.1 ((hS9.free j hj).2.2 1 (by omega)); have hkeep2 : ∀ j, P j → (w4.setCell ⟨w.heap.size + 1, 1, none⟩ (.slice (some ⟨g, 0, none⟩) (cnt 1 + 1) cap)).heap[j]? = wr.heap[j]? := fun j hj => (hkeep j (.inl hj)).trans (hb8.block j (hSt.free j hj).1)
 refine ⟨_, _, _, _, fl ++ [(cs[cnt 1]!.l.cur, v)], hS, (hBw.trans (hb8.mono (by omega))).trans (hbel.mono (by omega)), ((hsame _ (by omega) (by omega) (fun e => by have := ((hSt.row 1 (by omega)).lt _ e).1; omega)).trans (hb8.block _ (by omega))).trans hz0, fun j hj => hj.elim (hP0 j) (fun h => by have := (hr8.lt j h).1; omega), ⟨by simpa [setV] using hc0.1, by simpa [setV] using hc0.2⟩, ⟨by simp [setV], ?_, ?_⟩, fun i hi hi5 => ?_⟩
 · simp only [setV, if_pos]; rw [hx1]; simp [flatF]
 · rw [take_snoc_co cs _ hk]; refine FormsOk.snoc rfl ((FSl.of hr8).same hbel.size (fun j hj => hkeep j (.inr hj))) (fun j hj => .inr hj) (hfo.same (by have := hbel.size; omega) hkeep2 (fun _ h => .inl h))
 · simp only [setV]; rw [if_neg (by omega), if_neg (by omega), if_neg (by omega)]; exact hrest i hi hi5
end
theorem info2 : (Tryz.prog.info? 2).map (fun i => (i.zero, i.size, i.bytes)) = some (some (.int .i64 0), 1, 8) := by kernel_rfl
def FitsY (s : Sy) : Prop := ∀ i, i < s.cores.length → Fits s.cores[i]!.l
def loadsY (s : Sy) : List Int := s.cores.map fun c => sumW (formL c.l)
theorem ints_own {W : World} {base : Nat} {v : Value} {xs : List Int} (h : W.ownsRow base 2 1 v xs.length (xs.map fun x => .int .i64 x)) (hne : 0 < xs.length) :
 ∃ g c, v = .slice (some ⟨g, 0, none⟩) xs.length c ∧ ∀ i, i < xs.length → W.cell? ⟨g, i, none⟩ = some (.int .i64 (xs.getD i 0)) := by
 rcases h.2 with ⟨_, h0⟩ | ⟨g, cap, cur, e, _⟩
 · rw [h0] at hne; simp at hne
 · refine ⟨g, cap, e, fun i hi => ?_⟩; have := h.cells (g := g) (by rw [e]; rfl) i (.int .i64 (xs.getD i 0)) (by rw [List.getElem?_map, List.getElem?_eq_getElem hi]; simp [hi]); simpa [Addr.add_lit] using this
set_option maxRecDepth 100000 in
theorem loads_any (sb gb nb pb mb n : Nat) (cv : Value) (D : DataW Unit) (cbs : List Nat) (tb : Int → Nat) (own : Nat → Option Own) (s : Sy) (w : World)
 (h : SysAt w sb gb nb pb mb n cv D cbs tb own s) (hf : FitsY s) (h0 : 0 < cbs.length) (h16 : cbs.length ≤ 16) :
 Calls Tryz.prog 120 #[.pointer (some ⟨sb, 0, none⟩)] w fun e W' => ∃ v, e = .returned v ∧ W'.ownsRow w.heap.size 2 1 v cbs.length ((loadsY s).map fun x => .int .i64 x) ∧ Below w.heap.size w W' := by
 obtain ⟨g, c, hcv⟩ := h.form h0; subst hcv; have c0 := h.head; obtain ⟨i0, hi, hz0, hz1, hz2⟩ := info_parts info2; have HS := lH h; have HF := lH hf; obtain ⟨m, hm⟩ : ∃ m, cbs.length = m := ⟨_, rfl⟩
 rw [hm] at c0 h0 h16 ⊢; have HM := lH hm; clear h hf hm; go_enter Tryz.func120, Tryz.ntmps120; go_wp2_with fail
 go_loopw [3, 11] (fun a x wr => ∃ k : Nat, k ≤ m ∧ x = .int .i64 k ∧ Hid (wr.ownsRow w.heap.size 2 1 a k (((loadsY s).take k).map fun x => .int .i64 x)) ∧ Hid (Below w.heap.size w wr)) (fun _ x _ => m - (intOf x).toNat)
 case atStart => exact ⟨0, Nat.zero_le _, rfl, lH (World.ownsRow_nil ..), lH (Below.refl _ _)⟩
 case round =>
  obtain ⟨k, hk, rfl, HR, HB⟩ := hrel; by_cases hkn : k < m
  · have hS := HS.out.below HB.out; have hck := hS.coreCell k (by rw [HM.out]; exact hkn); have hcl : k < s.cores.length := by rw [← hS.num, HM.out]; exact hkn
    have hload := cload_any cbs[k]! _ s.cores[k]! wr (hS.core k (by rw [HM.out]; exact hkn)) (HF.out k hcl); have hnext : (loadsY s).take (k + 1) = (loadsY s).take k ++ [sumW (formL s.cores[k]!.l)] := by
     unfold loadsY; rw [List.take_succ_eq_append_getElem (by rw [List.length_map]; exact hcl), List.getElem_map, getElem!_pos s.cores k hcl]
    generalize sumW (formL s.cores[k]!.l) = y at hload hnext; generalize cbs[k]! = cb at hck hload; have HN := lH hnext; have hk1 : (k : Int) < (m : Int) := by omega
    have hk0 : 0 ≤ (k : Int) := by omega
    clear hS hcl hnext; go_wp2_with fail
    refine hload.mono ?_; rintro e w3 ⟨rfl, hb3⟩; have hz3 := hb3.size; have hrow3 := ownsRow_same HR.out (fun j hj => hb3.block j (HR.out.lt j hj).2); have hbz := HB.out.size; clear hload; go_wp2_with (at_builtin; refine wpList_append_lies _ rfl _ _ 42 rfl w.heap.size 2 i0 (.int .i64 0) 1 8 Tryz.underlying42 hi hz0 hz1 hz2 rfl (by decide) _ k _ rfl (hrow3.alloc _) ⟨w3.heap.size, 0, none⟩ 1 1 [.int .i64 y] rfl rfl (World.news_of_block (cs := #[.int .i64 y]) (t := 2) (fr := (0, 0)) (heap_alloc_new w3 _)) (by simp [Value.oneCell']) (by omega) (by unfold maxLen; omega) (by omega) (by simp; omega) (w3.heap.size + 1) (by simp) ?_; intro g cap w4 hown4 hgrow4 hat4 hlt4)
    have hr : w4.ownsRow w.heap.size 2 1 (.slice (some ⟨g, 0, none⟩) (k + 1) cap) (k + 1) (((loadsY s).take (k + 1)).map fun x => .int .i64 x) := by
     rw [HN.out, List.map_append]; exact hown4
    have HR4 := lH hr; have HB4 : Hid (Below w.heap.size w w4) := lH (((HB.out.trans (hb3.mono hbz)).alloc (by omega) _).grown hgrow4 (by simp; omega) (fun j hj => (hrow3.lt j hj).1)); clear hr hown4 hgrow4 hat4 hlt4 hrow3 hz3 hbz hb3; go_roundw
    case rel => exact ⟨k + 1, hkn, by go_num, HR4, HB4⟩
    case measure => simp [intOf]; omega
  · obtain rfl : k = m := by omega
    have hall : (loadsY s).take k = loadsY s := List.take_of_length_le (by unfold loadsY; rw [List.length_map, ← HS.out.num, HM.out]; exact Nat.le_refl _); rw [hall] at HR; clear hall; go_wp2_with fail
    go_ret
    exact ⟨_, rfl, HR.out, HB.out⟩
set_option maxRecDepth 100000 in
theorem yleast_any (sb gb nb pb mb n : Nat) (cv : Value) (D : DataW Unit) (cbs : List Nat) (tb : Int → Nat) (own : Nat → Option Own) (s : Sy) (m : Int) (w : World)
 (h : SysAt w sb gb nb pb mb n cv D cbs tb own s) (hf : FitsY s) (h0 : 0 < cbs.length) (h16 : cbs.length ≤ 16) (hm : 0 ≤ m ∧ m < 65536) :
 Calls Tryz.prog 103 #[.pointer (some ⟨sb, 0, none⟩), .int .u16 m] w fun e W' => e = .returned (.int .i64 (leastL (loadsY s) m).1) ∧ Below w.heap.size w W' := by
 have hl := loads_any sb gb nb pb mb n cv D cbs tb own s w h hf h0 h16; have hlen : (loadsY s).length = cbs.length := by unfold loadsY; rw [List.length_map, h.num]
 generalize loadsY s = ls at hl hlen ⊢; rw [← hlen] at hl h0 h16; clear h hf hlen; go_enter Tryz.func103, Tryz.ntmps103; go_wp2_with fail
 refine hl.mono ?_; rintro e w1 ⟨v, rfl, hrow, hb⟩; obtain ⟨g, c, hv, hcell⟩ := ints_own hrow h0; subst hv; have hll := lleast_any g c ls m w1 hm h16 hcell; go_wp2_with fail
 refine hll.mono ?_; rintro e w2 ⟨rfl, hb2⟩; go_wp2_with fail
 go_ret
 exact ⟨rfl, hb.trans (hb2.mono hb.size)⟩
end Go.Proofs.YtoiajjobecinpaaGreat
