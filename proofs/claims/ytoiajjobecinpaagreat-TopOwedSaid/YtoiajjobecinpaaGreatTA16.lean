/- What each of a core is owed; how much its weights are. Items behind how many there are. -/
import Derived.Test.YtoiajjobecinpaaGreatTA13
set_option maxHeartbeats 4000000
namespace Go.Proofs.YtoiajjobecinpaaGreat
open Go.RowKit Go.Shelf Go.Lib Go.Proofs
set_option linter.unusedVariables false
set_option linter.unusedSimpArgs false
def sumW (its : List It) : Int := its.foldl (fun s x => s + x.w) 0
theorem sumW_take (its : List It) (k : Nat) (hk : k < its.length) (x : It) (hx : its[k]! = x) : sumW (its.take (k + 1)) = sumW (its.take k) + x.w := by
 unfold sumW; rw [List.take_succ_eq_append_getElem hk, List.foldl_append, ← hx, getElem!_pos its k hk]; rfl
theorem sumW_le (its : List It) (k : Nat) (h : ∀ x ∈ its, 0 ≤ x.w ∧ x.w ≤ 20) : 0 ≤ sumW (its.take k) ∧ sumW (its.take k) ≤ k * 20 := by
 have gen : ∀ (l : List It) (z : Int), (∀ x ∈ l, 0 ≤ x.w ∧ x.w ≤ 20) → z ≤ l.foldl (fun s x => s + x.w) z ∧ l.foldl (fun s x => s + x.w) z ≤ z + l.length * 20 := by
  intro l; induction l with
  | nil => intro z _; simp
  | cons q l ih =>
   intro z hz; have h1 := hz q (by simp); have h2 := ih (z + q.w) (fun p hp => hz p (by simp [hp])); simp only [List.foldl_cons, List.length_cons]; omega
 have h1 := gen (its.take k) 0 (fun x hx => h x (List.mem_of_mem_take hx)); have h2 : (its.take k).length ≤ k := List.length_take_le _ _; unfold sumW; omega
theorem flatI_get (its : List It) : ∀ k i v, k < its.length → (its[k]!).cells[i]? = some v → (flatI its)[k * 3 + i]? = some v := by
 induction its with
 | nil => intro k i v h; simp at h
 | cons p l ih =>
  intro k i v h hv; cases k with
  | zero =>
   have hi : i < p.cells.length := (List.getElem?_eq_some_iff.1 hv).1; rw [show 0 * 3 + i = i from by omega]; rw [flatI, List.getElem?_append_left hi]; simpa using hv
  | succ k =>
   rw [flatI, List.getElem?_append_right (by simp [It.cells]; omega)]; have := ih k i v (by simpa using h) (by simpa using hv); rw [show (k + 1) * 3 + i - p.cells.length = k * 3 + i from by simp [It.cells]; omega]; exact this
theorem irow_cells {W : World} {B g n c : Nat} {its : List It} (h : W.ownsRow B 77 3 (.slice (some ⟨g, 0, none⟩) n c) its.length (flatI its)) (j : Nat) (hj : j < its.length) (x : It) (hx : its[j]! = x) :
 W.cell? ⟨g, j * 3, none⟩ = some (.int .i64 x.id) ∧ W.cell? ⟨g, j * 3 + 1, none⟩ = some (.int .i64 x.w) ∧ W.cell? ⟨g, j * 3 + 2, none⟩ = some (.int .i64 x.lag) := by
 subst hx; have key : ∀ i v, (its[j]!).cells[i]? = some v → W.cell? ⟨g, j * 3 + i, none⟩ = some v := fun i v hi => by
  have := h.cells (g := g) rfl _ _ (flatI_get its j i v hj hi); simpa [Addr.add_lit] using this
 exact ⟨key 0 _ rfl, key 1 _ rfl, key 2 _ rfl⟩
theorem fld1 (a : Int) (x : Option Addr) (n c : Nat) (W : World) : Sem.run Tryz.prog (Instr.field 70 (Value.agg #[.int .i64 a, .slice x n c]) 1) W = Result.ok (.slice x n c) W := by kernel_rfl
theorem formL_w (l : Ln) (hf : Fits l) : ∀ x ∈ formL l, 0 ≤ x.w ∧ x.w ≤ 20 := by
 intro x hx; unfold formL at hx; obtain ⟨p, hp, rfl⟩ := List.mem_map.1 hx; exact (hf.2.2.2 p hp).2
set_option maxRecDepth 100000 in
theorem cform_stride (cb : Nat) (F : Nat → Prop) (c : Co) (W : World) (h : CoreIn W cb F c) (hf : Fits c.l) (ht : c.tag = 0) :
 Calls Tryz.prog 89 #[.pointer (some ⟨cb, 0, none⟩)] W (FormP W c.l.cur (formL c.l)) := by
 have h' := h.below (((Below.refl _ W).alloc (Nat.le_refl _) (.cells #[.int .i64 0, .slice none 0 0] 70))); obtain ⟨qb, G, c0, hQ, hGF, hback⟩ := h'.q; obtain ⟨lb, v, q0, hL, -, hq⟩ := hQ.line; have HQT : Hid (qty c.tag = 235) := lH (by rw [ht]; unfold qty; simp); rw [HQT.out] at q0; have hmeth := fun W' => meth_Form_stride (.pointer (some ⟨lb, 0, none⟩)) W'; have hform := qform_stride lb v c.l _ hL hf; have hcl := h.lt cb h.here; obtain ⟨qb2, mb2, n2, idle2, G2, D2, a1, a2, a3, a4, a5, a6, a7, a8, a9, a10, a11, a12, a13⟩ := h; have e0 : (W.alloc (.cells #[.int .i64 0, .slice none 0 0] 70)).cell? ⟨cb, 0, none⟩ = some (.pointer (some ⟨qb2, 0, none⟩)) := c2a _ a1; have eq : qb2 = qb := by
  rw [e0] at c0; simpa using c0
 subst eq; have hql := a6.lt qb2 (by obtain ⟨lb', v', b1, b2, b3, b4, b5, b6⟩ := a6; exact b5); have q1 : W.cell? ⟨qb2, 0, none⟩ = some (.iface 235 (.pointer (some ⟨lb, 0, none⟩))) := (World.cell?_of_block (a := ⟨qb2, 0, none⟩) (Below.heap_alloc W _ _ hql)).symm.trans q0; generalize formL c.l = its at hform ⊢; generalize c.l.cur = cur at hform ⊢; clear h' hf ht hQ hGF hback hq hL a2 a3 a4 a5 a6 a7 a8 a9 a10 a11 a12 a13 e0 c0 q0; go_enter Tryz.func89, Tryz.ntmps89; go_wp2_with fail
 refine hform.mono ?_; rintro e w' ⟨v', rfl, hrow, hb⟩; obtain ⟨sa, sn, sc, rfl⟩ : ∃ a n c, v' = .slice a n c := by
  rcases hrow.2 with ⟨rfl, _⟩ | ⟨g, cap, cur, rfl, _⟩
  · exact ⟨_, _, _, rfl⟩
  · exact ⟨_, _, _, rfl⟩
 have hres : w'.heap[W.heap.size]? = some (.cells #[.int .i64 0, .slice none 0 0] 70 (0, 0)) := (hb.block _ (by simp)).trans (heap_alloc_new W _)
 have g0 : w'.cell? ⟨W.heap.size, 0, none⟩ = some (.int .i64 0) := by simp only [World.cell?, hres]; rfl
 have g1 : w'.cell? ⟨W.heap.size, 1, none⟩ = some (.slice none 0 0) := by simp only [World.cell?, hres]; rfl
 have f0 : w'.frozen? ⟨W.heap.size, 0, none⟩ = false := by simp only [World.frozen?, hres]; simp
 have f1 : w'.frozen? ⟨W.heap.size, 1, none⟩ = false := by simp only [World.frozen?, hres]; simp
 have HG0 : Hid (((w'.setCell ⟨W.heap.size, 0, none⟩ (.int .i64 cur)).setCell ⟨W.heap.size, 1, none⟩ (.slice sa sn sc)).cell? ⟨W.heap.size, 0, none⟩ = some (.int .i64 cur)) :=
  lH (by rw [cell_setCell_ne _ (by simp)]; exact World.cell?_setCell_same _ _ _ g0)
 have HG1 : Hid (((w'.setCell ⟨W.heap.size, 0, none⟩ (.int .i64 cur)).setCell ⟨W.heap.size, 1, none⟩ (.slice sa sn sc)).cell? ⟨W.heap.size, 1, none⟩ = some (.slice sa sn sc)) :=
  lH (World.cell?_setCell_same _ _ _ (by rw [cell_setCell_ne _ (by simp)]; exact g1))
 have HROW : Hid (((w'.setCell ⟨W.heap.size, 0, none⟩ (.int .i64 cur)).setCell ⟨W.heap.size, 1, none⟩ (.slice sa sn sc)).ownsRow W.heap.size 77 3 (.slice sa sn sc) its.length (flatI its)) := by
  refine lH (ownsRow_base (ownsRow_same hrow (fun j hj => ?_)) (by simp)); have := (hrow.lt j hj).1; simp at this; rw [Below.heap_setCell _ _ _ _ (by simp; omega), Below.heap_setCell _ _ _ _ (by simp; omega)]
 have HB := lH hb; clear hrow hb hres; go_wp2
 exact bodyPost_ret (v := .agg #[.int .i64 cur, .slice sa sn sc]) (by simp [results, Tryz.results89, go_sem, HG0.out, HG1.out]) rfl ⟨_, rfl, HROW.out, ((((Below.refl _ _).alloc (Nat.le_refl _) _).trans (HB.out.mono (by simp))).setCell (by simp) _).setCell (by simp) _⟩
set_option maxRecDepth 100000 in
theorem cload_stride (cb : Nat) (F : Nat → Prop) (c : Co) (W : World) (h : CoreIn W cb F c) (hf : Fits c.l) (ht : c.tag = 0) :
 Calls Tryz.prog 163 #[.pointer (some ⟨cb, 0, none⟩)] W fun e w' => e = .returned (.int .i64 (sumW (formL c.l))) ∧ Below W.heap.size W w' := by
 obtain ⟨qb, G, c0, hQ, hGF, hback⟩ := h.q; obtain ⟨lb, v, q0, hL, -, hq⟩ := hQ.line; have HQT : Hid (qty c.tag = 235) := lH (by rw [ht]; unfold qty; simp); rw [HQT.out] at q0; have hmeth := fun W' => meth_Form_stride (.pointer (some ⟨lb, 0, none⟩)) W'; have hform := qform_stride lb v c.l _ hL hf; have hw := formL_w c.l hf; have hlen : (formL c.l).length ≤ 64 := by unfold formL; rw [List.length_map]; exact hf.1
 generalize formL c.l = its at hform hw hlen ⊢; generalize c.l.cur = cur at hform; have HW := lH hw; clear h hf ht hQ hGF hback hq hL hw; go_enter Tryz.func163, Tryz.ntmps163; go_wp2_with fail
 refine hform.mono ?_; rintro e w1 ⟨v', rfl, hrow, hb⟩; obtain ⟨n, hn⟩ : ∃ n, its.length = n := ⟨_, rfl⟩
 obtain ⟨sa, sc, rfl⟩ : ∃ a c, v' = .slice a n c := by
  rcases hrow.2 with ⟨rfl, h0⟩ | ⟨g, cap, cur, rfl, _⟩
  · exact ⟨none, 0, by rw [← hn, h0]⟩
  · exact ⟨_, _, by rw [← hn]⟩
 have HROW := lH hrow; have HN := lH hn; have HB := lH hb; rw [hn] at hlen; have hfld := fld1 cur sa n sc w1; clear hrow hn hb; go_wp2_with fail
 go_loopw [3, 16] (fun s x wr => ∃ k : Nat, k ≤ n ∧ x = .int .i64 k ∧ s = .int .i64 (sumW (its.take k)) ∧ Hid (Below w1.heap.size w1 wr)) (fun _ x _ => n - (intOf x).toNat)
 case atStart => exact ⟨0, Nat.zero_le _, rfl, rfl, lH (Below.refl _ _)⟩
 case round =>
  obtain ⟨k, hk, rfl, rfl, HBR⟩ := hrel; have hs := sumW_le its k HW.out; by_cases hkn : k < n
  · have hrow := HROW.out; have hkl : k < its.length := by rw [HN.out]; exact hkn
    obtain ⟨g, cap, hg⟩ : ∃ g cap, (Value.slice sa n sc) = .slice (some ⟨g, 0, none⟩) n cap := by
     rcases hrow.2 with ⟨e, h0⟩ | ⟨g, cap, cur, e, _⟩
     · omega
     · rw [HN.out] at e; exact ⟨_, _, e⟩
    simp only [Value.slice.injEq, true_and] at hg; obtain ⟨rfl, rfl⟩ := hg; obtain ⟨x, hx⟩ : ∃ x, its[k]! = x := ⟨_, rfl⟩
    have hgl := (hrow.lt g rfl).2; obtain ⟨c1, c2, c3⟩ := irow_cells (W := wr) (ownsRow_same hrow (fun j hj => HBR.out.block j (hrow.lt j hj).2)) k hkl x hx; have hx2 := HW.out x (by rw [← hx, getElem!_pos its k hkl]; exact List.getElem_mem hkl); have hst := sumW_take its k hkl x hx; have hgl2 : g < wr.heap.size := Nat.lt_of_lt_of_le hgl HBR.out.size; have hbz := HBR.out.size; obtain ⟨i, ww, lag⟩ := x; simp only at c1 c2 c3 hx2 hst; obtain ⟨x1, x2⟩ := hx2; obtain ⟨sm, hsm⟩ : ∃ y, sumW (its.take k) = y := ⟨_, rfl⟩
    rw [hsm] at hs hst ⊢; obtain ⟨s1, s2⟩ := hs; have HST := lH hst; have hk1 : (k : Int) < (n : Int) := by omega
    have hk0 : 0 ≤ (k : Int) := by omega
    clear hrow hx hst hsm; go_wp2_with fail
    go_roundw
    case rel => exact ⟨k + 1, hkn, by go_num, by rw [HST.out], lH (HBR.out.alloc hbz _)⟩
    case measure => simp [intOf]; omega
  · obtain rfl : k = n := by omega
    have htk : its.take k = its := List.take_of_length_le (by rw [HN.out]; exact Nat.le_refl _); rw [htk]; obtain ⟨sm, hsm⟩ : ∃ y, sumW its = y := ⟨_, rfl⟩
    rw [hsm]; have HSM := lH hsm; clear htk hs hsm; go_wp2_with fail
    go_ret
    exact ⟨by rw [HSM.out]; rfl, HB.out.trans (HBR.out.mono HB.out.size)⟩
set_option maxRecDepth 100000 in
theorem cform_fair (cb : Nat) (F : Nat → Prop) (c : Co) (W : World) (h : CoreIn W cb F c) (hf : Fits c.l) (ht : c.tag = 1) :
 Calls Tryz.prog 89 #[.pointer (some ⟨cb, 0, none⟩)] W (FormP W c.l.cur (formL c.l)) := by
 have h' := h.below (((Below.refl _ W).alloc (Nat.le_refl _) (.cells #[.int .i64 0, .slice none 0 0] 70))); obtain ⟨qb, G, c0, hQ, hGF, hback⟩ := h'.q; obtain ⟨lb, v, q0, hL, -, hq⟩ := hQ.line; have HQT : Hid (qty c.tag = 239) := lH (by rw [ht]; unfold qty; simp); rw [HQT.out] at q0; have hmeth := fun W' => meth_Form_fair (.pointer (some ⟨lb, 0, none⟩)) W'; have hform := qform_fair lb v c.l _ hL hf; have hcl := h.lt cb h.here; obtain ⟨qb2, mb2, n2, idle2, G2, D2, a1, a2, a3, a4, a5, a6, a7, a8, a9, a10, a11, a12, a13⟩ := h; have e0 : (W.alloc (.cells #[.int .i64 0, .slice none 0 0] 70)).cell? ⟨cb, 0, none⟩ = some (.pointer (some ⟨qb2, 0, none⟩)) := c2a _ a1; have eq : qb2 = qb := by
  rw [e0] at c0; simpa using c0
 subst eq; have hql := a6.lt qb2 (by obtain ⟨lb', v', b1, b2, b3, b4, b5, b6⟩ := a6; exact b5); have q1 : W.cell? ⟨qb2, 0, none⟩ = some (.iface 239 (.pointer (some ⟨lb, 0, none⟩))) := (World.cell?_of_block (a := ⟨qb2, 0, none⟩) (Below.heap_alloc W _ _ hql)).symm.trans q0; generalize formL c.l = its at hform ⊢; generalize c.l.cur = cur at hform ⊢; clear h' hf ht hQ hGF hback hq hL a2 a3 a4 a5 a6 a7 a8 a9 a10 a11 a12 a13 e0 c0 q0; go_enter Tryz.func89, Tryz.ntmps89; go_wp2_with fail
 refine hform.mono ?_; rintro e w' ⟨v', rfl, hrow, hb⟩; obtain ⟨sa, sn, sc, rfl⟩ : ∃ a n c, v' = .slice a n c := by
  rcases hrow.2 with ⟨rfl, _⟩ | ⟨g, cap, cur, rfl, _⟩
  · exact ⟨_, _, _, rfl⟩
  · exact ⟨_, _, _, rfl⟩
 have hres : w'.heap[W.heap.size]? = some (.cells #[.int .i64 0, .slice none 0 0] 70 (0, 0)) := (hb.block _ (by simp)).trans (heap_alloc_new W _)
 have g0 : w'.cell? ⟨W.heap.size, 0, none⟩ = some (.int .i64 0) := by simp only [World.cell?, hres]; rfl
 have g1 : w'.cell? ⟨W.heap.size, 1, none⟩ = some (.slice none 0 0) := by simp only [World.cell?, hres]; rfl
 have f0 : w'.frozen? ⟨W.heap.size, 0, none⟩ = false := by simp only [World.frozen?, hres]; simp
 have f1 : w'.frozen? ⟨W.heap.size, 1, none⟩ = false := by simp only [World.frozen?, hres]; simp
 have HG0 : Hid (((w'.setCell ⟨W.heap.size, 0, none⟩ (.int .i64 cur)).setCell ⟨W.heap.size, 1, none⟩ (.slice sa sn sc)).cell? ⟨W.heap.size, 0, none⟩ = some (.int .i64 cur)) :=
  lH (by rw [cell_setCell_ne _ (by simp)]; exact World.cell?_setCell_same _ _ _ g0)
 have HG1 : Hid (((w'.setCell ⟨W.heap.size, 0, none⟩ (.int .i64 cur)).setCell ⟨W.heap.size, 1, none⟩ (.slice sa sn sc)).cell? ⟨W.heap.size, 1, none⟩ = some (.slice sa sn sc)) :=
  lH (World.cell?_setCell_same _ _ _ (by rw [cell_setCell_ne _ (by simp)]; exact g1))
 have HROW : Hid (((w'.setCell ⟨W.heap.size, 0, none⟩ (.int .i64 cur)).setCell ⟨W.heap.size, 1, none⟩ (.slice sa sn sc)).ownsRow W.heap.size 77 3 (.slice sa sn sc) its.length (flatI its)) := by
  refine lH (ownsRow_base (ownsRow_same hrow (fun j hj => ?_)) (by simp)); have := (hrow.lt j hj).1; simp at this; rw [Below.heap_setCell _ _ _ _ (by simp; omega), Below.heap_setCell _ _ _ _ (by simp; omega)]
 have HB := lH hb; clear hrow hb hres; go_wp2
 exact bodyPost_ret (v := .agg #[.int .i64 cur, .slice sa sn sc]) (by simp [results, Tryz.results89, go_sem, HG0.out, HG1.out]) rfl ⟨_, rfl, HROW.out, ((((Below.refl _ _).alloc (Nat.le_refl _) _).trans (HB.out.mono (by simp))).setCell (by simp) _).setCell (by simp) _⟩
set_option maxRecDepth 100000 in
theorem cload_fair (cb : Nat) (F : Nat → Prop) (c : Co) (W : World) (h : CoreIn W cb F c) (hf : Fits c.l) (ht : c.tag = 1) :
 Calls Tryz.prog 163 #[.pointer (some ⟨cb, 0, none⟩)] W fun e w' => e = .returned (.int .i64 (sumW (formL c.l))) ∧ Below W.heap.size W w' := by
 obtain ⟨qb, G, c0, hQ, hGF, hback⟩ := h.q; obtain ⟨lb, v, q0, hL, -, hq⟩ := hQ.line; have HQT : Hid (qty c.tag = 239) := lH (by rw [ht]; unfold qty; simp); rw [HQT.out] at q0; have hmeth := fun W' => meth_Form_fair (.pointer (some ⟨lb, 0, none⟩)) W'; have hform := qform_fair lb v c.l _ hL hf; have hw := formL_w c.l hf; have hlen : (formL c.l).length ≤ 64 := by unfold formL; rw [List.length_map]; exact hf.1
 generalize formL c.l = its at hform hw hlen ⊢; generalize c.l.cur = cur at hform; have HW := lH hw; clear h hf ht hQ hGF hback hq hL hw; go_enter Tryz.func163, Tryz.ntmps163; go_wp2_with fail
 refine hform.mono ?_; rintro e w1 ⟨v', rfl, hrow, hb⟩; obtain ⟨n, hn⟩ : ∃ n, its.length = n := ⟨_, rfl⟩
 obtain ⟨sa, sc, rfl⟩ : ∃ a c, v' = .slice a n c := by
  rcases hrow.2 with ⟨rfl, h0⟩ | ⟨g, cap, cur, rfl, _⟩
  · exact ⟨none, 0, by rw [← hn, h0]⟩
  · exact ⟨_, _, by rw [← hn]⟩
 have HROW := lH hrow; have HN := lH hn; have HB := lH hb; rw [hn] at hlen; have hfld := fld1 cur sa n sc w1; clear hrow hn hb; go_wp2_with fail
 go_loopw [3, 16] (fun s x wr => ∃ k : Nat, k ≤ n ∧ x = .int .i64 k ∧ s = .int .i64 (sumW (its.take k)) ∧ Hid (Below w1.heap.size w1 wr)) (fun _ x _ => n - (intOf x).toNat)
 case atStart => exact ⟨0, Nat.zero_le _, rfl, rfl, lH (Below.refl _ _)⟩
 case round =>
  obtain ⟨k, hk, rfl, rfl, HBR⟩ := hrel; have hs := sumW_le its k HW.out; by_cases hkn : k < n
  · have hrow := HROW.out; have hkl : k < its.length := by rw [HN.out]; exact hkn
    obtain ⟨g, cap, hg⟩ : ∃ g cap, (Value.slice sa n sc) = .slice (some ⟨g, 0, none⟩) n cap := by
     rcases hrow.2 with ⟨e, h0⟩ | ⟨g, cap, cur, e, _⟩
     · omega
     · rw [HN.out] at e; exact ⟨_, _, e⟩
    simp only [Value.slice.injEq, true_and] at hg; obtain ⟨rfl, rfl⟩ := hg; obtain ⟨x, hx⟩ : ∃ x, its[k]! = x := ⟨_, rfl⟩
    have hgl := (hrow.lt g rfl).2; obtain ⟨c1, c2, c3⟩ := irow_cells (W := wr) (ownsRow_same hrow (fun j hj => HBR.out.block j (hrow.lt j hj).2)) k hkl x hx; have hx2 := HW.out x (by rw [← hx, getElem!_pos its k hkl]; exact List.getElem_mem hkl); have hst := sumW_take its k hkl x hx; have hgl2 : g < wr.heap.size := Nat.lt_of_lt_of_le hgl HBR.out.size; have hbz := HBR.out.size; obtain ⟨i, ww, lag⟩ := x; simp only at c1 c2 c3 hx2 hst; obtain ⟨x1, x2⟩ := hx2; obtain ⟨sm, hsm⟩ : ∃ y, sumW (its.take k) = y := ⟨_, rfl⟩
    rw [hsm] at hs hst ⊢; obtain ⟨s1, s2⟩ := hs; have HST := lH hst; have hk1 : (k : Int) < (n : Int) := by omega
    have hk0 : 0 ≤ (k : Int) := by omega
    clear hrow hx hst hsm; go_wp2_with fail
    go_roundw
    case rel => exact ⟨k + 1, hkn, by go_num, by rw [HST.out], lH (HBR.out.alloc hbz _)⟩
    case measure => simp [intOf]; omega
  · obtain rfl : k = n := by omega
    have htk : its.take k = its := List.take_of_length_le (by rw [HN.out]; exact Nat.le_refl _); rw [htk]; obtain ⟨sm, hsm⟩ : ∃ y, sumW its = y := ⟨_, rfl⟩
    rw [hsm]; have HSM := lH hsm; clear htk hs hsm; go_wp2_with fail
    go_ret
    exact ⟨by rw [HSM.out]; rfl, HB.out.trans (HBR.out.mono HB.out.size)⟩
set_option maxRecDepth 100000 in
theorem cform_due (cb : Nat) (F : Nat → Prop) (c : Co) (W : World) (h : CoreIn W cb F c) (hf : Fits c.l) (ht : c.tag = 2) :
 Calls Tryz.prog 89 #[.pointer (some ⟨cb, 0, none⟩)] W (FormP W c.l.cur (formL c.l)) := by
 have h' := h.below (((Below.refl _ W).alloc (Nat.le_refl _) (.cells #[.int .i64 0, .slice none 0 0] 70))); obtain ⟨qb, G, c0, hQ, hGF, hback⟩ := h'.q; obtain ⟨lb, v, q0, hL, -, hq⟩ := hQ.line; have HQT : Hid (qty c.tag = 242) := lH (by rw [ht]; unfold qty; simp); rw [HQT.out] at q0; have hmeth := fun W' => meth_Form_due (.pointer (some ⟨lb, 0, none⟩)) W'; have hform := qform_due lb v c.l _ hL hf; have hcl := h.lt cb h.here; obtain ⟨qb2, mb2, n2, idle2, G2, D2, a1, a2, a3, a4, a5, a6, a7, a8, a9, a10, a11, a12, a13⟩ := h; have e0 : (W.alloc (.cells #[.int .i64 0, .slice none 0 0] 70)).cell? ⟨cb, 0, none⟩ = some (.pointer (some ⟨qb2, 0, none⟩)) := c2a _ a1; have eq : qb2 = qb := by
  rw [e0] at c0; simpa using c0
 subst eq; have hql := a6.lt qb2 (by obtain ⟨lb', v', b1, b2, b3, b4, b5, b6⟩ := a6; exact b5); have q1 : W.cell? ⟨qb2, 0, none⟩ = some (.iface 242 (.pointer (some ⟨lb, 0, none⟩))) := (World.cell?_of_block (a := ⟨qb2, 0, none⟩) (Below.heap_alloc W _ _ hql)).symm.trans q0; generalize formL c.l = its at hform ⊢; generalize c.l.cur = cur at hform ⊢; clear h' hf ht hQ hGF hback hq hL a2 a3 a4 a5 a6 a7 a8 a9 a10 a11 a12 a13 e0 c0 q0; go_enter Tryz.func89, Tryz.ntmps89; go_wp2_with fail
 refine hform.mono ?_; rintro e w' ⟨v', rfl, hrow, hb⟩; obtain ⟨sa, sn, sc, rfl⟩ : ∃ a n c, v' = .slice a n c := by
  rcases hrow.2 with ⟨rfl, _⟩ | ⟨g, cap, cur, rfl, _⟩
  · exact ⟨_, _, _, rfl⟩
  · exact ⟨_, _, _, rfl⟩
 have hres : w'.heap[W.heap.size]? = some (.cells #[.int .i64 0, .slice none 0 0] 70 (0, 0)) := (hb.block _ (by simp)).trans (heap_alloc_new W _)
 have g0 : w'.cell? ⟨W.heap.size, 0, none⟩ = some (.int .i64 0) := by simp only [World.cell?, hres]; rfl
 have g1 : w'.cell? ⟨W.heap.size, 1, none⟩ = some (.slice none 0 0) := by simp only [World.cell?, hres]; rfl
 have f0 : w'.frozen? ⟨W.heap.size, 0, none⟩ = false := by simp only [World.frozen?, hres]; simp
 have f1 : w'.frozen? ⟨W.heap.size, 1, none⟩ = false := by simp only [World.frozen?, hres]; simp
 have HG0 : Hid (((w'.setCell ⟨W.heap.size, 0, none⟩ (.int .i64 cur)).setCell ⟨W.heap.size, 1, none⟩ (.slice sa sn sc)).cell? ⟨W.heap.size, 0, none⟩ = some (.int .i64 cur)) :=
  lH (by rw [cell_setCell_ne _ (by simp)]; exact World.cell?_setCell_same _ _ _ g0)
 have HG1 : Hid (((w'.setCell ⟨W.heap.size, 0, none⟩ (.int .i64 cur)).setCell ⟨W.heap.size, 1, none⟩ (.slice sa sn sc)).cell? ⟨W.heap.size, 1, none⟩ = some (.slice sa sn sc)) :=
  lH (World.cell?_setCell_same _ _ _ (by rw [cell_setCell_ne _ (by simp)]; exact g1))
 have HROW : Hid (((w'.setCell ⟨W.heap.size, 0, none⟩ (.int .i64 cur)).setCell ⟨W.heap.size, 1, none⟩ (.slice sa sn sc)).ownsRow W.heap.size 77 3 (.slice sa sn sc) its.length (flatI its)) := by
  refine lH (ownsRow_base (ownsRow_same hrow (fun j hj => ?_)) (by simp)); have := (hrow.lt j hj).1; simp at this; rw [Below.heap_setCell _ _ _ _ (by simp; omega), Below.heap_setCell _ _ _ _ (by simp; omega)]
 have HB := lH hb; clear hrow hb hres; go_wp2
 exact bodyPost_ret (v := .agg #[.int .i64 cur, .slice sa sn sc]) (by simp [results, Tryz.results89, go_sem, HG0.out, HG1.out]) rfl ⟨_, rfl, HROW.out, ((((Below.refl _ _).alloc (Nat.le_refl _) _).trans (HB.out.mono (by simp))).setCell (by simp) _).setCell (by simp) _⟩
set_option maxRecDepth 100000 in
theorem cload_due (cb : Nat) (F : Nat → Prop) (c : Co) (W : World) (h : CoreIn W cb F c) (hf : Fits c.l) (ht : c.tag = 2) :
 Calls Tryz.prog 163 #[.pointer (some ⟨cb, 0, none⟩)] W fun e w' => e = .returned (.int .i64 (sumW (formL c.l))) ∧ Below W.heap.size W w' := by
 obtain ⟨qb, G, c0, hQ, hGF, hback⟩ := h.q; obtain ⟨lb, v, q0, hL, -, hq⟩ := hQ.line; have HQT : Hid (qty c.tag = 242) := lH (by rw [ht]; unfold qty; simp); rw [HQT.out] at q0; have hmeth := fun W' => meth_Form_due (.pointer (some ⟨lb, 0, none⟩)) W'; have hform := qform_due lb v c.l _ hL hf; have hw := formL_w c.l hf; have hlen : (formL c.l).length ≤ 64 := by unfold formL; rw [List.length_map]; exact hf.1
 generalize formL c.l = its at hform hw hlen ⊢; generalize c.l.cur = cur at hform; have HW := lH hw; clear h hf ht hQ hGF hback hq hL hw; go_enter Tryz.func163, Tryz.ntmps163; go_wp2_with fail
 refine hform.mono ?_; rintro e w1 ⟨v', rfl, hrow, hb⟩; obtain ⟨n, hn⟩ : ∃ n, its.length = n := ⟨_, rfl⟩
 obtain ⟨sa, sc, rfl⟩ : ∃ a c, v' = .slice a n c := by
  rcases hrow.2 with ⟨rfl, h0⟩ | ⟨g, cap, cur, rfl, _⟩
  · exact ⟨none, 0, by rw [← hn, h0]⟩
  · exact ⟨_, _, by rw [← hn]⟩
 have HROW := lH hrow; have HN := lH hn; have HB := lH hb; rw [hn] at hlen; have hfld := fld1 cur sa n sc w1; clear hrow hn hb; go_wp2_with fail
 go_loopw [3, 16] (fun s x wr => ∃ k : Nat, k ≤ n ∧ x = .int .i64 k ∧ s = .int .i64 (sumW (its.take k)) ∧ Hid (Below w1.heap.size w1 wr)) (fun _ x _ => n - (intOf x).toNat)
 case atStart => exact ⟨0, Nat.zero_le _, rfl, rfl, lH (Below.refl _ _)⟩
 case round =>
  obtain ⟨k, hk, rfl, rfl, HBR⟩ := hrel; have hs := sumW_le its k HW.out; by_cases hkn : k < n
  · have hrow := HROW.out; have hkl : k < its.length := by rw [HN.out]; exact hkn
    obtain ⟨g, cap, hg⟩ : ∃ g cap, (Value.slice sa n sc) = .slice (some ⟨g, 0, none⟩) n cap := by
     rcases hrow.2 with ⟨e, h0⟩ | ⟨g, cap, cur, e, _⟩
     · omega
     · rw [HN.out] at e; exact ⟨_, _, e⟩
    simp only [Value.slice.injEq, true_and] at hg; obtain ⟨rfl, rfl⟩ := hg; obtain ⟨x, hx⟩ : ∃ x, its[k]! = x := ⟨_, rfl⟩
    have hgl := (hrow.lt g rfl).2; obtain ⟨c1, c2, c3⟩ := irow_cells (W := wr) (ownsRow_same hrow (fun j hj => HBR.out.block j (hrow.lt j hj).2)) k hkl x hx; have hx2 := HW.out x (by rw [← hx, getElem!_pos its k hkl]; exact List.getElem_mem hkl); have hst := sumW_take its k hkl x hx; have hgl2 : g < wr.heap.size := Nat.lt_of_lt_of_le hgl HBR.out.size; have hbz := HBR.out.size; obtain ⟨i, ww, lag⟩ := x; simp only at c1 c2 c3 hx2 hst; obtain ⟨x1, x2⟩ := hx2; obtain ⟨sm, hsm⟩ : ∃ y, sumW (its.take k) = y := ⟨_, rfl⟩
    rw [hsm] at hs hst ⊢; obtain ⟨s1, s2⟩ := hs; have HST := lH hst; have hk1 : (k : Int) < (n : Int) := by omega
    have hk0 : 0 ≤ (k : Int) := by omega
    clear hrow hx hst hsm; go_wp2_with fail
    go_roundw
    case rel => exact ⟨k + 1, hkn, by go_num, by rw [HST.out], lH (HBR.out.alloc hbz _)⟩
    case measure => simp [intOf]; omega
  · obtain rfl : k = n := by omega
    have htk : its.take k = its := List.take_of_length_le (by rw [HN.out]; exact Nat.le_refl _); rw [htk]; obtain ⟨sm, hsm⟩ : ∃ y, sumW its = y := ⟨_, rfl⟩
    rw [hsm]; have HSM := lH hsm; clear htk hs hsm; go_wp2_with fail
    go_ret
    exact ⟨by rw [HSM.out]; rfl, HB.out.trans (HBR.out.mono HB.out.size)⟩
theorem cform_any (cb : Nat) (F : Nat → Prop) (c : Co) (W : World) (h : CoreIn W cb F c) (hf : Fits c.l) :
 Calls Tryz.prog 89 #[.pointer (some ⟨cb, 0, none⟩)] W (FormP W c.l.cur (formL c.l)) := by
 obtain ⟨qb, G, c0, hQ, hGF, hback⟩ := h.q; obtain ⟨lb, v, q0, hL, ht, hq⟩ := hQ.line; rcases ht with ht | ht | ht
 · exact cform_stride cb F c W h hf ht
 · exact cform_fair cb F c W h hf ht
 · exact cform_due cb F c W h hf ht
theorem cload_any (cb : Nat) (F : Nat → Prop) (c : Co) (W : World) (h : CoreIn W cb F c) (hf : Fits c.l) :
 Calls Tryz.prog 163 #[.pointer (some ⟨cb, 0, none⟩)] W fun e w' => e = .returned (.int .i64 (sumW (formL c.l))) ∧ Below W.heap.size W w' := by
 obtain ⟨qb, G, c0, hQ, hGF, hback⟩ := h.q; obtain ⟨lb, v, q0, hL, ht, hq⟩ := hQ.line; rcases ht with ht | ht | ht
 · exact cload_stride cb F c W h hf ht
 · exact cload_fair cb F c W h hf ht
 · exact cload_due cb F c W h hf ht
section
attribute [local go_sem] Oper.semAt_some
def ItemsP (w : World) (e : Ending) (W' : World) : Prop :=
 ∃ (v : Value) (its : List It) (ok : Bool), e = .returned (.tuple #[v, .bool ok]) ∧ its.length ≤ 255 ∧ W'.ownsRow w.heap.size 77 3 v its.length (flatI its) ∧ Below w.heap.size w W'
theorem snocI {w7 : World} {B k g cap : Nat} {its : List It} {y1 y2 y3 : Int} (hk : its.length = k)
 (h : w7.ownsRow B 77 3 (.slice (some ⟨g, 0, none⟩) (k + 1) cap) (k + 1) (flatI its ++ [.int .i64 y1, .int .i64 y2, .int .i64 y3])) :
 ∃ its7 : List It, w7.ownsRow B 77 3 (.slice (some ⟨g, 0, none⟩) (k + 1) cap) (k + 1) (flatI its7) ∧ its7.length = k + 1 :=
 ⟨its ++ [⟨y1, y2, y3⟩], by rw [flatI_append]; simpa [flatI, It.cells] using h, by simp [hk]⟩
set_option maxRecDepth 100000 in
theorem items_false (a : Option Addr) (n c : Nat) (w : World) (h : BSl w a n) (hn : n ≤ 50000) (hc : n ≤ c) (hcm : c ≤ 9223372036854775807) :
 Calls Tryz.prog 231 #[.slice a n c, .bool false] w (ItemsP w) := by
 obtain ⟨j0, hj, hj0, hj1, hj2⟩ := info_parts info77; by_cases h1 : n < 1
 · have d1 : decide ((n : Int) < 1) = true := decide_eq_true (by omega); clear h; go_enter Tryz.func231, Tryz.ntmps231; go_wp2_with fail
   go_ret2
   exact ⟨_, [], _, rfl, by simp, World.ownsRow_nil .., Below.refl _ _⟩
 · have d1 : decide ((n : Int) < 1) = false := decide_eq_false (by omega); obtain ⟨g, i, x0, rfl, hx0, hx1, hxc⟩ := h.get 0 (by omega); rw [Nat.add_zero] at hxc; obtain ⟨N, rfl⟩ : ∃ N : Nat, x0 = N := ⟨x0.toNat, by omega⟩
   have hn0 : (0 : Int) < n := by omega
   have HS := lH h; cases hm : ((n : Int) - 1 != 3 * (N : Int)) with
   | true =>
    clear h; go_enter Tryz.func231, Tryz.ntmps231; go_wp2_with fail
    go_ret2
    exact ⟨_, [], _, rfl, by simp, World.ownsRow_nil .., Below.refl _ _⟩
   | false =>
    have hnN : n = 3 * N + 1 := by simp at hm; omega
    subst hnN; have hm2 : (((3 * N + 1 : Nat) : Int) - 1 != 3 * (N : Int)) = false := by rw [← hm]
    obtain ⟨a1, hs1, hsl1⟩ := sl_tail w (some ⟨g, i, none⟩) (3 * N + 1) c 1 h (by omega) hc; replace hs1 := hs1 w h; rw [show 3 * N + 1 - 1 = 3 * N from by omega] at hs1 hsl1; rw [show ((1 : Nat) : Int) = 1 from rfl] at hsl1; have HS1 := lH hs1; have hN : N ≤ 255 := by omega
    clear h hm hs1; go_enter Tryz.func231, Tryz.ntmps231; go_wp2_with fail
    go_loopw [0, 7] (fun b l wr => ∃ (k : Nat) (its : List It) (a' : Option Addr) (c' : Nat), k ≤ N ∧ b = .slice a' (3 * (N - k)) c' ∧ 3 * (N - k) ≤ c' ∧ c' ≤ 9223372036854775807 ∧ its.length = k ∧ Hid (BSl w a' (3 * (N - k))) ∧ Hid (wr.ownsRow w.heap.size 77 3 l k (flatI its)) ∧ Hid (Below w.heap.size w wr)) (fun b _ _ => lenB b)
    case atStart => exact ⟨0, [], _, _, Nat.zero_le _, rfl, by omega, by omega, rfl, HS1, lH (World.ownsRow_nil ..), lH (Below.refl _ _)⟩
    case round =>
     obtain ⟨k, its, a', c', hk, rfl, hc1', hc2', hik, HSR, HROW, HB⟩ := hrel; have HIK := lH hik; clear hik; by_cases hkN : k < N
     · obtain ⟨q, hq⟩ : ∃ q, N - k = q + 1 := ⟨N - k - 1, by omega⟩
       have HQ := lH hq; rw [hq] at HSR hc1' ⊢; have hq0 : (0 : Int) < ((3 * (q + 1) : Nat) : Int) := by omega
       have hqN : q < N := by omega
       clear hq; go_wp2_with fail
       refine (read_any a' (3 * (q + 1)) c' 2 _ (HSR.out.below HB.out) (by omega) (by omega) (by omega) (by omega) (by omega)).mono ?_; rintro e w4 ⟨y1, a4', rfl, hs4, hb4⟩; replace hs4 := hs4 w HSR.out; rw [show 3 * (q + 1) - 2 = 3 * q + 1 from by omega] at hs4 ⊢; obtain ⟨c4, hc4⟩ : ∃ c4, c' - 2 = c4 := ⟨_, rfl⟩
       rw [hc4]; have hz4 := hb4.size; have HB4 := lH (HB.out.trans (hb4.mono HB.out.size)); have HR4 := lH (ownsRow_same HROW.out (fun j hj => hb4.block j (HROW.out.lt j hj).2)); have hc4b : 3 * q + 1 ≤ c4 ∧ c4 ≤ 9223372036854775807 := by omega
       clear hc4 hb4; go_wp2_with fail
       refine (read_any a4' (3 * q + 1) c4 1 _ (hs4.below HB4.out) (by omega) (by omega) (by omega) (by omega) (by omega)).mono ?_; rintro e w5 ⟨y2, a5', rfl, hs5, hb5⟩; replace hs5 := hs5 w hs4; rw [show 3 * q + 1 - 1 = 3 * q from by omega] at hs5 ⊢; obtain ⟨c5, hc5⟩ : ∃ c5, c4 - 1 = c5 := ⟨_, rfl⟩
       rw [hc5]; have hz5 := hb5.size; have HB5 := lH (HB4.out.trans (hb5.mono HB4.out.size)); have HR5 := lH (ownsRow_same HR4.out (fun j hj => hb5.block j (HR4.out.lt j hj).2)); have hc5b : 3 * q ≤ c5 ∧ c5 ≤ 9223372036854775807 := by omega
       clear hc5 hb5 hs4; have HB6 := HB5; have HR6 := HR5; have hs6 := hs5; have HS6 := lH hs5; have hrow := HR6.out; have hzz := HB6.out.size; clear hs6; go_wp2_with (at_builtin; refine wpList_append_lies _ rfl _ _ 68 rfl w.heap.size 77 j0 (.agg #[.int .i64 0, .int .i64 0, .int .i64 0]) 3 24 Tryz.underlying68 hj hj0 hj1 hj2 rfl (by decide) _ k _ rfl (hrow.alloc _) ⟨w5.heap.size, 0, none⟩ 1 1 [.int .i64 y1, .int .i64 y2, .int .i64 _] rfl rfl (World.news_of_block (heap_alloc_new w5 _)) (by simp [Value.oneCell']) (by omega) (by unfold maxLen; omega) (by omega) (by simp; omega) (w5.heap.size + 1) (by simp) ?_; intro g7 cap7 w7 hown7 hgrow7 hat7 hlt7; obtain ⟨its7, hr7, hl7⟩ := snocI HIK.out hown7)
       have HB7 : Hid (Below w.heap.size w w7) := lH ((HB6.out.alloc (by omega) _).grown hgrow7 (by simp; omega) (fun j hj => (hrow.lt j hj).1)); have HR7 := lH hr7; clear hown7 hgrow7 hat7 hlt7 hrow hr7; go_roundw
       case rel => exact ⟨k + 1, its7, _, _, hkN, by rw [show N - (k + 1) = q from by have := HQ.out; omega], by rw [show N - (k + 1) = q from by have := HQ.out; omega]; omega, by omega, hl7, by rw [show N - (k + 1) = q from by have := HQ.out; omega]; exact HS6, HR7, HB7⟩
       case measure => simp [lenB]
     · obtain rfl : k = N := by omega
       rw [show 3 * (k - k) = 0 from by simp]; go_wp2_with fail
       go_ret2
       exact ⟨_, its, _, rfl, by rw [HIK.out]; omega, by rw [HIK.out]; exact HROW.out, HB.out⟩
set_option maxRecDepth 100000 in
theorem items_true (a : Option Addr) (n c : Nat) (w : World) (h : BSl w a n) (hn : n ≤ 50000) (hc : n ≤ c) (hcm : c ≤ 9223372036854775807) :
 Calls Tryz.prog 231 #[.slice a n c, .bool true] w (ItemsP w) := by
 obtain ⟨j0, hj, hj0, hj1, hj2⟩ := info_parts info77; by_cases h1 : n < 1
 · have d1 : decide ((n : Int) < 1) = true := decide_eq_true (by omega); clear h; go_enter Tryz.func231, Tryz.ntmps231; go_wp2_with fail
   go_ret2
   exact ⟨_, [], _, rfl, by simp, World.ownsRow_nil .., Below.refl _ _⟩
 · have d1 : decide ((n : Int) < 1) = false := decide_eq_false (by omega); obtain ⟨g, i, x0, rfl, hx0, hx1, hxc⟩ := h.get 0 (by omega); rw [Nat.add_zero] at hxc; obtain ⟨N, rfl⟩ : ∃ N : Nat, x0 = N := ⟨x0.toNat, by omega⟩
   have hn0 : (0 : Int) < n := by omega
   have HS := lH h; cases hm : ((n : Int) - 1 != 7 * (N : Int)) with
   | true =>
    clear h; go_enter Tryz.func231, Tryz.ntmps231; go_wp2_with fail
    go_ret2
    exact ⟨_, [], _, rfl, by simp, World.ownsRow_nil .., Below.refl _ _⟩
   | false =>
    have hnN : n = 7 * N + 1 := by simp at hm; omega
    subst hnN; have hm2 : (((7 * N + 1 : Nat) : Int) - 1 != 7 * (N : Int)) = false := by rw [← hm]
    obtain ⟨a1, hs1, hsl1⟩ := sl_tail w (some ⟨g, i, none⟩) (7 * N + 1) c 1 h (by omega) hc; replace hs1 := hs1 w h; rw [show 7 * N + 1 - 1 = 7 * N from by omega] at hs1 hsl1; rw [show ((1 : Nat) : Int) = 1 from rfl] at hsl1; have HS1 := lH hs1; have hN : N ≤ 255 := by omega
    clear h hm hs1; go_enter Tryz.func231, Tryz.ntmps231; go_wp2_with fail
    go_loopw [0, 7] (fun b l wr => ∃ (k : Nat) (its : List It) (a' : Option Addr) (c' : Nat), k ≤ N ∧ b = .slice a' (7 * (N - k)) c' ∧ 7 * (N - k) ≤ c' ∧ c' ≤ 9223372036854775807 ∧ its.length = k ∧ Hid (BSl w a' (7 * (N - k))) ∧ Hid (wr.ownsRow w.heap.size 77 3 l k (flatI its)) ∧ Hid (Below w.heap.size w wr)) (fun b _ _ => lenB b)
    case atStart => exact ⟨0, [], _, _, Nat.zero_le _, rfl, by omega, by omega, rfl, HS1, lH (World.ownsRow_nil ..), lH (Below.refl _ _)⟩
    case round =>
     obtain ⟨k, its, a', c', hk, rfl, hc1', hc2', hik, HSR, HROW, HB⟩ := hrel; have HIK := lH hik; clear hik; by_cases hkN : k < N
     · obtain ⟨q, hq⟩ : ∃ q, N - k = q + 1 := ⟨N - k - 1, by omega⟩
       have HQ := lH hq; rw [hq] at HSR hc1' ⊢; have hq0 : (0 : Int) < ((7 * (q + 1) : Nat) : Int) := by omega
       have hqN : q < N := by omega
       clear hq; go_wp2_with fail
       refine (read_any a' (7 * (q + 1)) c' 2 _ (HSR.out.below HB.out) (by omega) (by omega) (by omega) (by omega) (by omega)).mono ?_; rintro e w4 ⟨y1, a4', rfl, hs4, hb4⟩; replace hs4 := hs4 w HSR.out; rw [show 7 * (q + 1) - 2 = 7 * q + 5 from by omega] at hs4 ⊢; obtain ⟨c4, hc4⟩ : ∃ c4, c' - 2 = c4 := ⟨_, rfl⟩
       rw [hc4]; have hz4 := hb4.size; have HB4 := lH (HB.out.trans (hb4.mono HB.out.size)); have HR4 := lH (ownsRow_same HROW.out (fun j hj => hb4.block j (HROW.out.lt j hj).2)); have hc4b : 7 * q + 5 ≤ c4 ∧ c4 ≤ 9223372036854775807 := by omega
       clear hc4 hb4; go_wp2_with fail
       refine (read_any a4' (7 * q + 5) c4 1 _ (hs4.below HB4.out) (by omega) (by omega) (by omega) (by omega) (by omega)).mono ?_; rintro e w5 ⟨y2, a5', rfl, hs5, hb5⟩; replace hs5 := hs5 w hs4; rw [show 7 * q + 5 - 1 = 7 * q + 4 from by omega] at hs5 ⊢; obtain ⟨c5, hc5⟩ : ∃ c5, c4 - 1 = c5 := ⟨_, rfl⟩
       rw [hc5]; have hz5 := hb5.size; have HB5 := lH (HB4.out.trans (hb5.mono HB4.out.size)); have HR5 := lH (ownsRow_same HR4.out (fun j hj => hb5.block j (HR4.out.lt j hj).2)); have hc5b : 7 * q + 4 ≤ c5 ∧ c5 ≤ 9223372036854775807 := by omega
       clear hc5 hb5 hs4; go_wp2_with fail
       refine (read_any a5' (7 * q + 4) c5 4 _ (hs5.below HB5.out) (by omega) (by omega) (by omega) (by omega) (by omega)).mono ?_; rintro e w6 ⟨y3, a6', rfl, hs6, hb6⟩; replace hs6 := hs6 w hs5; rw [show 7 * q + 4 - 4 = 7 * q from by omega] at hs6 ⊢; obtain ⟨c6, hc6⟩ : ∃ c6, c5 - 4 = c6 := ⟨_, rfl⟩
       rw [hc6]; have hz6 := hb6.size; have HB6 := lH (HB5.out.trans (hb6.mono HB5.out.size)); have HR6 := lH (ownsRow_same HR5.out (fun j hj => hb6.block j (HR5.out.lt j hj).2)); have HS6 := lH hs6; have hc6b : 7 * q ≤ c6 ∧ c6 ≤ 9223372036854775807 := by omega
       clear hc6 hb6 hs5; have hrow := HR6.out; have hzz := HB6.out.size; clear hs6; go_wp2_with (at_builtin; refine wpList_append_lies _ rfl _ _ 68 rfl w.heap.size 77 j0 (.agg #[.int .i64 0, .int .i64 0, .int .i64 0]) 3 24 Tryz.underlying68 hj hj0 hj1 hj2 rfl (by decide) _ k _ rfl (hrow.alloc _) ⟨w6.heap.size, 0, none⟩ 1 1 [.int .i64 y1, .int .i64 y2, .int .i64 _] rfl rfl (World.news_of_block (heap_alloc_new w6 _)) (by simp [Value.oneCell']) (by omega) (by unfold maxLen; omega) (by omega) (by simp; omega) (w6.heap.size + 1) (by simp) ?_; intro g7 cap7 w7 hown7 hgrow7 hat7 hlt7; obtain ⟨its7, hr7, hl7⟩ := snocI HIK.out hown7)
       have HB7 : Hid (Below w.heap.size w w7) := lH ((HB6.out.alloc (by omega) _).grown hgrow7 (by simp; omega) (fun j hj => (hrow.lt j hj).1)); have HR7 := lH hr7; clear hown7 hgrow7 hat7 hlt7 hrow hr7; go_roundw
       case rel => exact ⟨k + 1, its7, _, _, hkN, by rw [show N - (k + 1) = q from by have := HQ.out; omega], by rw [show N - (k + 1) = q from by have := HQ.out; omega]; omega, by omega, hl7, by rw [show N - (k + 1) = q from by have := HQ.out; omega]; exact HS6, HR7, HB7⟩
       case measure => simp [lenB]
     · obtain rfl : k = N := by omega
       rw [show 7 * (k - k) = 0 from by simp]; go_wp2_with fail
       go_ret2
       exact ⟨_, its, _, rfl, by rw [HIK.out]; omega, by rw [HIK.out]; exact HROW.out, HB.out⟩
end
end Go.Proofs.YtoiajjobecinpaaGreat
