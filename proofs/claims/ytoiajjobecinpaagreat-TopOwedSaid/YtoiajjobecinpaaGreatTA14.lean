/- An item told. What of a form may not be. -/
import Derived.Shelf.SlicesQ.Equal
import Derived.Laws.StructEq
import Derived.Ground.SlgqProg
import Derived.Test.YtoiajjobecinpaaGreatTA13
set_option maxHeartbeats 4000000
namespace Go.Proofs.YtoiajjobecinpaaGreat
open Go.RowKit Go.Shelf Go.Lib Go.Proofs
set_option linter.unusedVariables false
set_option linter.unusedSimpArgs false
section
attribute [local go_sem] Oper.semAt_some
theorem posI_cases (ps : List It) (id : Int) :
 (posI ps id = -1 ∧ ∀ p ∈ ps, p.id ≠ id) ∨ ∃ k, ∃ h : k < ps.length, posI ps id = (k : Int) ∧ ps[k].id = id ∧ ∀ j (hj : j < k), ps[j].id ≠ id := by
 unfold posI Lib.idxBy; have gen : ∀ (ps : List It) (i : Nat), (Lib.idxByFrom (fun _ y => decide (y.id = id)) default ps i = -1 ∧ ∀ p ∈ ps, p.id ≠ id) ∨
  ∃ k, ∃ h : k < ps.length, Lib.idxByFrom (fun _ y => decide (y.id = id)) default ps i = ((i + k : Nat) : Int) ∧ ps[k].id = id ∧ ∀ j (hj : j < k), ps[j].id ≠ id := by
  intro ps; induction ps with
  | nil => intro i; exact .inl ⟨rfl, by simp⟩
  | cons p l ih =>
   intro i; by_cases e : p.id = id
   · exact .inr ⟨0, by simp, by simp [Lib.idxByFrom, e], e, fun j hj => absurd hj (Nat.not_lt_zero _)⟩
   · have hstep : Lib.idxByFrom (fun _ (y : It) => decide (y.id = id)) default (p :: l) i = Lib.idxByFrom (fun _ y => decide (y.id = id)) default l (i + 1) := by simp [Lib.idxByFrom, e]
     rcases ih (i + 1) with ⟨h1, h2⟩ | ⟨k, hk, h1, h2, h3⟩
     · refine .inl ⟨hstep.trans h1, ?_⟩; intro q hq; rcases List.mem_cons.1 hq with rfl | hq
       · exact e
       · exact h2 q hq
     · refine .inr ⟨k + 1, by simpa using hk, hstep.trans (h1.trans (by congr 1; omega)), by simpa using h2, ?_⟩; intro j hj; cases j with
       | zero => simpa using e
       | succ j => simpa using h3 j (by omega)
 rcases gen ps 0 with h | ⟨k, hk, h1, h2⟩
 · exact .inl h
 · exact .inr ⟨k, hk, by simpa using h1, h2⟩
def itemI (its : List It) (id : Int) : It := if 0 ≤ posI its id then its[(posI its id).toNat]! else ⟨0, 0, 0⟩
def IBox (W : World) (H : Nat) (x : It) : Prop := W.heap[H]? = some (.cells x.cells.toArray 77 (0, 0))
theorem IBox.below {W W' : World} {H B : Nat} {x : It} (h : IBox W H x) (hb : Below B W W') (hH : H < B) : IBox W' H x := (hb.block H hH).trans h
theorem IBox.lt {W : World} {H : Nat} {x : It} (h : IBox W H x) : H < W.heap.size := (Array.getElem?_eq_some_iff.1 h).1
theorem IBox.alloc {W : World} {H : Nat} {x : It} (h : IBox W H x) (o : Obj) : IBox (W.alloc o) H x := (Below.heap_alloc _ _ _ h.lt).trans h
theorem IBox.cells {W : World} {H : Nat} {x : It} (h : IBox W H x) : (W.cell? ⟨H, 0, none⟩ = some (.int .i64 x.id) ∧ W.cell? ⟨H, 1, none⟩ = some (.int .i64 x.w) ∧ W.cell? ⟨H, 2, none⟩ = some (.int .i64 x.lag)) ∧ W.frozen? ⟨H, 0, none⟩ = false ∧ W.frozen? ⟨H, 1, none⟩ = false ∧ W.frozen? ⟨H, 2, none⟩ = false := by
 unfold IBox at h; refine ⟨⟨by simp only [World.cell?, h]; rfl, by simp only [World.cell?, h]; rfl, by simp only [World.cell?, h]; rfl⟩, by simp only [World.frozen?, h]; simp, by simp only [World.frozen?, h]; simp, by simp only [World.frozen?, h]; simp⟩
theorem IBox.set {W : World} {H : Nat} {x : It} (h : IBox W H x) (y : It) :
 IBox (((W.setCell ⟨H, 0, none⟩ (.int .i64 y.id)).setCell ⟨H, 1, none⟩ (.int .i64 y.w)).setCell ⟨H, 2, none⟩ (.int .i64 y.lag)) H y := by
 unfold IBox at h ⊢; simp [World.setCell, Array.getElem?_modify, h, It.cells]
theorem ibox_new (W : World) (x : It) : IBox (W.alloc (.cells x.cells.toArray 77)) W.heap.size x := heap_alloc_new _ _
def FindP (its : List It) (id : Int) (w : World) (e : Ending) (W' : World) : Prop :=
 e = .returned (.tuple #[.agg #[.int .i64 (itemI its id).id, .int .i64 (itemI its id).w, .int .i64 (itemI its id).lag], .bool (decide (0 ≤ posI its id))]) ∧ Below w.heap.size w W'
set_option maxRecDepth 100000 in
theorem finditem_any (cur : Int) (v : Value) (its : List It) (id : Int) (W : World) (h : FSl W v its) (hl : its.length ≤ 100000) :
 Calls Tryz.prog 22 #[.agg #[.int .i64 cur, v], .int .i64 id] W (FindP its id W) := by
 have hfind := findI_any cur v its id _ ((h.alloc (.cells #[.int .i64 cur, v] 70)).alloc (.cells #[.int .i64 0, .int .i64 0, .int .i64 0] 77)); have hcases := posI_cases its id; obtain ⟨a, c, rfl⟩ := h.form; have H0 := lH h; have hI0 := ibox_new (W.alloc (.cells #[.int .i64 cur, .slice a its.length c] 70)) ⟨0, 0, 0⟩; rw [size_alloc1] at hI0; have hR0 := (rbox_new W (.int .i64 cur) (.slice a its.length c)).alloc (.cells #[.int .i64 0, .int .i64 0, .int .i64 0] 77); have HB0 : Hid (Below W.heap.size W ((W.alloc (.cells #[.int .i64 cur, .slice a its.length c] 70)).alloc (.cells #[.int .i64 0, .int .i64 0, .int .i64 0] 77))) := lH (((Below.refl _ W).alloc (Nat.le_refl _) _).alloc (by simp) _); obtain ⟨W0, hW0⟩ : ∃ W0, (W.alloc (.cells #[.int .i64 cur, .slice a its.length c] 70)).alloc (.cells #[.int .i64 0, .int .i64 0, .int .i64 0] 77) = W0 := ⟨_, rfl⟩
 have hz0 : W0.heap.size = W.heap.size + 2 := by rw [← hW0]; simp
 change IBox ((W.alloc (.cells #[.int .i64 cur, .slice a its.length c] 70)).alloc (.cells #[.int .i64 0, .int .i64 0, .int .i64 0] 77)) (W.heap.size + 1) _ at hI0; rw [hW0] at hfind hI0 hR0 HB0; have HI0 := lH hI0; have HR0 := lH hR0; clear hI0 hR0; rcases hcases with ⟨hp, -⟩ | ⟨k, hk, hp, -⟩
 · unfold FindP itemI; rw [hp] at hfind ⊢; rw [if_neg (by decide), show decide ((0 : Int) ≤ -1) = false from rfl]; obtain ⟨n, hn⟩ : ∃ n, its.length = n := ⟨_, rfl⟩
   rw [hn] at hW0 hfind HR0 ⊢; obtain ⟨z0, z1, -, -⟩ := HR0.out.cells; clear h hp hn; go_enter Tryz.func22, Tryz.ntmps22; go_wp2_with fail
   refine hfind.mono ?_; rintro e w1 ⟨rfl, hb1⟩; have hI1 := HI0.out.below hb1 HI0.out.lt; obtain ⟨⟨c0, c1, c2⟩, f0, f1, f2⟩ := hI1.cells; obtain ⟨⟨g0, g1, g2⟩, -⟩ := (hI1.set ⟨0, 0, 0⟩).cells; simp only at c0 c1 c2 g0 g1 g2; have HG0 := lH g0; have HG1 := lH g1; have HG2 := lH g2; have HB1 := lH hb1; clear g0 g1 g2 hI1 hb1; go_wp2_with fail
   exact bodyPost_ret (v := .tuple #[.agg #[.int .i64 0, .int .i64 0, .int .i64 0], .bool false]) (by simp [results, Tryz.results22, go_sem, HG0.out, HG1.out, HG2.out]) rfl ⟨rfl, (((HB0.out.trans (HB1.out.mono (by omega))).setCell (by simp) _).setCell (by simp) _).setCell (by simp) _⟩
 · unfold FindP itemI; rw [hp] at hfind ⊢; rw [if_pos (by omega), show decide ((0 : Int) ≤ (k : Int)) = true from decide_eq_true (by omega), Int.toNat_natCast]; obtain ⟨n, hn⟩ : ∃ n, its.length = n := ⟨_, rfl⟩
   have hkn : (k : Int) < (n : Int) := by omega
   have hk0 : (0 : Int) ≤ (k : Int) := by omega
   have hkneg : ¬ (k : Int) < 0 := by omega
   obtain ⟨g, rfl, hg, k0, k1, k2⟩ := H0.out.cells k hk; rw [hn] at hW0 hfind; obtain ⟨x, hx⟩ : ∃ x, its[k]! = x := ⟨_, rfl⟩
   rw [hx] at k0 k1 k2 ⊢; obtain ⟨i, ww, lag⟩ := x; simp only at k0 k1 k2 ⊢; rw [hn] at HR0; have HK : ∀ w1, Below W.heap.size W w1 → (w1.cell? ⟨g, k * 3, none⟩ = some (.int .i64 i) ∧ w1.cell? ⟨g, k * 3 + 1, none⟩ = some (.int .i64 ww) ∧ w1.cell? ⟨g, k * 3 + 2, none⟩ = some (.int .i64 lag)) := fun w1 hb =>
    ⟨(hb.cell (p := ⟨g, k * 3, none⟩) hg).trans k0, (hb.cell (p := ⟨g, k * 3 + 1, none⟩) hg).trans k1, (hb.cell (p := ⟨g, k * 3 + 2, none⟩) hg).trans k2⟩
   have HK2 := lH HK; rw [hn]; obtain ⟨z0, z1, -, -⟩ := HR0.out.cells; clear h hp hn hx HK; go_enter Tryz.func22, Tryz.ntmps22; go_wp2_with fail
   refine hfind.mono ?_; rintro e w1 ⟨rfl, hb1⟩; have hI1 := HI0.out.below hb1 HI0.out.lt; obtain ⟨r0, r1, -, -⟩ := (HR0.out.below hb1 HR0.out.lt).cells; obtain ⟨⟨c0, c1, c2⟩, f0, f1, f2⟩ := hI1.cells; obtain ⟨⟨g0, g1, g2⟩, -⟩ := (hI1.set ⟨i, ww, lag⟩).cells; simp only at c0 c1 c2 g0 g1 g2; obtain ⟨q0, q1, q2⟩ := HK2.out w1 (HB0.out.trans (hb1.mono (by omega))); have HG0 := lH g0; have HG1 := lH g1; have HG2 := lH g2; have HB1 := lH hb1; clear g0 g1 g2 hI1 hb1 k0 k1 k2; go_wp2_with fail
   exact bodyPost_ret (v := .tuple #[.agg #[.int .i64 i, .int .i64 ww, .int .i64 lag], .bool true]) (by simp [results, Tryz.results22, go_sem, HG0.out, HG1.out, HG2.out]) rfl ⟨rfl, (((HB0.out.trans (HB1.out.mono (by omega))).setCell (by simp) _).setCell (by simp) _).setCell (by simp) _⟩
end
section
attribute [local go_sem] Oper.semAt_some
theorem info322 : (Tryz.prog.info? 322).map (fun i => (i.zero, i.size, i.bytes)) = some (some (.agg #[.int .i64 0, .int .i64 0]), 2, 16) := by kernel_rfl
def FRow (W : World) (B : Nat) (v : Value) (n : Nat) : Prop := ∃ xs, W.ownsRow B 322 2 v n xs
theorem FRow.same {W W' : World} {B : Nat} {v : Value} {n : Nat} (h : FRow W B v n) (hb : ∀ k, v.ownBlock = some k → W'.heap[k]? = W.heap[k]?) : FRow W' B v n := by
 obtain ⟨xs, h⟩ := h; exact ⟨xs, ownsRow_same h hb⟩
theorem FRow.lt {W : World} {B : Nat} {v : Value} {n : Nat} (h : FRow W B v n) {k : Nat} (hk : v.ownBlock = some k) : B ≤ k ∧ k < W.heap.size := by
 obtain ⟨xs, h⟩ := h; exact h.lt k hk
theorem FRow.alloc {W : World} {B : Nat} {v : Value} {n : Nat} (h : FRow W B v n) (o : Obj) : FRow (W.alloc o) B v n := h.same (fun k hk => Below.heap_alloc _ _ _ (h.lt hk).2)
theorem FRow.below {W W' : World} {B : Nat} {v : Value} {n : Nat} (h : FRow W B v n) (hb : Below W.heap.size W W') : FRow W' B v n := h.same (fun k hk => hb.block k (h.lt hk).2)
theorem FRow.nil (W : World) (B : Nat) : FRow W B (.slice none 0 0) 0 := ⟨[], World.ownsRow_nil ..⟩
theorem FRow.base {W : World} {B B' : Nat} {v : Value} {n : Nat} (h : FRow W B v n) (hB : B' ≤ B) : FRow W B' v n := by
 obtain ⟨xs, h⟩ := h; exact ⟨xs, ownsRow_base h hB⟩
theorem FRow.form {W : World} {B : Nat} {v : Value} {n : Nat} (h : FRow W B v n) : ∃ a c, v = .slice a n c ∧ n ≤ c ∧ c ≤ 9223372036854775807 := by
 obtain ⟨xs, h⟩ := h; rcases h.2 with ⟨rfl, rfl⟩ | ⟨g, cap, cur, rfl, h1, h2, h3, h4, _⟩
 · exact ⟨_, 0, rfl, Nat.le_refl _, by omega⟩
 · unfold maxLen at h4; exact ⟨_, cap, rfl, h3, h4⟩
def FltP (w : World) (e : Ending) (W' : World) : Prop := ∃ (v : Value) (n : Nat), e = .returned v ∧ n ≤ 1000 ∧ FRow W' w.heap.size v n ∧ Below w.heap.size w W'
def four (b1 b2 b3 b4 : Bool) : Array Value := #[.int .i64 1, .bool b1, .int .i64 2, .bool b2, .int .i64 3, .bool b3, .int .i64 4, .bool b4]
def FourAt (W : World) (B : Nat) : Prop := ∃ b1 b2 b3 b4, W.heap[B]? = some (.cells (four b1 b2 b3 b4) 335 (0, 0))
theorem FourAt.cells {W : World} {B : Nat} (h : FourAt W B) (j : Nat) (hj : j < 4) : ∃ k b, W.cell? ⟨B, j * 2, none⟩ = some (.int .i64 k) ∧ W.cell? ⟨B, j * 2 + 1, none⟩ = some (.bool b) := by
 obtain ⟨b1, b2, b3, b4, h⟩ := h; have : j = 0 ∨ j = 1 ∨ j = 2 ∨ j = 3 := by omega
 rcases this with rfl | rfl | rfl | rfl
 · exact ⟨1, b1, by simp only [World.cell?, h]; rfl, by simp only [World.cell?, h]; rfl⟩
 · exact ⟨2, b2, by simp only [World.cell?, h]; rfl, by simp only [World.cell?, h]; rfl⟩
 · exact ⟨3, b3, by simp only [World.cell?, h]; rfl, by simp only [World.cell?, h]; rfl⟩
 · exact ⟨4, b4, by simp only [World.cell?, h]; rfl, by simp only [World.cell?, h]; rfl⟩
def ChkS (H X g : Nat) (cur : Int) (v : Value) (q : Nat) (p : Option Int) (i ww lag : Int) (W : World) : Prop :=
 RBox W H (.int .i64 cur) v ∧ IBox W X ⟨i, ww, lag⟩ ∧ ∀ y, p = some y → W.cell? ⟨g, q, none⟩ = some (.int .i64 y)
set_option maxRecDepth 100000 in
theorem chkform_any (cur : Int) (v : Value) (its : List It) (W : World) (h : FSl W v its) (h64 : its.length ≤ 64) :
 Calls Tryz.prog 222 #[.agg #[.int .i64 cur, v]] W (FltP W) := by
 obtain ⟨i0, hi, hz0, hz1, hz2⟩ := info_parts info322; have HF0 := lH h; obtain ⟨a, c, rfl⟩ := h.form; obtain ⟨n, hn⟩ : ∃ n, its.length = n := ⟨_, rfl⟩
 rw [hn] at h64 HF0 ⊢; have HN := lH hn; clear h hn; have HB0 : Hid (Below (W.heap.size + 1) (W.alloc (.cells #[.int .i64 cur, .slice a n c] 70)) (W.alloc (.cells #[.int .i64 cur, .slice a n c] 70))) := lH (Below.refl _ _); go_enter Tryz.func222, Tryz.ntmps222; go_wp2_with fail
 go_loopw [3, 4, 18] (fun l s x wr => ∃ (k q : Nat) (ah : Bool), k ≤ n ∧ x = .int .i64 k ∧ s = .bool ah ∧ q ≤ 4 * k ∧ Hid (FRow wr (W.heap.size + 1) l q) ∧ Hid (Below (W.heap.size + 1) (W.alloc (.cells #[.int .i64 cur, .slice a n c] 70)) wr)) (fun _ _ x _ => n - (intOf x).toNat)
 case atStart => exact ⟨0, 0, _, Nat.zero_le _, rfl, rfl, by omega, lH (FRow.nil _ _), HB0⟩
 case round =>
  obtain ⟨k, q, ah, hk, rfl, rfl, hq, HR, HB⟩ := hrel; by_cases hkn : k < n
  · have hkl : k < its.length := by rw [HN.out]; exact hkn
    have hbz := HB.out.size; simp only [World.size_alloc] at hbz; have HF : Hid (FSl wr (.slice a n c) its) := lH ((HF0.out.alloc _).same (by simp; omega) (fun j hj => HB.out.block j (by have := HF0.out.lt hj; omega))); obtain ⟨g, rfl, hg, c0, c1, c2⟩ := HF.out.cells k hkl; have hRB : RBox wr W.heap.size (.int .i64 cur) (.slice (some ⟨g, 0, none⟩) n c) := (rbox_new W _ _).below HB.out (by omega); have hp : ∃ pp : Option Int, (0 < k → ∃ y, pp = some y) ∧ ∀ y, pp = some y → wr.cell? ⟨g, (k - 1) * 3, none⟩ = some (.int .i64 y) := by
     by_cases h0 : 0 < k
     · obtain ⟨g', e, _, d0, _⟩ := HF.out.cells (k - 1) (by omega); cases e; exact ⟨some its[k - 1]!.id, fun _ => ⟨_, rfl⟩, fun y hy => by cases hy; exact d0⟩
     · exact ⟨none, fun h => absurd h h0, fun y hy => by cases hy⟩
    obtain ⟨pp, hpk, hpc⟩ := hp; obtain ⟨⟨i, ww, lag⟩, hx⟩ : ∃ x, its[k]! = x := ⟨_, rfl⟩
    rw [hx] at c0 c1 c2; simp only at c0 c1 c2; have hk1 : (k : Int) < (n : Int) := by omega
    have hk0 : 0 ≤ (k : Int) := by omega
    have hS : ChkS W.heap.size wr.heap.size g cur (.slice (some ⟨g, 0, none⟩) n c) ((k - 1) * 3) pp i ww lag (wr.alloc (.cells #[.int .i64 i, .int .i64 ww, .int .i64 lag] 77)) :=
     ⟨hRB.alloc _, ibox_new wr ⟨i, ww, lag⟩, fun y hy => c2a _ (hpc y hy)⟩
    have hR0 : FRow (wr.alloc (.cells #[.int .i64 i, .int .i64 ww, .int .i64 lag] 77)) (W.heap.size + 1) u3 q := HR.out.alloc _; have hB0 : Below (W.heap.size + 1) (W.alloc (.cells #[.int .i64 cur, .slice (some ⟨g, 0, none⟩) n c] 70)) (wr.alloc (.cells #[.int .i64 i, .int .i64 ww, .int .i64 lag] 77)) := HB.out.alloc hbz _; have HRo : Hid (∀ j, u3.ownBlock = some j → j < wr.heap.size) := lH (fun j hj => (HR.out.lt hj).2); clear hx hRB hpc; go_upto_region 6 with fail
    go_cut [62, 63, 64] (fun s n4 z W2 => ∃ (W' : World) (b1 b2 b3 b4 : Bool), s = .slice (some ⟨W'.heap.size, 0, none⟩) 4 4 ∧ n4 = .int .i64 4 ∧ z = .int .i64 0 ∧ W2 = W'.alloc (.cells (four b1 b2 b3 b4) 335) ∧ W' = (wr.alloc (.cells #[.int .i64 i, .int .i64 ww, .int .i64 lag] 77)).drew)
    case first =>
     obtain ⟨Idx, f, i0', hf0, hfe, hfin⟩ := klass (fun w' => w' = (wr.alloc (.cells #[.int .i64 i, .int .i64 ww, .int .i64 lag] 77)).drew) (wr.alloc (.cells #[.int .i64 i, .int .i64 ww, .int .i64 lag] 77)) rfl; have hne0 : Nonempty Idx := ⟨i0'⟩
     obtain ⟨e1, e2, e3⟩ := hS; obtain ⟨r0, r1, -, -⟩ := e1.cells; obtain ⟨⟨x0, x1, x2⟩, -⟩ := e2.cells; have y0 : ∀ ix, (f ix).cell? ⟨wr.heap.size, 0, none⟩ = some (.int .i64 i) := fun ix => by rw [hfe ix]; exact x0
     have y1 : ∀ ix, (f ix).cell? ⟨wr.heap.size, 1, none⟩ = some (.int .i64 ww) := fun ix => by rw [hfe ix]; exact x1
     have y2 : ∀ ix, (f ix).cell? ⟨wr.heap.size, 2, none⟩ = some (.int .i64 lag) := fun ix => by rw [hfe ix]; exact x2
     have y3 : ∀ ix, (f ix).cell? ⟨W.heap.size, 1, none⟩ = some (.slice (some ⟨g, 0, none⟩) n c) := fun ix => by rw [hfe ix]; exact r1
     have y4 : ∀ ix y, pp = some y → (f ix).cell? ⟨g, (k - 1) * 3, none⟩ = some (.int .i64 y) := fun ix y hy => by rw [hfe ix]; exact e3 y hy
     have hcon2 : ∀ ix, Calls Tryz.prog 94 #[.int .i64 ww] (f ix) fun e w' => e = .returned (.bool (goodW ww)) ∧ ∃ j, w' = f j := fun ix => (wgood_any ww (f ix)).mono (fun e w' ⟨he, hw⟩ => ⟨he, ix, hw.symm⟩); have HFE := lH hfe; obtain ⟨gw, hgw⟩ : ∃ gw, goodW ww = gw := ⟨_, rfl⟩
     rw [hgw] at hcon2; clear hgw e1 e2 e3 r0 r1 x0 x1 x2 hfe hfin hR0 hB0 HF HB HR HRo; have hsplit : ∀ P : Prop, P ∨ ¬ P := fun P => Classical.em P; rcases hsplit (i < 0) with hq1 | hq1
     · have d1 : decide (i < 0) = true := decide_eq_true hq1; rcases hsplit (0 < k) with hq2 | hq2
       · have d2 : decide (0 < k) = true := decide_eq_true hq2; obtain ⟨y, hy⟩ := hpk hq2; have y5 := fun ix => y4 ix y hy; have hk3 : (0 : Int) ≤ (k : Int) - 1 := by omega
         have hk4 : (k : Int) - 1 < (n : Int) := by omega
         have hmx : max ((k : Int) - 1) 0 = (k : Int) - 1 := by omega
         rcases hsplit (lag < -1125899906842624) with hq3 | hq3
         · have d3 : decide (lag < -1125899906842624) = true := decide_eq_true hq3; clear y4 hpk hsplit hy hq1 hq2 hq3; go_wp2_with fail
           refine wp_region_head (C := fun w' => ∃ i, w' = f i) 39 (vx := .int .i64 0) (by kernel_rfl) rfl (by kernel_rfl) ⟨i0', hf0⟩ (fun _ _ _ h => h) (Or.inl ⟨by kernel_rfl, fun _ => rfl⟩) ?_; simp only [Act.put, List.setIfInBounds_toArray, List.set_cons_zero, List.set_cons_succ, List.take_succ_cons, List.take_zero, List.drop_succ_cons, List.drop_zero, List.length_cons, List.length_nil, Nat.reduceAdd, Nat.reduceSub]; repeat (go_big_quiet_step (exact hcon2 _))
           refine wpQuiet_nil ?_; rintro _ ⟨ix, rfl⟩; rw [HFE.out ix]; go_wp2_with fail
           go_meet
           exact ⟨_, _, _, _, _, rfl, rfl, rfl, rfl, HFE.out _⟩
         · have d3 : decide (lag < -1125899906842624) = false := decide_eq_false hq3; clear y4 hpk hsplit hy hq1 hq2 hq3; go_wp2_with fail
           refine wp_region_head (C := fun w' => ∃ i, w' = f i) 39 (vx := .int .i64 0) (by kernel_rfl) rfl (by kernel_rfl) ⟨i0', hf0⟩ (fun _ _ _ h => h) (Or.inl ⟨by kernel_rfl, fun _ => rfl⟩) ?_; simp only [Act.put, List.setIfInBounds_toArray, List.set_cons_zero, List.set_cons_succ, List.take_succ_cons, List.take_zero, List.drop_succ_cons, List.drop_zero, List.length_cons, List.length_nil, Nat.reduceAdd, Nat.reduceSub]; repeat (go_big_quiet_step (exact hcon2 _))
           refine wpQuiet_nil ?_; rintro _ ⟨ix, rfl⟩; rw [HFE.out ix]; go_wp2_with fail
           go_meet
           exact ⟨_, _, _, _, _, rfl, rfl, rfl, rfl, HFE.out _⟩
       · have d2 : decide (0 < k) = false := decide_eq_false hq2; rcases hsplit (lag < -1125899906842624) with hq3 | hq3
         · have d3 : decide (lag < -1125899906842624) = true := decide_eq_true hq3; clear y4 hpk hsplit hq1 hq2 hq3; go_wp2_with fail
           refine wp_region_head (C := fun w' => ∃ i, w' = f i) 39 (vx := .int .i64 0) (by kernel_rfl) rfl (by kernel_rfl) ⟨i0', hf0⟩ (fun _ _ _ h => h) (Or.inl ⟨by kernel_rfl, fun _ => rfl⟩) ?_; simp only [Act.put, List.setIfInBounds_toArray, List.set_cons_zero, List.set_cons_succ, List.take_succ_cons, List.take_zero, List.drop_succ_cons, List.drop_zero, List.length_cons, List.length_nil, Nat.reduceAdd, Nat.reduceSub]; repeat (go_big_quiet_step (exact hcon2 _))
           refine wpQuiet_nil ?_; rintro _ ⟨ix, rfl⟩; rw [HFE.out ix]; go_wp2_with fail
           go_meet
           exact ⟨_, _, _, _, _, rfl, rfl, rfl, rfl, HFE.out _⟩
         · have d3 : decide (lag < -1125899906842624) = false := decide_eq_false hq3; clear y4 hpk hsplit hq1 hq2 hq3; go_wp2_with fail
           refine wp_region_head (C := fun w' => ∃ i, w' = f i) 39 (vx := .int .i64 0) (by kernel_rfl) rfl (by kernel_rfl) ⟨i0', hf0⟩ (fun _ _ _ h => h) (Or.inl ⟨by kernel_rfl, fun _ => rfl⟩) ?_; simp only [Act.put, List.setIfInBounds_toArray, List.set_cons_zero, List.set_cons_succ, List.take_succ_cons, List.take_zero, List.drop_succ_cons, List.drop_zero, List.length_cons, List.length_nil, Nat.reduceAdd, Nat.reduceSub]; repeat (go_big_quiet_step (exact hcon2 _))
           refine wpQuiet_nil ?_; rintro _ ⟨ix, rfl⟩; rw [HFE.out ix]; go_wp2_with fail
           go_meet
           exact ⟨_, _, _, _, _, rfl, rfl, rfl, rfl, HFE.out _⟩
     · have d1 : decide (i < 0) = false := decide_eq_false hq1; rcases hsplit (0 < k) with hq2 | hq2
       · have d2 : decide (0 < k) = true := decide_eq_true hq2; obtain ⟨y, hy⟩ := hpk hq2; have y5 := fun ix => y4 ix y hy; have hk3 : (0 : Int) ≤ (k : Int) - 1 := by omega
         have hk4 : (k : Int) - 1 < (n : Int) := by omega
         have hmx : max ((k : Int) - 1) 0 = (k : Int) - 1 := by omega
         rcases hsplit (lag < -1125899906842624) with hq3 | hq3
         · have d3 : decide (lag < -1125899906842624) = true := decide_eq_true hq3; clear y4 hpk hsplit hy hq1 hq2 hq3; go_wp2_with fail
           refine wp_region_head (C := fun w' => ∃ i, w' = f i) 39 (vx := .int .i64 0) (by kernel_rfl) rfl (by kernel_rfl) ⟨i0', hf0⟩ (fun _ _ _ h => h) (Or.inl ⟨by kernel_rfl, fun _ => rfl⟩) ?_; simp only [Act.put, List.setIfInBounds_toArray, List.set_cons_zero, List.set_cons_succ, List.take_succ_cons, List.take_zero, List.drop_succ_cons, List.drop_zero, List.length_cons, List.length_nil, Nat.reduceAdd, Nat.reduceSub]; repeat (go_big_quiet_step (exact hcon2 _))
           refine wpQuiet_nil ?_; rintro _ ⟨ix, rfl⟩; rw [HFE.out ix]; go_wp2_with fail
           go_meet
           exact ⟨_, _, _, _, _, rfl, rfl, rfl, rfl, HFE.out _⟩
         · have d3 : decide (lag < -1125899906842624) = false := decide_eq_false hq3; clear y4 hpk hsplit hy hq1 hq2 hq3; go_wp2_with fail
           refine wp_region_head (C := fun w' => ∃ i, w' = f i) 39 (vx := .int .i64 0) (by kernel_rfl) rfl (by kernel_rfl) ⟨i0', hf0⟩ (fun _ _ _ h => h) (Or.inl ⟨by kernel_rfl, fun _ => rfl⟩) ?_; simp only [Act.put, List.setIfInBounds_toArray, List.set_cons_zero, List.set_cons_succ, List.take_succ_cons, List.take_zero, List.drop_succ_cons, List.drop_zero, List.length_cons, List.length_nil, Nat.reduceAdd, Nat.reduceSub]; repeat (go_big_quiet_step (exact hcon2 _))
           refine wpQuiet_nil ?_; rintro _ ⟨ix, rfl⟩; rw [HFE.out ix]; go_wp2_with fail
           go_meet
           exact ⟨_, _, _, _, _, rfl, rfl, rfl, rfl, HFE.out _⟩
       · have d2 : decide (0 < k) = false := decide_eq_false hq2; rcases hsplit (lag < -1125899906842624) with hq3 | hq3
         · have d3 : decide (lag < -1125899906842624) = true := decide_eq_true hq3; clear y4 hpk hsplit hq1 hq2 hq3; go_wp2_with fail
           refine wp_region_head (C := fun w' => ∃ i, w' = f i) 39 (vx := .int .i64 0) (by kernel_rfl) rfl (by kernel_rfl) ⟨i0', hf0⟩ (fun _ _ _ h => h) (Or.inl ⟨by kernel_rfl, fun _ => rfl⟩) ?_; simp only [Act.put, List.setIfInBounds_toArray, List.set_cons_zero, List.set_cons_succ, List.take_succ_cons, List.take_zero, List.drop_succ_cons, List.drop_zero, List.length_cons, List.length_nil, Nat.reduceAdd, Nat.reduceSub]; repeat (go_big_quiet_step (exact hcon2 _))
           refine wpQuiet_nil ?_; rintro _ ⟨ix, rfl⟩; rw [HFE.out ix]; go_wp2_with fail
           go_meet
           exact ⟨_, _, _, _, _, rfl, rfl, rfl, rfl, HFE.out _⟩
         · have d3 : decide (lag < -1125899906842624) = false := decide_eq_false hq3; clear y4 hpk hsplit hq1 hq2 hq3; go_wp2_with fail
           refine wp_region_head (C := fun w' => ∃ i, w' = f i) 39 (vx := .int .i64 0) (by kernel_rfl) rfl (by kernel_rfl) ⟨i0', hf0⟩ (fun _ _ _ h => h) (Or.inl ⟨by kernel_rfl, fun _ => rfl⟩) ?_; simp only [Act.put, List.setIfInBounds_toArray, List.set_cons_zero, List.set_cons_succ, List.take_succ_cons, List.take_zero, List.drop_succ_cons, List.drop_zero, List.length_cons, List.length_nil, Nat.reduceAdd, Nat.reduceSub]; repeat (go_big_quiet_step (exact hcon2 _))
           refine wpQuiet_nil ?_; rintro _ ⟨ix, rfl⟩; rw [HFE.out ix]; go_wp2_with fail
           go_meet
           exact ⟨_, _, _, _, _, rfl, rfl, rfl, rfl, HFE.out _⟩
    case rest =>
     obtain ⟨W', b1, b2, b3, b4, rfl, rfl, rfl, rfl, rfl⟩ := hcut; have hX1 : (wr.alloc (.cells #[.int .i64 i, .int .i64 ww, .int .i64 lag] 77)).drew.heap.size = wr.heap.size + 1 := by simp [World.drew]
     have hI2 : IBox ((wr.alloc (.cells #[.int .i64 i, .int .i64 ww, .int .i64 lag] 77)).drew.alloc (.cells (four b1 b2 b3 b4) 335)) wr.heap.size ⟨i, ww, lag⟩ := IBox.alloc (show IBox (wr.alloc (.cells #[.int .i64 i, .int .i64 ww, .int .i64 lag] 77)).drew wr.heap.size ⟨i, ww, lag⟩ from hS.2.1) _; have hF2 : FourAt ((wr.alloc (.cells #[.int .i64 i, .int .i64 ww, .int .i64 lag] 77)).drew.alloc (.cells (four b1 b2 b3 b4) 335)) (wr.heap.size + 1) := ⟨b1, b2, b3, b4, by rw [← hX1]; exact heap_alloc_new _ _⟩
     have hR2 : FRow ((wr.alloc (.cells #[.int .i64 i, .int .i64 ww, .int .i64 lag] 77)).drew.alloc (.cells (four b1 b2 b3 b4) 335)) (W.heap.size + 1) u3 q := FRow.alloc (show FRow (wr.alloc (.cells #[.int .i64 i, .int .i64 ww, .int .i64 lag] 77)).drew (W.heap.size + 1) u3 q from hR0) _; have hB2 : Below (W.heap.size + 1) (W.alloc (.cells #[.int .i64 cur, .slice (some ⟨g, 0, none⟩) n c] 70)) ((wr.alloc (.cells #[.int .i64 i, .int .i64 ww, .int .i64 lag] 77)).drew.alloc (.cells (four b1 b2 b3 b4) 335)) := hB0.drew.alloc (by rw [hX1]; omega) _; have hzW2 : ((wr.alloc (.cells #[.int .i64 i, .int .i64 ww, .int .i64 lag] 77)).drew.alloc (.cells (four b1 b2 b3 b4) 335)).heap.size = wr.heap.size + 2 := by simp [World.drew]
     rw [hX1]; have HI2 := lH hI2; have HF2 := lH hF2; have HR2 := lH hR2; have HB2 := lH hB2; obtain ⟨W2, hW2⟩ : ∃ W2, (wr.alloc (.cells #[.int .i64 i, .int .i64 ww, .int .i64 lag] 77)).drew.alloc (.cells (four b1 b2 b3 b4) 335) = W2 := ⟨_, rfl⟩
     rw [hW2] at HI2 HF2 HR2 HB2 hzW2 ⊢; clear hI2 hF2 hR2 hB2 hS hR0 hB0 hX1 hW2 hpk; generalize hX : wr.heap.size = X at HI2 HF2 HR2 HB2 hzW2 hbz HRo ⊢; clear hX HF HB HR hg; go_wp2_with fail
     go_loopw [3, 64] (fun l z wr => ∃ (j q' : Nat), j ≤ 4 ∧ z = .int .i64 j ∧ q' ≤ q + j ∧ Hid (FRow wr (W.heap.size + 1) l q') ∧ Hid (∀ o, l.ownBlock = some o → o ≠ X ∧ o ≠ X + 1) ∧ Hid (IBox wr X ⟨i, ww, lag⟩) ∧ Hid (FourAt wr (X + 1)) ∧ Hid (Below (W.heap.size + 1) (W.alloc (.cells #[.int .i64 cur, .slice (some ⟨g, 0, none⟩) n c] 70)) wr) ∧ X + 2 ≤ wr.heap.size) (fun _ z _ => 4 - (intOf z).toNat)
     case atStart => exact ⟨0, q, by omega, rfl, by omega, HR2, lH (fun o ho => by have := HRo.out o ho; omega), HI2, HF2, HB2, by omega⟩
     case round =>
      obtain ⟨j, q', hj, rfl, hq', HR3, HO3, HI3, HF3, HB3, hz3⟩ := hrel; by_cases hj4 : j < 4
      · obtain ⟨kk, bb, d0, d1⟩ := HF3.out.cells j hj4; have hj1 : (j : Int) < 4 := by omega
        have hj0 : 0 ≤ (j : Int) := by omega
        have hJ3 := HI3.out.alloc (.cells #[.int .i64 kk, .bool bb] 335); have hJ4 : FourAt (wr.alloc (.cells #[.int .i64 kk, .bool bb] 335)) (X + 1) := by
         obtain ⟨p1, p2, p3, p4, h⟩ := HF3.out; exact ⟨p1, p2, p3, p4, (Below.heap_alloc _ _ _ (by omega)).trans h⟩
        have hJB := HB3.out.alloc (by omega) (.cells #[.int .i64 kk, .bool bb] 335); have HJ3 := lH hJ3; have HJ4 := lH hJ4; have HJB := lH hJB; cases bb with
        | false =>
         clear hJ3 hJ4 hJB HI2 HF2 HR2 HB2; go_wp2_with fail
         go_roundw
         case rel => exact ⟨j + 1, q', by omega, by go_num, by omega, lH (HR3.out.alloc _), HO3, HJ3, HJ4, HJB, by simp; omega⟩
         case measure => simp [intOf]; omega
        | true =>
         obtain ⟨⟨x0, -, -⟩, -⟩ := hJ3.cells; obtain ⟨xs, hrow⟩ := HR3.out; clear hJ3 hJ4 hJB HI2 HF2 HR2 HB2; go_wp2_with (at_builtin; refine wpList_append_lies _ rfl _ _ 279 rfl (W.heap.size + 1) 322 i0 (.agg #[.int .i64 0, .int .i64 0]) 2 16 Tryz.underlying279 hi hz0 hz1 hz2 rfl (by decide) _ q' _ rfl ((hrow.alloc _).alloc _) ⟨wr.heap.size + 1, 0, none⟩ 1 1 [.int .i64 kk, .int .i64 i] rfl rfl (World.news_of_block (cs := #[.int .i64 kk, .int .i64 i]) (t := 322) (fr := (0, 0)) (by have := heap_alloc_new (wr.alloc (.cells #[.int .i64 kk, .bool true] 335)) (.cells #[.int .i64 kk, .int .i64 i] 322); simpa using this)) (by simp [Value.oneCell']) (by omega) (by unfold maxLen; omega) (by omega) (by simp; omega) (wr.heap.size + 2) (by simp) ?_; intro g4 cap4 w4 hown4 hgrow4 hat4 hlt4)
         have hkeep : ∀ o, o < wr.heap.size → u3.ownBlock ≠ some o → w4.heap[o]? = wr.heap[o]? := fun o ho hne => (hgrow4.block o (by simp; omega) (fun e => hne e.symm)).trans ((Below.heap_alloc _ _ _ (by simp; omega)).trans (Below.heap_alloc _ _ _ ho))
         have HI4 : Hid (IBox w4 X ⟨i, ww, lag⟩) := lH ((hkeep _ (by omega) (fun e => (HO3.out _ e).1 rfl)).trans HI3.out); have HF4 : Hid (FourAt w4 (X + 1)) := lH (by obtain ⟨p1, p2, p3, p4, h⟩ := HF3.out; exact ⟨p1, p2, p3, p4, (hkeep _ (by omega) (fun e => (HO3.out _ e).2 rfl)).trans h⟩); have HB4 : Hid (Below (W.heap.size + 1) (W.alloc (.cells #[.int .i64 cur, .slice (some ⟨g, 0, none⟩) n c] 70)) w4) := lH (((HB3.out.alloc (by omega) _).alloc (by simp; omega) _).grown hgrow4 (by simp; omega) (fun o ho => (hrow.lt o ho).1)); have HO4 : Hid (∀ o, (Value.slice (some ⟨g4, 0, none⟩) (q' + 1) cap4).ownBlock = some o → o ≠ X ∧ o ≠ X + 1) := lH (fun o ho => by
          have : g4 = o := by simpa [Value.ownBlock] using ho
          subst this; rcases hat4 with e | e
          · exact HO3.out _ e
          · omega)
         have hz4 : X + 2 ≤ w4.heap.size := by have := hgrow4.size; simp at this; omega
         have HR4 : Hid (FRow w4 (W.heap.size + 1) (.slice (some ⟨g4, 0, none⟩) (q' + 1) cap4) (q' + 1)) := lH ⟨_, hown4⟩; clear hown4 hgrow4 hat4 hlt4 hrow hkeep x0 d0 d1; go_wp2_with fail
         go_roundw
         case rel => exact ⟨j + 1, q' + 1, by omega, by go_num, by omega, HR4, HO4, HI4, HF4, HB4, hz4⟩
         case measure => simp [intOf]; omega
      · obtain rfl : j = 4 := by omega
        obtain ⟨⟨-, -, x2⟩, -⟩ := HI3.out.cells; clear HI2 HF2 HR2 HB2; cases ah with
        | true =>
         go_wp2_with fail
         go_roundw
         case rel => exact ⟨k + 1, q', _, hkn, by go_num, rfl, by omega, HR3, HB3⟩
         case measure => simp [intOf]; omega
        | false =>
         go_wp2_with fail
         go_roundw
         case rel => exact ⟨k + 1, q', _, hkn, by go_num, rfl, by omega, HR3, HB3⟩
         case measure => simp [intOf]; omega
  · obtain rfl : k = n := by omega
    have hd64 : decide ((k : Int) > 64) = false := decide_eq_false (by omega); have hbz := HB.out.size; simp only [World.size_alloc] at hbz; have hfs : FSl wr (.slice a k c) its := (HF0.out.alloc _).same (by simp; omega) (fun j hj => HB.out.block j (by have := HF0.out.lt hj; omega)); have hfind := finditem_any cur (.slice a k c) its cur wr hfs (by rw [HN.out]; omega); unfold FindP at hfind; generalize itemI its cur = x at hfind; generalize decide (0 ≤ posI its cur) = ok at hfind; have hRB : RBox wr W.heap.size (.int .i64 cur) (.slice a k c) := (rbox_new W _ _).below HB.out (by omega); have HRB := lH hRB; obtain ⟨r0, r1, -, -⟩ := hRB.cells; have HW0 : Hid (Below W.heap.size W (W.alloc (.cells #[.int .i64 cur, .slice a k c] 70))) := lH ((Below.refl _ W).alloc (Nat.le_refl _) _); clear hfs hRB; go_wp2_with fail
    refine hfind.mono ?_; rintro e w5 ⟨rfl, hb5⟩; have hz5 := hb5.size; have HR6 : Hid (FRow (w5.alloc (.cells #[.int .i64 x.id, .int .i64 x.w, .int .i64 x.lag] 77)) (W.heap.size + 1) u3 q) := lH ((HR.out.below hb5).alloc _); have HBw6 : Hid (Below (W.heap.size + 1) (W.alloc (.cells #[.int .i64 cur, .slice a k c] 70)) (w5.alloc (.cells #[.int .i64 x.id, .int .i64 x.w, .int .i64 x.lag] 77))) := lH ((HB.out.trans (hb5.mono (by omega))).alloc (by omega) _); have hRB6 : RBox (w5.alloc (.cells #[.int .i64 x.id, .int .i64 x.w, .int .i64 x.lag] 77)) W.heap.size (.int .i64 cur) (.slice a k c) := (HRB.out.below hb5 HRB.out.lt).alloc _; obtain ⟨s0, s1, -, -⟩ := hRB6.cells; obtain ⟨w6, hw6⟩ : ∃ w6, w5.alloc (.cells #[.int .i64 x.id, .int .i64 x.w, .int .i64 x.lag] 77) = w6 := ⟨_, rfl⟩
    have hz6 : W.heap.size + 1 ≤ w6.heap.size := by rw [← hw6]; simp; omega
    rw [hw6] at HR6 HBw6 s0 s1; have s0' : ∀ o, (w6.alloc o).cell? ⟨W.heap.size, 0, none⟩ = some (.int .i64 cur) := fun o => c2a o s0; obtain ⟨fa, fc, hfv, -, -⟩ := HR6.out.form; subst hfv; clear hRB6 hb5 hfind r0 r1 HR; cases ok with
    | true =>
     cases ah with
     | false =>
      go_wp2_with fail
      go_ret
      exact ⟨_, q, rfl, by omega, HR6.out.base (by omega), HW0.out.trans (HBw6.out.mono (by omega))⟩
     | true =>
      obtain ⟨xsw9, hroww9⟩ := HR6.out; go_wp2_with (at_builtin; refine wpList_append_lies _ rfl _ _ 279 rfl (W.heap.size + 1) 322 i0 (.agg #[.int .i64 0, .int .i64 0]) 2 16 Tryz.underlying279 hi hz0 hz1 hz2 rfl (by decide) _ (q) _ rfl (hroww9.alloc _) ⟨w6.heap.size, 0, none⟩ 1 1 [_, _] rfl rfl (World.news_of_block (heap_alloc_new w6 _)) (by simp [Value.oneCell']) (by omega) (by unfold maxLen; omega) (by omega) (by simp; omega) (w6.heap.size + 1) (by simp) ?_; intro gw9 capw9 w9 hownw9 hgroww9 hatw9 hltw9)
      have HBw9 : Hid (Below (W.heap.size + 1) (W.alloc (.cells #[.int .i64 cur, .slice a k c] 70)) w9) := lH ((HBw6.out.alloc (by omega) _).grown hgroww9 (by simp; omega) (fun o ho => (hroww9.lt o ho).1)); have hzw9 : W.heap.size + 1 ≤ w9.heap.size := by have := HBw9.out.size; simpa using this
      have HRw9 : Hid (FRow w9 (W.heap.size + 1) (.slice (some ⟨gw9, 0, none⟩) (q + 1) capw9) (q + 1)) := lH ⟨_, hownw9⟩; clear hownw9 hgroww9 hatw9 hltw9 hroww9; go_wp2_with fail
      go_ret
      exact ⟨_, q + 1, rfl, by omega, HRw9.out.base (by omega), HW0.out.trans (HBw9.out.mono (by omega))⟩
    | false =>
     cases hcu : (cur != -1) with
     | false =>
      cases ah with
      | false =>
       go_wp2_with fail
       go_ret
       exact ⟨_, q, rfl, by omega, HR6.out.base (by omega), HW0.out.trans (HBw6.out.mono (by omega))⟩
      | true =>
       obtain ⟨xsw9, hroww9⟩ := HR6.out; go_wp2_with (at_builtin; refine wpList_append_lies _ rfl _ _ 279 rfl (W.heap.size + 1) 322 i0 (.agg #[.int .i64 0, .int .i64 0]) 2 16 Tryz.underlying279 hi hz0 hz1 hz2 rfl (by decide) _ (q) _ rfl (hroww9.alloc _) ⟨w6.heap.size, 0, none⟩ 1 1 [_, _] rfl rfl (World.news_of_block (heap_alloc_new w6 _)) (by simp [Value.oneCell']) (by omega) (by unfold maxLen; omega) (by omega) (by simp; omega) (w6.heap.size + 1) (by simp) ?_; intro gw9 capw9 w9 hownw9 hgroww9 hatw9 hltw9)
       have HBw9 : Hid (Below (W.heap.size + 1) (W.alloc (.cells #[.int .i64 cur, .slice a k c] 70)) w9) := lH ((HBw6.out.alloc (by omega) _).grown hgroww9 (by simp; omega) (fun o ho => (hroww9.lt o ho).1)); have hzw9 : W.heap.size + 1 ≤ w9.heap.size := by have := HBw9.out.size; simpa using this
       have HRw9 : Hid (FRow w9 (W.heap.size + 1) (.slice (some ⟨gw9, 0, none⟩) (q + 1) capw9) (q + 1)) := lH ⟨_, hownw9⟩; clear hownw9 hgroww9 hatw9 hltw9 hroww9; go_wp2_with fail
       go_ret
       exact ⟨_, q + 1, rfl, by omega, HRw9.out.base (by omega), HW0.out.trans (HBw9.out.mono (by omega))⟩
     | true =>
      obtain ⟨xsw8, hroww8⟩ := HR6.out; cases ah with
      | false =>
       go_wp2_with (at_builtin; refine wpList_append_lies _ rfl _ _ 279 rfl (W.heap.size + 1) 322 i0 (.agg #[.int .i64 0, .int .i64 0]) 2 16 Tryz.underlying279 hi hz0 hz1 hz2 rfl (by decide) _ (q) _ rfl (hroww8.alloc _) ⟨w6.heap.size, 0, none⟩ 1 1 [_, _] rfl rfl (World.news_of_block (heap_alloc_new w6 _)) (by simp [Value.oneCell']) (by omega) (by unfold maxLen; omega) (by omega) (by simp; omega) (w6.heap.size + 1) (by simp) ?_; intro gw8 capw8 w8 hownw8 hgroww8 hatw8 hltw8; have hzw8 : W.heap.size + 1 ≤ w8.heap.size := by (have := hgroww8.size; simp at this; omega))
       have HBw8 : Hid (Below (W.heap.size + 1) (W.alloc (.cells #[.int .i64 cur, .slice a k c] 70)) w8) := lH ((HBw6.out.alloc (by omega) _).grown hgroww8 (by simp; omega) (fun o ho => (hroww8.lt o ho).1)); have HRw8 : Hid (FRow w8 (W.heap.size + 1) (.slice (some ⟨gw8, 0, none⟩) (q + 1) capw8) (q + 1)) := lH ⟨_, hownw8⟩; clear hownw8 hgroww8 hatw8 hltw8 hroww8; go_wp2_with fail
       go_ret
       exact ⟨_, q + 1, rfl, by omega, HRw8.out.base (by omega), HW0.out.trans (HBw8.out.mono (by omega))⟩
      | true =>
       go_wp2_with (first | (at_builtin; refine wpList_append_lies _ rfl _ _ 279 rfl (W.heap.size + 1) 322 i0 (.agg #[.int .i64 0, .int .i64 0]) 2 16 Tryz.underlying279 hi hz0 hz1 hz2 rfl (by decide) _ (q) _ rfl (hroww8.alloc _) ⟨w6.heap.size, 0, none⟩ 1 1 [_, _] rfl rfl (World.news_of_block (heap_alloc_new w6 _)) (by simp [Value.oneCell']) (by omega) (by unfold maxLen; omega) (by omega) (by simp; omega) (w6.heap.size + 1) (by simp) ?_; intro gw8 capw8 w8 hownw8 hgroww8 hatw8 hltw8; have hzw8 : W.heap.size + 1 ≤ w8.heap.size := by (have := hgroww8.size; simp at this; omega)) | (at_builtin; refine wpList_append_lies _ rfl _ _ 279 rfl (W.heap.size + 1) 322 i0 (.agg #[.int .i64 0, .int .i64 0]) 2 16 Tryz.underlying279 hi hz0 hz1 hz2 rfl (by decide) _ (q + 1) _ rfl (hownw8.alloc _) ⟨w8.heap.size, 0, none⟩ 1 1 [_, _] rfl rfl (World.news_of_block (heap_alloc_new w8 _)) (by simp [Value.oneCell']) (by omega) (by unfold maxLen; omega) (by omega) (by simp; omega) (w8.heap.size + 1) (by simp) ?_; intro gw9 capw9 w9 hownw9 hgroww9 hatw9 hltw9; have hzw9 : W.heap.size + 1 ≤ w9.heap.size := by (have := hgroww9.size; simp at this; omega)))
       have HBw8 : Hid (Below (W.heap.size + 1) (W.alloc (.cells #[.int .i64 cur, .slice a k c] 70)) w8) := lH ((HBw6.out.alloc (by omega) _).grown hgroww8 (by simp; omega) (fun o ho => (hroww8.lt o ho).1)); have HRw8 : Hid (FRow w8 (W.heap.size + 1) (.slice (some ⟨gw8, 0, none⟩) (q + 1) capw8) (q + 1)) := lH ⟨_, hownw8⟩; have HBw9 : Hid (Below (W.heap.size + 1) (W.alloc (.cells #[.int .i64 cur, .slice a k c] 70)) w9) := lH ((HBw8.out.alloc (by omega) _).grown hgroww9 (by simp; omega) (fun o ho => (hownw8.lt o ho).1)); have HRw9 : Hid (FRow w9 (W.heap.size + 1) (.slice (some ⟨gw9, 0, none⟩) (q + 1 + 1) capw9) (q + 1 + 1)) := lH ⟨_, hownw9⟩; clear hownw8 hgroww8 hatw8 hltw8 hroww8 hownw9 hgroww9 hatw9 hltw9; go_wp2_with fail
       go_ret
       exact ⟨_, q + 1 + 1, rfl, by omega, HRw9.out.base (by omega), HW0.out.trans (HBw9.out.mono (by omega))⟩
end
end Go.Proofs.YtoiajjobecinpaaGreat
