/- Package account in general, as plain functions on the four numbers. slots.List, and All. A core runs one for a tick. gro -/
import Derived.Sort.BigQuietIn
import Derived.Test.YtoiajjobecinpaaGreatTA06
set_option maxHeartbeats 4000000
namespace Go.Proofs.YtoiajjobecinpaaGreat
open Go.RowKit Go.Shelf Go.Lib Go.Proofs
set_option linter.unusedVariables false
set_option linter.unusedSimpArgs false
abbrev acc (q p l f : Int) : Value := .agg #[.int .i64 q, .int .i64 p, .int .i64 l, .int .i64 f]
def FreeA (q p l f : Int) : Prop := q = 0 ∧ p = 0 ∧ l = 0 ∧ f = 0
def FullA (q p l f : Int) : Prop := 1 ≤ q ∧ q ≤ 1073741824 ∧ 1 ≤ p ∧ p ≤ 1073741824 ∧ 0 ≤ l ∧ l ≤ q ∧ 0 ≤ f ∧ f < p
instance (q p l f : Int) : Decidable (FreeA q p l f) := by unfold FreeA; infer_instance
instance (q p l f : Int) : Decidable (FullA q p l f) := by unfold FullA; infer_instance
def goodB (q p l f : Int) : Bool := decide (FreeA q p l f ∨ FullA q p l f)
def freeB (q p l f : Int) : Bool := decide (FreeA q p l f)
def spentB (q p l f : Int) : Bool := decide (FullA q p l f ∧ l = 0)
theorem ret_bool {a b : Bool} (h : a = b) : Ending.returned (.bool a) = .returned (.bool b) := by rw [h]
theorem yes {P : Prop} [Decidable P] (h : P) : true = decide P := (decide_eq_true h).symm
theorem no {P : Prop} [Decidable P] (h : ¬ P) : false = decide P := (decide_eq_false h).symm
theorem below_one (w : World) (o : Obj) : Below w.heap.size w (w.alloc o) := (Below.refl _ _).alloc (Nat.le_refl _) _
theorem afree_any (q p l f : Int) (w : World) :
 Calls Tryz.prog 157 #[acc q p l f] w fun e w' => e = .returned (.bool (freeB q p l f)) ∧ Below w.heap.size w w' := by
 go_enter Tryz.func157, Tryz.ntmps157; go_wp2
 all_goals
  go_ret
  exact ⟨ret_bool (by first | exact yes (by unfold FreeA; omega) | exact no (by unfold FreeA; omega)), below_one _ _⟩
theorem agood_any (q p l f : Int) (w : World) :
 Calls Tryz.prog 147 #[acc q p l f] w fun e w' => e = .returned (.bool (goodB q p l f)) ∧ Below w.heap.size w w' := by
 go_enter Tryz.func147, Tryz.ntmps147; go_wp2
 all_goals
  go_ret
  exact ⟨ret_bool (by first | exact yes (by unfold FreeA FullA; omega) | exact no (by unfold FreeA FullA; omega) | exact decide_eq_decide.2 (by unfold FreeA FullA; omega)), below_one _ _⟩
theorem full_not_free {q p l f : Int} (h : FullA q p l f) : freeB q p l f = false := by
 unfold freeB; exact decide_eq_false (by unfold FullA at h; unfold FreeA; omega)
theorem full_good {q p l f : Int} (h : FullA q p l f) : goodB q p l f = true := decide_eq_true (.inr h)
theorem free_good {q p l f : Int} (h : FreeA q p l f) : goodB q p l f = true := decide_eq_true (.inl h)
theorem three (q p l f : Int) : FullA q p l f ∨ FreeA q p l f ∨ goodB q p l f = false := by
 by_cases h1 : FullA q p l f
 · exact .inl h1
 · by_cases h2 : FreeA q p l f
   · exact .inr (.inl h2)
   · exact .inr (.inr (decide_eq_false (by rintro (h | h) <;> contradiction)))
theorem below_step {w w1 : World} (o : Obj) (h : Below (w.alloc o).heap.size (w.alloc o) w1) : Below w.heap.size w w1 := (below_one w o).trans (h.mono (by simp))
theorem aspent_any (q p l f : Int) (w : World) :
 Calls Tryz.prog 156 #[acc q p l f] w fun e w' => e = .returned (.bool (spentB q p l f)) ∧ Below w.heap.size w w' := by
 have hg := agood_any q p l f; have hf := afree_any q p l f; have HT := three q p l f; obtain ⟨r, HR⟩ : ∃ r, Hid (spentB q p l f = r) := ⟨_, lH rfl⟩
 rw [HR.out]; rcases HT with h | h | h
 · rw [full_good h] at hg; rw [full_not_free h] at hf; obtain ⟨d, HD⟩ : ∃ d, Hid ((l == 0) = d) := ⟨_, lH rfl⟩
   have er : r = d := by rw [← HR.out, ← HD.out]; unfold spentB; rw [decide_eq_decide.2 (show (FullA q p l f ∧ l = 0) ↔ l = 0 from ⟨fun g => g.2, fun g => ⟨h, g⟩⟩)]; rfl
   subst er; have hd := HD.out; clear h; go_enter Tryz.func156, Tryz.ntmps156; go_wp2_with fail
   refine (hg _).mono ?_; rintro e w1 ⟨rfl, hb1⟩; obtain ⟨k1, k2⟩ := bcell hb1; go_wp2_with fail
   refine (hf _).mono ?_; rintro e w2 ⟨rfl, hb2⟩; obtain ⟨k3, k4⟩ := bcell hb2; have hz1 := hb1.size; rw [World.size_alloc] at hz1; have hz : w.heap.size < w1.heap.size := by omega
   go_wp2
   go_ret
   exact ⟨rfl, (below_step _ hb1).trans (hb2.mono (by omega))⟩
 · rw [free_good h] at hg; have e : freeB q p l f = true := decide_eq_true h; rw [e] at hf; have er : r = false := by rw [← HR.out]; exact decide_eq_false (by unfold FreeA at h; unfold FullA; omega)
   subst er; clear e h; go_enter Tryz.func156, Tryz.ntmps156; go_wp2_with fail
   refine (hg _).mono ?_; rintro e w1 ⟨rfl, hb1⟩; obtain ⟨k1, k2⟩ := bcell hb1; go_wp2_with fail
   refine (hf _).mono ?_; rintro e w2 ⟨rfl, hb2⟩; have hz1 := hb1.size; rw [World.size_alloc] at hz1; go_wp2
   go_ret
   exact ⟨rfl, (below_step _ hb1).trans (hb2.mono (by omega))⟩
 · rw [h] at hg; have er : r = false := by
    rw [← HR.out]; refine decide_eq_false fun g => ?_; rw [full_good g.1] at h; cases h
   subst er; clear h; go_enter Tryz.func156, Tryz.ntmps156; go_wp2_with fail
   refine (hg _).mono ?_; rintro e w1 ⟨rfl, hb1⟩; go_wp2
   go_ret
   exact ⟨rfl, below_step _ hb1⟩
abbrev Four := Int × Int × Int × Int
abbrev accT (t : Four) : Value := acc t.1 t.2.1 t.2.2.1 t.2.2.2
def newP (q p : Int) : Four × Int := if goodB q p q 0 = true then ((q, p, q, 0), 0) else ((0, 0, 0, 0), 1)
def useP (q p l f : Int) : Four × Int :=
 if FullA q p l f then (if l = 0 then ((0, 0, 0, 0), 14) else ((q, p, l - 1, f), 0))
 else if FreeA q p l f then ((q, p, l, f), 0) else ((0, 0, 0, 0), 1)
def tickP (q p l f n : Int) : Four × Bool :=
 if FullA q p l f ∧ 0 < n then (if p - f ≤ n then ((q, p, q, (f + n % p) % p), true) else ((q, p, l, (f + n % p) % p), false))
 else ((q, p, l, f), false)
theorem blk4 {w1 : World} {b : Nat} {c0 c1 c2 c3 : Value} {T : TypeId} (h : w1.heap[b]? = some (.cells #[c0, c1, c2, c3] T (0, 0))) (v0 v1 v2 v3 : Value) :
 ((((w1.setCell ⟨b, 0, none⟩ v0).setCell ⟨b, 1, none⟩ v1).setCell ⟨b, 2, none⟩ v2).setCell ⟨b, 3, none⟩ v3).heap[b]? = some (.cells #[v0, v1, v2, v3] T (0, 0)) := by
 simp [World.setCell, Array.getElem?_modify, h]
theorem cells4 {w1 : World} {b : Nat} {c0 c1 c2 c3 : Value} {T : TypeId} (h : w1.heap[b]? = some (.cells #[c0, c1, c2, c3] T (0, 0))) :
 w1.cell? ⟨b, 0, none⟩ = some c0 ∧ w1.cell? ⟨b, 1, none⟩ = some c1 ∧ w1.cell? ⟨b, 2, none⟩ = some c2 ∧ w1.cell? ⟨b, 3, none⟩ = some c3 := by
 simp [World.cell?, h]
theorem first_of_two {w w1 : World} {A B : Obj} (hb : Below ((w.alloc A).alloc B).heap.size ((w.alloc A).alloc B) w1) : w1.heap[w.heap.size]? = some A := by
 rw [hb.block _ (by simp; omega), Below.heap_alloc _ _ _ (by simp)]; exact heap_alloc_new w _
theorem second_of_two {w w1 : World} {A B : Obj} (hb : Below ((w.alloc A).alloc B).heap.size ((w.alloc A).alloc B) w1) : w1.heap[w.heap.size + 1]? = some B := by
 rw [hb.block _ (by simp)]; have := heap_alloc_new (w.alloc A) B; rwa [World.size_alloc] at this
theorem below_two {w w1 : World} {A B : Obj} (hb : Below ((w.alloc A).alloc B).heap.size ((w.alloc A).alloc B) w1) : Below w.heap.size w w1 :=
 (((Below.refl w.heap.size w).alloc (Nat.le_refl _) _).alloc (by simp) _).trans (hb.mono (by simp; omega))
theorem anew_any (q p : Int) (w : World) :
 Calls Tryz.prog 97 #[.int .i64 q, .int .i64 p] w fun e w' => e = .returned (.tuple #[accT (newP q p).1, .int .i64 (newP q p).2]) ∧ Below w.heap.size w w' := by
 have hg := agood_any q p q 0; cases hb : goodB q p q 0 with
 | true =>
  rw [hb] at hg; rw [show newP q p = ((q, p, q, 0), 0) from if_pos hb]; clear hb; go_enter Tryz.func97, Tryz.ntmps97; go_wp2_with fail
  refine (hg _).mono ?_; rintro e w1 ⟨rfl, hb1⟩; obtain ⟨k1, k2⟩ := bcell hb1; have hz1 := hb1.size; go_wp2_with fail
  obtain ⟨r0, r1, r2, r3⟩ := cells4 (blk4 (first_of_two hb1) (.int .i64 q) (.int .i64 p) (.int .i64 q) (.int .i64 0)); refine bodyPost_ret (v := .tuple #[acc q p q 0, .int .i64 0]) (by simp [results, Tryz.results97, go_sem, r0, r1, r2, r3]) rfl ⟨rfl, ?_⟩; have hbb := below_two hb1; repeat (first | exact hbb | refine Below.setCell ?_ (by simp) _)
 | false =>
  rw [hb] at hg; rw [show newP q p = ((0, 0, 0, 0), 1) from if_neg (by rw [hb]; decide)]; clear hb; go_enter Tryz.func97, Tryz.ntmps97; go_wp2_with fail
  refine (hg _).mono ?_; rintro e w1 ⟨rfl, hb1⟩; obtain ⟨k1, k2⟩ := bcell hb1; have hz1 := hb1.size; go_wp2_with fail
  obtain ⟨r0, r1, r2, r3⟩ := cells4 (blk4 (first_of_two hb1) (.int .i64 0) (.int .i64 0) (.int .i64 0) (.int .i64 0)); refine bodyPost_ret (v := .tuple #[acc 0 0 0 0, .int .i64 1]) (by simp [results, Tryz.results97, go_sem, r0, r1, r2, r3]) rfl ⟨rfl, ?_⟩; have hbb := below_two hb1; repeat (first | exact hbb | refine Below.setCell ?_ (by simp) _)
theorem frozen_row {w1 : World} {b : Nat} {cs : Array Value} {T : TypeId} (h : w1.heap[b]? = some (.cells cs T (0, 0))) : ∀ i, w1.frozen? ⟨b, i, none⟩ = false := by
 intro i; simp [World.frozen?, h]
theorem spent_full {q p l f : Int} (h : FullA q p l f) : spentB q p l f = decide (l = 0) := by
 unfold spentB; exact decide_eq_decide.2 ⟨fun g => g.2, fun g => ⟨h, g⟩⟩
theorem free_not_full {q p l f : Int} (h : FreeA q p l f) : ¬ FullA q p l f := by unfold FreeA at h; unfold FullA; omega
theorem kept_row {W w1 : World} {b : Nat} {o : Obj} (hb : Below W.heap.size W w1) (h : W.heap[b]? = some o) : w1.heap[b]? = some o := by
 rw [hb.block b (Array.getElem?_eq_some_iff.1 h).1, h]
theorem ause_any (q p l f : Int) (w : World) (hl : -9223372036854775808 ≤ l) (hl2 : l ≤ 9223372036854775807) :
 Calls Tryz.prog 113 #[acc q p l f] w fun e w' => e = .returned (.tuple #[accT (useP q p l f).1, .int .i64 (useP q p l f).2]) ∧ Below w.heap.size w w' := by
 have hg := agood_any q p l f; have hs := aspent_any q p l f; have hf := afree_any q p l f; rcases three q p l f with h | h | h
 · rw [full_good h] at hg; rw [full_not_free h] at hf; rw [spent_full h] at hs; by_cases hl0 : l = 0
   · rw [decide_eq_true hl0] at hs; rw [show useP q p l f = ((0, 0, 0, 0), 14) from by unfold useP; rw [if_pos h, if_pos hl0]]; clear h hl0; go_enter Tryz.func113, Tryz.ntmps113; go_wp2_with fail
     refine (hg _).mono ?_; rintro e w1 ⟨rfl, hb1⟩; obtain ⟨k1, k2⟩ := bcell hb1; have b1 := first_of_two hb1; have b2 := second_of_two hb1; have hz1 := hb1.size; rw [World.size_alloc, World.size_alloc] at hz1; go_wp2_with fail
     refine (hs _).mono ?_; rintro e w2 ⟨rfl, hb2⟩; obtain ⟨k3, k4⟩ := bcell hb2; have hz2 := hb2.size; obtain ⟨r0, r1, r2, r3⟩ := cells4 (blk4 (kept_row hb2 b2) (.int .i64 0) (.int .i64 0) (.int .i64 0) (.int .i64 0)); have hz : w.heap.size + 1 < w1.heap.size := by omega
     go_wp2_with fail
     refine bodyPost_ret (v := .tuple #[acc 0 0 0 0, .int .i64 14]) (by simp [results, Tryz.results113, go_sem, r0, r1, r2, r3]) rfl ⟨rfl, ?_⟩; have hbb := (below_two hb1).trans (hb2.mono (by omega))
     repeat (first | exact hbb | refine Below.setCell ?_ (by simp) _)
   · rw [decide_eq_false hl0] at hs; rw [show useP q p l f = ((q, p, l - 1, f), 0) from by unfold useP; rw [if_pos h, if_neg hl0]]; have hl1 : 1 ≤ l := by unfold FullA at h; omega
     clear h hl0; go_enter Tryz.func113, Tryz.ntmps113; go_wp2_with fail
     refine (hg _).mono ?_; rintro e w1 ⟨rfl, hb1⟩; obtain ⟨k1, k2⟩ := bcell hb1; have b1 := first_of_two hb1; have b2 := second_of_two hb1; have hz1 := hb1.size; rw [World.size_alloc, World.size_alloc] at hz1; have hz : w.heap.size + 1 < w1.heap.size := by omega
     go_wp2_with fail
     refine (hs _).mono ?_; rintro e w2 ⟨rfl, hb2⟩; obtain ⟨k3, k4⟩ := bcell hb2; have hz2 := hb2.size; have hz' : w.heap.size + 1 < w2.heap.size := by omega
     replace b1 := kept_row hb2 b1; replace b2 := kept_row hb2 b2; obtain ⟨u0, u1, u2, u3⟩ := cells4 b1; go_wp2_with fail
     refine (hf _).mono ?_; rintro e w3 ⟨rfl, hb3⟩; replace b1 := kept_row hb3 b1; replace b2 := kept_row hb3 b2; obtain ⟨y0, y1, y2, y3⟩ := cells4 b1; obtain ⟨t0, t1, t2, t3⟩ := cells4 b2; have f1 := frozen_row b1; have f2 := frozen_row b2; have hz3 := hb3.size; have hbb := ((below_two hb1).trans (hb2.mono (by omega))).trans (hb3.mono (by omega))
     have m1 : (w3.setCell ⟨w.heap.size, 2, none⟩ (.int .i64 (l - 1))).heap[w.heap.size]? = some (.cells #[.int .i64 q, .int .i64 p, .int .i64 (l - 1), .int .i64 f] 119 (0, 0)) := by
      simp [World.setCell, Array.getElem?_modify, b1]
     obtain ⟨_, _, m2, _⟩ := cells4 m1; have n1 : (w3.setCell ⟨w.heap.size, 2, none⟩ (.int .i64 (l - 1))).heap[w.heap.size + 1]? = _ := (Below.heap_setCell _ _ _ _ (by simp)).trans b2; obtain ⟨r0, r1, r2, r3⟩ := cells4 (blk4 n1 (.int .i64 q) (.int .i64 p) (.int .i64 (l - 1)) (.int .i64 f)); clear m1 n1 b1 b2 k1 k2 k3 k4; go_wp2_with fail
     refine bodyPost_ret (v := .tuple #[acc q p (l - 1) f, .int .i64 0]) (by simp [results, Tryz.results113, go_sem, r0, r1, r2, r3]) rfl ⟨rfl, ?_⟩; repeat (first | exact hbb | refine Below.setCell ?_ (by simp) _)
 · rw [free_good h] at hg; rw [show freeB q p l f = true from decide_eq_true h] at hf; rw [show spentB q p l f = false from decide_eq_false fun g => free_not_full h g.1] at hs; rw [show useP q p l f = ((q, p, l, f), 0) from by unfold useP; rw [if_neg (free_not_full h), if_pos h]]; clear h; go_enter Tryz.func113, Tryz.ntmps113; go_wp2_with fail
   refine (hg _).mono ?_; rintro e w1 ⟨rfl, hb1⟩; obtain ⟨k1, k2⟩ := bcell hb1; have b1 := first_of_two hb1; have b2 := second_of_two hb1; have hz1 := hb1.size; rw [World.size_alloc, World.size_alloc] at hz1; have hz : w.heap.size + 1 < w1.heap.size := by omega
   go_wp2_with fail
   refine (hs _).mono ?_; rintro e w2 ⟨rfl, hb2⟩; have hz2 := hb2.size; have hz' : w.heap.size + 1 < w2.heap.size := by omega
   replace b1 := kept_row hb2 b1; replace b2 := kept_row hb2 b2; obtain ⟨u0, u1, u2, u3⟩ := cells4 b1; go_wp2_with fail
   refine (hf _).mono ?_; rintro e w3 ⟨rfl, hb3⟩; replace b1 := kept_row hb3 b1; replace b2 := kept_row hb3 b2; obtain ⟨y0, y1, y2, y3⟩ := cells4 b1; obtain ⟨t0, t1, t2, t3⟩ := cells4 b2; have f2 := frozen_row b2; have hz3 := hb3.size; have hbb := ((below_two hb1).trans (hb2.mono (by omega))).trans (hb3.mono (by omega))
   obtain ⟨r0, r1, r2, r3⟩ := cells4 (blk4 b2 (.int .i64 q) (.int .i64 p) (.int .i64 l) (.int .i64 f)); clear b2 b1 k1 k2; go_wp2_with fail
   refine bodyPost_ret (v := .tuple #[acc q p l f, .int .i64 0]) (by simp [results, Tryz.results113, go_sem, r0, r1, r2, r3]) rfl ⟨rfl, ?_⟩; repeat (first | exact hbb | refine Below.setCell ?_ (by simp) _)
 · rw [show useP q p l f = ((0, 0, 0, 0), 1) from by
    unfold useP; rw [if_neg (fun g => by rw [full_good g] at h; cases h), if_neg (fun g => by rw [free_good g] at h; cases h)]]
   rw [h] at hg; clear h; go_enter Tryz.func113, Tryz.ntmps113; go_wp2_with fail
   refine (hg _).mono ?_; rintro e w1 ⟨rfl, hb1⟩; obtain ⟨k1, k2⟩ := bcell hb1; have b2 := second_of_two hb1; have hz1 := hb1.size; obtain ⟨r0, r1, r2, r3⟩ := cells4 (blk4 b2 (.int .i64 0) (.int .i64 0) (.int .i64 0) (.int .i64 0)); have hbb := below_two hb1; clear b2; go_wp2_with fail
   refine bodyPost_ret (v := .tuple #[acc 0 0 0 0, .int .i64 1]) (by simp [results, Tryz.results113, go_sem, r0, r1, r2, r3]) rfl ⟨rfl, ?_⟩; repeat (first | exact hbb | refine Below.setCell ?_ (by simp) _)
section
attribute [local go_sem] Oper.semAt_some
theorem info3 : (Tryz.prog.info? 3).map (fun i => (i.zero, i.size, i.bytes)) = some (some (.int .i64 0), 1, 8) := by kernel_rfl
def listFrom (i : Nat) : List (Int × Bool) → List Int
 | [] => []
 | p :: l => if p.2 = true then ((i : Int) + 64 * (p.1 - 1)) :: listFrom (i + 1) l else listFrom (i + 1) l
def listP (ps : List (Int × Bool)) : List Int := listFrom 0 ps
theorem listFrom_snoc (p : Int × Bool) : ∀ (l : List (Int × Bool)) (i : Nat), listFrom i (l ++ [p]) = listFrom i l ++ (if p.2 = true then [((i + l.length : Nat) : Int) + 64 * (p.1 - 1)] else [])
 | [], i => by simp [listFrom]
 | q :: l, i => by
  rw [List.cons_append]; simp only [listFrom, listFrom_snoc p l (i + 1), List.length_cons]; rw [show i + 1 + l.length = i + (l.length + 1) from by omega]; split <;> simp
theorem listP_take (ps : List (Int × Bool)) (k : Nat) (hk : k < ps.length) :
 listP (ps.take (k + 1)) = listP (ps.take k) ++ (if (ps.getD k default).2 = true then [(k : Int) + 64 * ((ps.getD k default).1 - 1)] else []) := by
 unfold listP; rw [List.take_succ_eq_append_getElem hk, listFrom_snoc, List.length_take, Nat.min_eq_left (by omega), Nat.zero_add, List.getD_eq_getElem?_getD, List.getElem?_eq_getElem hk]; rfl
theorem listFrom_len : ∀ (l : List (Int × Bool)) (i : Nat), (listFrom i l).length ≤ l.length
 | [], _ => by simp [listFrom]
 | q :: l, i => by
  have := listFrom_len l (i + 1); simp only [listFrom]; split
  · simp; omega
  · simp; omega
set_option maxRecDepth 100000 in
theorem slist_any (b a : Nat) (ps : List (Int × Bool)) (w : World) (hs : SlotsAt w b a ps) (hz : Sized ps) :
 Calls Tryz.prog 172 #[.pointer (some ⟨b, 0, none⟩)] w fun e W' => ∃ v, e = .returned v ∧ W'.ownsRow w.heap.size 3 1 v (listP ps).length ((listP ps).map fun x => .int .i64 x) ∧ Below w.heap.size w W' := by
 have c0 := hs.head; obtain ⟨i0, hi, hz0, hz1, hz2⟩ := info_parts info3; have hlt := hs.lt; have HS := lH hs; have HZ := lH hz.2; have h64 := hz.1; obtain ⟨m, hm⟩ : ∃ m, ps.length = m := ⟨_, rfl⟩
 rw [hm] at c0 h64; have HM := lH hm; clear hs hz hm; go_enter Tryz.func172, Tryz.ntmps172; go_wp2_with fail
 go_loopw [3, 11] (fun s x wr => ∃ k : Nat, k ≤ m ∧ x = .int .i64 k ∧ Hid (wr.ownsRow w.heap.size 3 1 s (listP (ps.take k)).length ((listP (ps.take k)).map fun x => .int .i64 x)) ∧ Hid (Below w.heap.size w wr)) (fun _ x _ => m - (intOf x).toNat)
 case atStart => exact ⟨0, Nat.zero_le _, rfl, lH (World.ownsRow_nil ..), lH (Below.refl _ _)⟩
 case round =>
  obtain ⟨k, hk, rfl, HR, HB⟩ := hrel; by_cases hkn : k < m
  · have hkl : k < ps.length := by rw [HM.out]; exact hkn
    have hS := HS.out.below HB.out hlt.1 hlt.2; have t1 := hS.turn k hkl; have t2 := hS.taken k hkl; have hb := HZ.out k hkl; have hnext := listP_take ps k hkl; have hlen : (listP (ps.take k)).length ≤ k := Nat.le_trans (listFrom_len _ _) (by rw [List.length_take]; omega); generalize (ps.getD k default).1 = tn at t1 hb hnext; generalize (ps.getD k default).2 = tk at t2 hnext; have hk1 : (k : Int) < (m : Int) := by omega
    have hk0 : 0 ≤ (k : Int) := by omega
    have hbz := HB.out.size; have HN := lH hnext; obtain ⟨q, hq⟩ : ∃ q, (listP (ps.take k)).length = q := ⟨_, rfl⟩
    rw [hq] at HR hlen; have HQ := lH hq; clear hS hnext hq; obtain ⟨b1, b2⟩ := hb; cases tk with
    | true =>
     have hrow := HR.out; go_wp2_with (at_builtin; refine wpList_append_lies _ rfl _ _ 22 rfl w.heap.size 3 i0 (.int .i64 0) 1 8 Tryz.underlying22 hi hz0 hz1 hz2 rfl (by decide) _ q _ rfl ((hrow.alloc _).alloc _) ⟨wr.heap.size + 1, 0, none⟩ 1 1 [.int .i64 ((k : Int) + 64 * (tn - 1))] rfl rfl (World.news_of_block (cs := #[.int .i64 ((k : Int) + 64 * (tn - 1))]) (t := 3) (fr := (0, 0)) (by have := heap_alloc_new (wr.alloc (.cells #[.int .i64 tn, .bool true] 248)) (.cells #[.int .i64 ((k : Int) + 64 * (tn - 1))] 3); simpa using this)) (by simp [Value.oneCell']) (by omega) (by unfold maxLen; omega) (by omega) (by simp; omega) (wr.heap.size + 2) (by simp) ?_; intro g cap w4 hown4 hgrow4 hat4 hlt4)
     rw [if_pos rfl] at HN; have hr : w4.ownsRow w.heap.size 3 1 (.slice (some ⟨g, 0, none⟩) (q + 1) cap) (listP (ps.take (k + 1))).length ((listP (ps.take (k + 1))).map fun x => .int .i64 x) := by
      rw [HN.out, List.map_append, List.length_append, HQ.out]; exact hown4
     have HR4 := lH hr; have HB4 : Hid (Below w.heap.size w w4) := lH (((HB.out.alloc hbz _).alloc (by simp; omega) _).grown hgrow4 (by simp; omega) (fun j hj => (hrow.lt j hj).1)); clear hr hown4 hgrow4 hat4 hlt4 hrow; go_roundw
     case rel => exact ⟨k + 1, hkn, by go_num, HR4, HB4⟩
     case measure => simp [intOf]; omega
    | false =>
     rw [if_neg (by simp), List.append_nil] at HN; have hr : (wr.alloc (.cells #[.int .i64 tn, .bool false] 248)).ownsRow w.heap.size 3 1 u3 (listP (ps.take (k + 1))).length ((listP (ps.take (k + 1))).map fun x => .int .i64 x) := by
      rw [HN.out, HQ.out]; exact HR.out.alloc _
     have HR4 := lH hr; have HB4 : Hid (Below w.heap.size w (wr.alloc (.cells #[.int .i64 tn, .bool false] 248))) := lH (HB.out.alloc hbz _); clear hr; go_wp2_with fail
     go_roundw
     case rel => exact ⟨k + 1, hkn, by go_num, HR4, HB4⟩
     case measure => simp [intOf]; omega
  · obtain rfl : k = m := by omega
    have hall : ps.take k = ps := List.take_of_length_le (by rw [HM.out]; exact Nat.le_refl _); rw [hall] at HR; clear hall; go_wp2_with fail
    go_ret
    exact ⟨_, rfl, HR.out, HB.out⟩
end
theorem CoreIn.upd {W : World} {cb : Nat} {F : Nat → Prop} {c : Co} (h : CoreIn W cb F c) : ∃ (mb n : Nat) (D : DataW Unit), W.cell? ⟨cb, 1, none⟩ = some (.map (some mb)) ∧ W.ownsMap Tryz.prog 3 (plainElem (H := Unit) Tryz.prog 2) mb n D ∧ n ≤ c.srv ∧
 ∀ (w2 : World) (D' : DataW Unit), w2.ownsMap Tryz.prog 3 (plainElem (H := Unit) Tryz.prog 2) mb (n + 1) D' → W.grownBy w2 (some mb) → CoreIn w2 cb F ⟨c.tag, c.l, c.age, c.srv + 1⟩ ∧ Touch F W w2 := by
 obtain ⟨qb, mb, n, idle, G, D, h1, h2, h3, h4, h5, h6, h7, h8, h9, h10, h11, h12, h13⟩ := h; refine ⟨mb, n, D, h2, h7, h8, fun w2 D' hm hg => ?_⟩; have hk : ∀ k, F k → k ≠ mb → w2.heap[k]? = W.heap[k]? := fun k hk hne => hg.block k (h13 k hk) (by simpa using hne); have hcb := hk cb h9 h11; have h0 : ∀ i, w2.cell? ⟨cb, i, none⟩ = W.cell? ⟨cb, i, none⟩ := fun i => World.cell?_of_block hcb; have h0' : ∀ i, w2.frozen? ⟨cb, i, none⟩ = W.frozen? ⟨cb, i, none⟩ := fun i => World.frozen?_of_block hcb; refine ⟨⟨qb, mb, n + 1, idle, G, D', (h0 0).trans h1, (h0 1).trans h2, (h0 2).trans h3, (h0 3).trans h4, fun i => (h0' i).trans (h5 i), h6.same hg.size (fun k hk' => hk k (h12 k hk').1 (h12 k hk').2.2), hm, by simp only; omega, h9, h10, h11, h12, fun k hk => Nat.lt_of_lt_of_le (h13 k hk) hg.size⟩, ?_⟩; exact ⟨hg.os, hg.tape, hg.output, hg.size, fun k hk hn => hg.block k hk (fun e => hn (by simp at e; rw [e]; exact h10))⟩
theorem keyed3 : Maps.Keyed Tryz.prog 3 := Maps.int_keyed Tryz.underlying3
theorem key3 {x : Int} (h0 : -9223372036854775808 ≤ x) (h1 : x ≤ 9223372036854775807) : keyOf Tryz.prog 3 (.int .i64 x) = some (.int .i64 x) := by
 have hw : (Lit.int .i64 x).wf = true := by simp [Lit.wf, IntKind.min, IntKind.max, IntKind.signed, IntKind.bits]; omega
 unfold keyOf; rw [Tryz.underlying3]; simp [mapKey, Tryz.underlying3, hw]
theorem zero2 (w : World) : (zeroValue 2).run Tryz.prog w = .ok (.int .i64 0) w := by kernel_rfl
theorem wrap_wf (x : Int) : (Lit.int .i64 (wrap64 x)).wf = true := by
 simp [Lit.wf, IntKind.min, IntKind.max, IntKind.signed, IntKind.bits, wrap64]; omega
def Ids (l : Ln) : Prop := ∀ p ∈ l.ps, 0 ≤ p.id ∧ p.id ≤ 1073741824
def coreRun (c : Co) : Int × Int × Co :=
 let r := runL c.tag c.l
 if r.2.1 = 0 then (r.1, 0, ⟨c.tag, r.2.2, wrap64 (c.age + 1), c.srv + 1⟩)
 else if r.2.1 = 14 then (-1, 0, ⟨c.tag, r.2.2, wrap64 (c.age + 1), c.srv⟩)
 else (r.1, r.2.1, ⟨c.tag, r.2.2, c.age, c.srv⟩)
theorem chargeL_id (l : Ln) (h : Ids l) : 0 ≤ (chargeL l).1 ∧ (chargeL l).1 ≤ 1073741824 := by
 unfold chargeL; rcases posP_cases l.ps l.cur with ⟨hp, _⟩ | ⟨k, hk, hp, _⟩
 · rw [if_pos (by omega)]; simp
 · rw [if_neg (by omega), hp]; simp only [Int.toNat_natCast]; split
   · simp
   · have := h (l.ps[k]!) (by rw [getElem!_list hk]; exact List.getElem_mem hk); exact this
theorem pickT_ps (tag : Int) (l : Ln) : (pickT tag l).ps = l.ps ∧ (pickT tag l).base = l.base := by
 unfold pickT; split
 · exact takeL_ps l
 · split
   · exact pickF_ps l
   · exact pickD_ps l
def CRunP (cb : Nat) (F : Nat → Prop) (r : Int × Int × Co) (W : World) (e : Ending) (w' : World) : Prop :=
 e = .returned (.tuple #[.int .i64 r.1, .int .i64 r.2.1]) ∧ (∃ F', CoreIn w' cb F' r.2.2 ∧ Touch F W w' ∧ ∀ k, F' k → F k ∨ W.heap.size ≤ k)
set_option maxRecDepth 100000 in
theorem crun_any (cb : Nat) (F : Nat → Prop) (c : Co) (W : World) (h : CoreIn W cb F c) (hf : Fits c.l) (hi : Ids c.l) (hs : c.srv < 1000000000) :
 Calls Tryz.prog 111 #[.pointer (some ⟨cb, 0, none⟩)] W (CRunP cb F (coreRun c) W) := by
 obtain ⟨qb, G, c0, hQ, hGF, hback⟩ := h.q; have hrun := prun_any qb G c.tag c.l W hQ hf; have hid := chargeL_id (pickT c.tag c.l) (by unfold Ids; rw [(pickT_ps c.tag c.l).1]; exact hi); change 0 ≤ (runL c.tag c.l).1 ∧ (runL c.tag c.l).1 ≤ 1073741824 at hid; unfold coreRun; obtain ⟨⟨r1, r2, l2⟩, hr⟩ : ∃ r, runL c.tag c.l = r := ⟨_, rfl⟩
 rw [hr] at hrun hid ⊢; simp only at hid ⊢; obtain ⟨i1, i2⟩ := hid; have hlt := h.lt; have HLT := lH hlt; have HB := lH hback; have HGF := lH hGF; have HS := lH hs; clear h hf hi hs hQ hr hback hlt hGF; by_cases hz : r2 = 0
 · rw [if_pos hz]; subst hz; go_enter Tryz.func111, Tryz.ntmps111; go_wp2_with fail
   refine hrun.mono ?_; rintro e w1 ⟨rfl, hQ1, hT1⟩; have hC1 := HB.out w1 G c.tag l2 hQ1 hT1 (fun k hk => .inl hk); have hT1' : Touch F W w1 := hT1.wider HGF.out; have hC1' : CoreIn w1 cb F ⟨c.tag, l2, c.age, c.srv⟩ := hC1.wider (fun k hk => hk.elim (fun h => h) (HGF.out k)) (fun k hk => Nat.lt_of_lt_of_le (HLT.out k hk) hT1.size); obtain ⟨mb, n, D, m1, m2, m3, m4⟩ := hC1'.upd; simp only at m3; obtain ⟨x, hlook, -, hwf⟩ := m2.lookup_int (t := 225) (e := 2) keyed3 Tryz.underlying225 Tryz.underlying2 (zero2 w1) (key3 (x := r1) (by omega) (by omega)); obtain ⟨w2, hupd, m5, m6⟩ := m2.update (t := 225) (e := 2) keyed3 Tryz.underlying225 (by have := HS.out; unfold maxLen; omega) (key3 (x := r1) (by omega) (by omega)) (plainElem_int Tryz.underlying2 (wrap_wf (x + 1))); obtain ⟨hC2, hT2⟩ := m4 w2 _ m5 m6; have hdone := done_any cb F _ 0 w2 hC2; have HT : Hid (Touch F W w2) := lH (hT1'.self hT2); clear hT1 hQ1 hC1 hT1' hC1' m2 m3 m4 m5 m6 hC2 hT2 hwf; go_wp2_with fail
   refine hdone.mono ?_; rintro e w3 ⟨rfl, hC3, hT3⟩; have HC3 := lH hC3; have HT3 := lH hT3; clear hC3 hT3; go_wp2_with fail
   go_ret2
   exact ⟨rfl, F, HC3.out, HT.out.self HT3.out, fun k hk => .inl hk⟩
 · rw [if_neg hz]; have hz1 : (r2 == 0) = false := by simp [hz]
   by_cases hn : r2 = 14
   · rw [if_pos hn]; subst hn; go_enter Tryz.func111, Tryz.ntmps111; go_wp2_with fail
     refine hrun.mono ?_; rintro e w1 ⟨rfl, hQ1, hT1⟩; have hC1 := HB.out w1 G c.tag l2 hQ1 hT1 (fun k hk => .inl hk); have hT1' : Touch F W w1 := hT1.wider HGF.out; have hC1' : CoreIn w1 cb F ⟨c.tag, l2, c.age, c.srv⟩ := hC1.wider (fun k hk => hk.elim (fun h => h) (HGF.out k)) (fun k hk => Nat.lt_of_lt_of_le (HLT.out k hk) hT1.size); have hF := hC1'.here; obtain ⟨idle, hi2, fi2⟩ : ∃ idle : Int, w1.cell? ⟨cb, 2, none⟩ = some (.int .i64 idle) ∧ w1.frozen? ⟨cb, 2, none⟩ = false := by
      obtain ⟨qb, mb, n, idle, G, D, a1, a2, a3, a4, a5, a6, a7, a8, a9, a10, a11, a12, a13⟩ := hC1'; exact ⟨idle, a3, a5 2⟩
     have hC2 := hC1'.setIdle (wrap64 (idle + 1)); have hdone := done_any cb F _ 0 _ hC2; have HT : Hid (Touch F W (w1.setCell ⟨cb, 2, none⟩ (.int .i64 (wrap64 (idle + 1))))) := lH (hT1'.setCell (t := none) (.inl hF) _); clear hT1 hQ1 hC1 hT1' hC1' hC2; go_wp2_with fail
     refine hdone.mono ?_; rintro e w3 ⟨rfl, hC3, hT3⟩; have HC3 := lH hC3; have HT3 := lH hT3; clear hC3 hT3; go_wp2_with fail
     go_ret2
     exact ⟨rfl, F, HC3.out, HT.out.self HT3.out, fun k hk => .inl hk⟩
   · rw [if_neg hn]; have hz2 : (r2 == 14) = false := by simp [hn]
     go_enter Tryz.func111, Tryz.ntmps111; go_wp2_with fail
     refine hrun.mono ?_; rintro e w1 ⟨rfl, hQ1, hT1⟩; have hC1 := HB.out w1 G c.tag l2 hQ1 hT1 (fun k hk => .inl hk); have hT1' : Touch F W w1 := hT1.wider HGF.out; have hC1' : CoreIn w1 cb F ⟨c.tag, l2, c.age, c.srv⟩ := hC1.wider (fun k hk => hk.elim (fun h => h) (HGF.out k)) (fun k hk => Nat.lt_of_lt_of_le (HLT.out k hk) hT1.size); have hdone := done_any cb F _ r2 _ hC1'; have HT : Hid (Touch F W w1) := lH hT1'; have e : ageE r2 c.age = c.age := by unfold ageE; rw [if_neg hz]
     have HE := lH e; clear hT1 hQ1 hC1 hT1' hC1' e; go_wp2_with fail
     refine hdone.mono ?_; rintro e w3 ⟨rfl, hC3, hT3⟩; have HC3 := lH hC3; have HT3 := lH hT3; clear hC3 hT3; go_wp2_with fail
     go_ret2
     refine ⟨rfl, F, ?_, HT.out.self HT3.out, fun k hk => .inl hk⟩; have := HC3.out; simp only [HE.out] at this; exact this
def topG : List (Bool × Int) := (true, -1) :: List.replicate 15 (false, 0)
def g0 : G16 := ⟨0, by decide⟩
theorem topG_path : IsPath topG 0 [g0] := ⟨rfl, by decide, by show hasG topG (upG topG 0) = false; decide⟩
set_option maxRecDepth 100000 in
theorem gnew_any (W : World) :
 Calls Tryz.prog 43 #[] W fun e w' => e = .returned (.pointer (some ⟨W.heap.size, 0, none⟩)) ∧ GroupsAt w' W.heap.size topG ∧ w'.heap.size = W.heap.size + 1 ∧ Below W.heap.size W w' := by
 go_enter Tryz.func43, Tryz.ntmps43; go_wp2
 go_ret
 have hh := heap_alloc_new W (.cells #[.bool true, .int .i64 (-1), .bool false, .int .i64 0, .bool false, .int .i64 0, .bool false, .int .i64 0, .bool false, .int .i64 0, .bool false, .int .i64 0, .bool false, .int .i64 0, .bool false, .int .i64 0, .bool false, .int .i64 0, .bool false, .int .i64 0, .bool false, .int .i64 0, .bool false, .int .i64 0, .bool false, .int .i64 0, .bool false, .int .i64 0, .bool false, .int .i64 0, .bool false, .int .i64 0] 178); refine ⟨rfl, ⟨rfl, fun i hi => ?_, fun i hi => ?_, fun i => ?_⟩, by simp, (Below.refl _ _).alloc (Nat.le_refl _) _⟩
 · simp only [World.cell?, hh]; have : i = 0 ∨ i = 1 ∨ i = 2 ∨ i = 3 ∨ i = 4 ∨ i = 5 ∨ i = 6 ∨ i = 7 ∨ i = 8 ∨ i = 9 ∨ i = 10 ∨ i = 11 ∨ i = 12 ∨ i = 13 ∨ i = 14 ∨ i = 15 := by omega
   rcases this with rfl | rfl | rfl | rfl | rfl | rfl | rfl | rfl | rfl | rfl | rfl | rfl | rfl | rfl | rfl | rfl <;> rfl
 · simp only [World.cell?, hh]; have : i = 0 ∨ i = 1 ∨ i = 2 ∨ i = 3 ∨ i = 4 ∨ i = 5 ∨ i = 6 ∨ i = 7 ∨ i = 8 ∨ i = 9 ∨ i = 10 ∨ i = 11 ∨ i = 12 ∨ i = 13 ∨ i = 14 ∨ i = 15 := by omega
   rcases this with rfl | rfl | rfl | rfl | rfl | rfl | rfl | rfl | rfl | rfl | rfl | rfl | rfl | rfl | rfl | rfl <;> rfl
 · simp only [World.frozen?, hh]; simp
theorem zero188 (w : World) : (zeroValue 188).run Tryz.prog w = .ok (.pointer none) w := by kernel_rfl
theorem SysAt.look {W : World} {sb gb nb pb mb n : Nat} {cv : Value} {D : DataW Unit} {cbs : List Nat} {tb : Int → Nat} {own : Nat → Option Own} {s : Sy} (h : SysAt W sb gb nb pb mb n cv D cbs tb own s)
 (id : Int) (h1 : -9223372036854775808 ≤ id) (h2 : id ≤ 9223372036854775807) :
 (Instr.lookup 117 (.map (some mb)) (.int .i64 id) false).run Tryz.prog W = .ok (match s.tasks id with | none => .pointer none | some _ => .pointer (some ⟨tb id, 0, none⟩)) W := by
 obtain ⟨v, ps, hrun, hv⟩ := h.map.lookup (t := 117) (e := 188) keyed3 Tryz.underlying117 (zero188 W) (zd := .lit (.bool false)) (zp := []) rfl (key3 h1 h2); rw [h.reads id h1 h2] at hv; rw [hrun]; cases ht : s.tasks id with
 | none => rw [ht] at hv; rw [rptr_none hv]
 | some t => rw [ht] at hv; rw [rptr_some hv]
theorem SysAt.setTask {W W' : World} {sb gb nb pb mb n : Nat} {cv : Value} {D : DataW Unit} {cbs : List Nat} {tb : Int → Nat} {own : Nat → Option Own} {s : Sy} (h : SysAt W sb gb nb pb mb n cv D cbs tb own s)
 {id : Int} {t t' : Tk} (ht : s.tasks id = some t) (hT : TaskAt W' (tb id) t') (hto : Touch (fun k => k = tb id) W W') :
 SysAt W' sb gb nb pb mb n cv D cbs tb own ⟨s.cores, s.gs, s.acc, s.ps, fun x => if x = id then some t' else s.tasks x, s.cnt⟩ := by
 obtain ⟨_, hot⟩ := h.task id t ht; have hk : ∀ k x, own k = some x → x ≠ .task id → W'.heap[k]? = W.heap[k]? := fun k x hk hx => hto.block k (h.lt k (by rw [hk]; simp)) (fun e => by subst e; rw [hot] at hk; exact hx (by simpa using hk.symm)); have bsb := hk sb _ h.osb (by simp); have h0 : ∀ i, W'.cell? ⟨sb, i, none⟩ = W.cell? ⟨sb, i, none⟩ := fun i => World.cell?_of_block bsb; have h0' : ∀ i, W'.frozen? ⟨sb, i, none⟩ = W.frozen? ⟨sb, i, none⟩ := fun i => World.frozen?_of_block bsb; refine ⟨(h0 _).trans h.head, (h0 _).trans h.c1, fun i hi => ?_, (h0 _).trans h.c66, (h0 _).trans h.c67, fun i => (h0' i).trans (h.live i), h.groups.same (hk gb _ h.ogb (by simp)), h.slots.same (hk nb _ h.onb (by simp)) (hk pb _ h.opb (by simp)),
  ownsMap_same h.map (hk mb _ h.omb (by simp)), h.cnt, fun x hx1 hx2 => ?_, fun x u hu => ?_, ownsRow_same h.row (fun k hk' => hk k _ (h.rown k hk') (by simp)), h.rown, h.num, fun i hi => (h.core i hi).same hto.size (fun k hk' => hk k _ hk' (by simp)), h.osb, h.ogb, h.onb, h.opb, h.omb, fun k hk' => Nat.lt_of_lt_of_le (h.lt k hk') hto.size⟩
 · obtain ⟨a1, a2, a3, a4⟩ := h.acc i hi; exact ⟨(h0 _).trans a1, (h0 _).trans a2, (h0 _).trans a3, (h0 _).trans a4⟩
 · rw [h.reads x hx1 hx2]; by_cases e : x = id
   · subst e; simp only [if_pos, ht]
   · simp only [if_neg e]
 · by_cases e : x = id
   · subst e; simp only [if_pos, Option.some.injEq] at hu; subst hu; exact ⟨hT, hot⟩
   · simp only [if_neg e] at hu; obtain ⟨t1, t2⟩ := h.task x u hu; exact ⟨t1.same (hk _ _ t2 (by simp; exact e)), t2⟩
theorem TaskAt.setState {W : World} {b : Nat} {t : Tk} (h : TaskAt W b t) (x : Int) : TaskAt (W.setCell ⟨b, 4, none⟩ (.int .i64 x)) b ⟨t.id, t.w, t.group, t.core, x, t.mask, t.lag⟩ := by
 refine ⟨?_, ?_, ?_, ?_, World.cell?_setCell_same _ _ _ h.state, ?_, ?_, fun i => by rw [World.frozen?_setCell]; exact h.live i⟩
 · rw [cell_setCell_ne _ (by simp)]; exact h.id
 · rw [cell_setCell_ne _ (by simp)]; exact h.w
 · rw [cell_setCell_ne _ (by simp)]; exact h.group
 · rw [cell_setCell_ne _ (by simp)]; exact h.core
 · rw [cell_setCell_ne _ (by simp)]; exact h.mask
 · rw [cell_setCell_ne _ (by simp)]; exact h.lag
theorem TaskAt.setCore {W : World} {b : Nat} {t : Tk} (h : TaskAt W b t) (x : Int) : TaskAt (W.setCell ⟨b, 3, none⟩ (.int .i64 x)) b ⟨t.id, t.w, t.group, x, t.state, t.mask, t.lag⟩ := by
 refine ⟨?_, ?_, ?_, World.cell?_setCell_same _ _ _ h.core, ?_, ?_, ?_, fun i => by rw [World.frozen?_setCell]; exact h.live i⟩
 · rw [cell_setCell_ne _ (by simp)]; exact h.id
 · rw [cell_setCell_ne _ (by simp)]; exact h.w
 · rw [cell_setCell_ne _ (by simp)]; exact h.group
 · rw [cell_setCell_ne _ (by simp)]; exact h.state
 · rw [cell_setCell_ne _ (by simp)]; exact h.mask
 · rw [cell_setCell_ne _ (by simp)]; exact h.lag
theorem ptrs_get (cbs : List Nat) (i : Nat) (hi : i < cbs.length) : (ptrs cbs)[i]? = some (.pointer (some ⟨cbs[i]!, 0, none⟩)) := by
 unfold ptrs; rw [List.getElem?_map, List.getElem?_eq_getElem hi, getElem!_pos cbs i hi]; rfl
theorem SysAt.coreCell {W : World} {sb gb nb pb mb n g c m : Nat} {D : DataW Unit} {cbs : List Nat} {tb : Int → Nat} {own : Nat → Option Own} {s : Sy} (h : SysAt W sb gb nb pb mb n (.slice (some ⟨g, 0, none⟩) m c) D cbs tb own s)
 (i : Nat) (hi : i < cbs.length) : W.cell? ⟨g, i, none⟩ = some (.pointer (some ⟨cbs[i]!, 0, none⟩)) := by
 have := h.row.cells (g := g) rfl _ _ (ptrs_get cbs i hi); simpa [Addr.add_lit] using this
theorem SysAt.form {W : World} {sb gb nb pb mb n : Nat} {cv : Value} {D : DataW Unit} {cbs : List Nat} {tb : Int → Nat} {own : Nat → Option Own} {s : Sy} (h : SysAt W sb gb nb pb mb n cv D cbs tb own s) (h0 : 0 < cbs.length) :
 ∃ g c, cv = .slice (some ⟨g, 0, none⟩) cbs.length c := by
 rcases h.row.2 with ⟨_, h1⟩ | ⟨g, cap, cur, e, _⟩
 · omega
 · exact ⟨g, cap, e⟩
theorem ycore_any (sb gb nb pb mb n : Nat) (cv : Value) (D : DataW Unit) (cbs : List Nat) (tb : Int → Nat) (own : Nat → Option Own) (s : Sy) (i : Nat) (W : World) (h : SysAt W sb gb nb pb mb n cv D cbs tb own s) (hi : i < cbs.length) :
 Calls Tryz.prog 87 #[.pointer (some ⟨sb, 0, none⟩), .int .i64 i] W fun e w' => e = .returned (.tuple #[.pointer (some ⟨cbs[i]!, 0, none⟩), .int .i64 0]) ∧ W = w' := by
 obtain ⟨g, c, hcv⟩ := h.form (by omega); subst hcv; have c0 := h.head; have hc := h.coreCell i hi; generalize cbs[i]! = cb at hc ⊢; obtain ⟨m, hm⟩ : ∃ m, cbs.length = m := ⟨_, rfl⟩
 rw [hm] at c0 hi; have h0 : ¬ (i : Int) < 0 := by omega
 have h1 : (i : Int) < (m : Int) := by omega
 have h2 : 0 ≤ (i : Int) := by omega
 clear h hm; go_enter Tryz.func87, Tryz.ntmps87; go_wp2
 go_ret2
 exact ⟨rfl, rfl⟩
section
attribute [local go_sem] Oper.semAt_some
structure KpL (B : Nat) (W W' : World) : Prop where
 size : W.heap.size ≤ W'.heap.size
 same : ∀ k o, W.heap[k]? = some o → o.isCells = true → k ≠ B → (∀ v, W.cell? ⟨B, 0, none⟩ = some v → v.ownBlock ≠ some k) → W'.heap[k]? = some o
 row : ∀ v' k, W'.cell? ⟨B, 0, none⟩ = some v' → v'.ownBlock = some k → (∃ v, W.cell? ⟨B, 0, none⟩ = some v ∧ v.ownBlock = some k) ∨ W.heap.size ≤ k
theorem lt_of_some {W : World} {k : Nat} {o : Obj} (h : W.heap[k]? = some o) : k < W.heap.size := (Array.getElem?_eq_some_iff.1 h).1
theorem KpL.t {B : Nat} {W1 W2 W3 : World} (h : KpL B W1 W2) (k : KpL B W2 W3) : KpL B W1 W3 := by
 refine ⟨Nat.le_trans h.size k.size, fun j o ho hc hne hv => ?_, fun v' j hv' hj => ?_⟩
 · refine k.same j o (h.same j o ho hc hne hv) hc hne (fun v hv2 e => ?_); rcases h.row v j hv2 e with ⟨v0, h1, h2⟩ | h1
   · exact hv v0 h1 h2
   · have := lt_of_some ho; omega
 · rcases k.row v' j hv' hj with ⟨v0, h1, h2⟩ | h1
   · exact h.row v0 j h1 h2
   · have := h.size; exact .inr (by omega)
theorem KpL.b {B : Nat} {w : World} (hB : B < w.heap.size) (W : World) (l : Nat) (o o' : Obj) (hl : w.heap.size ≤ l) (ho : W.heap[l]? = some o) (hc : o.isCells = false) (_ : o.isWalk = false) : KpL B W (W.putObj l o') := by
 have e : ∀ k, k ≠ l → (W.putObj l o').heap[k]? = W.heap[k]? := fun k hk => World.putObj_heap_other hk; refine ⟨by simp [World.putObj], fun k o1 h1 h2 _ _ => (e k (fun e => by subst e; rw [ho] at h1; cases h1; rw [hc] at h2; cases h2)).trans h1, fun v' k hv hk => .inl ⟨v', ?_, hk⟩⟩; rw [← hv]; exact (World.cell?_of_block (a := ⟨B, 0, none⟩) (e B (by omega))).symm
theorem sall_any (b : Nat) (W : World) :
 Calls Tryz.prog 141 #[.pointer (some ⟨b, 0, none⟩)] W fun e w' => e = .returned (.func (.func 171) #[] #[.pointer (some ⟨W.heap.size, 0, none⟩)]) ∧ W.alloc (.cells #[.pointer (some ⟨b, 0, none⟩)] 115) = w' := by
 go_enter Tryz.func141, Tryz.ntmps141; go_wp2
 go_ret
 exact ⟨by simp, rfl⟩
def RowQ (B g : Nat) (O : Obj) (wr : World) : Prop := wr.heap[g]? = some O ∧ O.isCells = true ∧ g ≠ B ∧ ∀ v, wr.cell? ⟨B, 0, none⟩ = some v → v.ownBlock ≠ some g
theorem RowQ.step {B g : Nat} {O : Obj} {W W' : World} (h : RowQ B g O W) (k : KpL B W W') : RowQ B g O W' := by
 obtain ⟨h1, h2, h3, h4⟩ := h; refine ⟨k.same g O h1 h2 h3 h4, h2, h3, fun v hv e => ?_⟩; rcases k.row v g hv e with ⟨v0, e1, e2⟩ | e1
 · exact h4 v0 e1 e2
 · have := lt_of_some h1; omega
def NameRow (B : Nat) (v : Value) (ls : List Int) (wr : World) : Prop :=
 (v = .slice none 0 0 ∧ ls = []) ∨ ∃ g c O, v = .slice (some ⟨g, 0, none⟩) ls.length c ∧ RowQ B g O wr ∧ ∀ i, i < ls.length → wr.cell? ⟨g, i, none⟩ = some (.int .i64 (ls.getD i 0))
theorem NameRow.step {B : Nat} {v : Value} {ls : List Int} {W W' : World} (h : NameRow B v ls W) (k : KpL B W W') : NameRow B v ls W' := by
 rcases h with h | ⟨g, c, O, e, h1, h2⟩
 · exact .inl h
 · have h1' := h1.step k; exact .inr ⟨g, c, O, e, h1', fun i hi => (World.cell?_of_block (a := ⟨g, i, none⟩) (h1'.1.trans h1.1.symm)).trans (h2 i hi)⟩
theorem NameRow.form {B : Nat} {v : Value} {ls : List Int} {W : World} (h : NameRow B v ls W) : ∃ p c, v = .slice p ls.length c := by
 rcases h with ⟨h, h2⟩ | ⟨g, c, O, e, _⟩
 · exact ⟨none, 0, by rw [h, h2]; rfl⟩
 · exact ⟨_, _, e⟩
theorem nameRow_new {W w1 : World} {B : Nat} {v : Value} {ls : List Int} (hrow : w1.ownsRow W.heap.size 3 1 v ls.length (ls.map fun x => .int .i64 x)) (hb : Below W.heap.size W w1) (hB : W.cell? ⟨B, 0, none⟩ = some (.slice none 0 0)) : NameRow B v ls w1 := by
 have hBl : B < W.heap.size := World.block_lt_of_cell? W _ hB; rcases hrow.2 with ⟨h, h0⟩ | ⟨g, cap, cur, e, hg, hgg, _⟩
 · refine .inl ⟨h, ?_⟩; simpa using h0
 · refine .inr ⟨g, cap, _, e, ⟨hgg, rfl, by omega, fun v' hv' => ?_⟩, fun i hi => ?_⟩
   · rw [(hb.cell (p := ⟨B, 0, none⟩) hBl).trans hB] at hv'; cases hv'; simp [Value.ownBlock]
   · have := hrow.cells (g := g) (by rw [e]; rfl) i (.int .i64 (ls.getD i 0)) (by rw [List.getElem?_map, List.getElem?_eq_getElem hi]; simp [hi]); simpa [Addr.add_lit] using this
theorem grownBy_of_below {W W' : World} (h : Below W.heap.size W W') : W.grownBy W' none := ⟨h.os, h.tape, h.output, h.size, fun k hk _ => h.block k hk⟩
set_option maxRecDepth 100000 in
theorem sall1_in (P : Int → Prop) (n : Nat) (hn : 2 ≤ n) (l Bs b a B : Nat) (ps : List (Int × Bool)) (xs : List {x : Int // P x}) (hxs : xs.map (·.1) = listP ps) (J Jx : List {x : Int // P x} → World → Prop)
 (hY : ∀ pre x W, J pre W → pre.length < xs.length → YieldAt Fence.wide (n - 1) Tryz.prog l #[.int .i64 x.1] W fun e W' =>
  (e = .returned (.bool true) ∧ J (pre ++ [x]) W' ∧ KpL B W W') ∨ (e = .returned (.bool false) ∧ Jx (pre ++ [x]) W'))
 (W : World) (hJ : AbidesFrom W.heap.size J) (hBs : W.cell? ⟨Bs, 0, none⟩ = some (.pointer (some ⟨b, 0, none⟩))) (hS : SlotsAt W b a ps) (hz : Sized ps) (hB : W.cell? ⟨B, 0, none⟩ = some (.slice none 0 0)) (h0 : J [] W) :
 CallsIn Fence.wide n Tryz.prog 171 #[.func (.yield l) #[] #[], .pointer (some ⟨Bs, 0, none⟩)] W fun e W' => (∃ v, e = .returned v) ∧
  ((∃ ys, ys = xs ∧ J ys W') ∨ (∃ pre, pre <+: xs ∧ Jx pre W')) := by
 have h1 : 1 ≤ n := by omega
 have h2 : 1 ≤ n - 1 := by omega
 have hlist := slist_any b a ps W hS hz; have HXS := lH hxs; rw [← hxs] at hlist; have hml : (xs.map (·.1)).length = xs.length := List.length_map ..; refine callsIn_of_wp Tryz.func171 rfl trivial ?_ rfl; simp only [Tryz.ntmps171, List.size_toArray, List.length_cons, List.length_nil, Nat.reduceAdd, Nat.reduceSub, Array.replicate_succ, Array.replicate_zero, List.push_toArray, List.append_toArray, List.nil_append, List.cons_append]; have h64 : xs.length ≤ 64 := by rw [← hml, hxs]; exact Nat.le_trans (listFrom_len _ _) hz.1
 have HML := lH hml; clear hml hxs; have HB := lH hB; have HS := lH hS; have HJ := lH hJ; have HY := lH hY; have HZ := lH h0; clear hB hS hJ hY h0; gi_wp2_with (refine ⟨trivial, ?_⟩; gi_at_call 172; refine (callsIn_wide.2 hlist).mono ?_; rintro e w1 ⟨v, rfl, hrow, hb⟩; have hq := nameRow_new hrow hb HB.out; obtain ⟨p, c, hv⟩ := hq.form; rw [HML.out] at hv; subst hv; have HQ := lH hq; have HBB := lH hb; clear hrow hq hb)
 have hJ0 : J [] w1 := HJ.out [] W w1 none HZ.out (grownBy_of_below HBB.out) (by simp); obtain ⟨m, hm⟩ : ∃ m, xs.length = m := ⟨_, rfl⟩
 rw [hm] at HQ h64 ⊢; have HM := lH hm; clear hm; have HJ0 := lH hJ0; clear hJ0; gi_loopw [8] (fun x wr => ∃ k : Nat, k ≤ m ∧ x = .int .i64 k ∧ Hid (J (xs.take k) wr) ∧ Hid (NameRow B (.slice p m c) (xs.map (·.1)) wr))
  (fun x wr => m - (intOf x).toNat)
 case atStart => exact ⟨0, Nat.zero_le _, rfl, HJ0, HQ⟩
 case round =>
  obtain ⟨k, hk, rfl, HJs, HQs⟩ := hrel; by_cases hkm : k < m
  · have hk1 : (k : Int) < (m : Int) := by omega
    have hk0 : 0 ≤ (k : Int) := by omega
    have hkl : k < xs.length := by rw [HM.out]; exact hkm
    obtain ⟨g, hp, hcell⟩ : ∃ g, p = some ⟨g, 0, none⟩ ∧ wr.cell? ⟨g, k, none⟩ = some (.int .i64 (xs[k]'hkl).1) := by
     rcases HQs.out with ⟨_, h0⟩ | ⟨g, c', O, e, _, h3⟩
     · rw [List.map_eq_nil_iff] at h0; rw [h0] at hkl; simp at hkl
     · simp only [Value.slice.injEq] at e; refine ⟨g, e.1, ?_⟩; have := h3 k (by rw [List.length_map]; exact hkl); rwa [List.getD_eq_getElem?_getD, List.getElem?_map, List.getElem?_eq_getElem hkl] at this
    subst hp; have htk : xs.take (k + 1) = xs.take k ++ [xs[k]'hkl] := List.take_succ_eq_append_getElem hkl; obtain ⟨fn, tmps, assign, body, hy, hR⟩ := HY.out (xs.take k) (xs[k]'hkl) wr HJs.out (by rw [List.length_take]; omega); rw [← htk] at hR; have hpre : xs.take (k + 1) <+: xs := List.take_prefix _ _; generalize (xs[k]'hkl).1 = y at hcell hy; clear htk; gi_wp2
    refine hR.mono ?_; rintro e W3 (⟨rfl, hJ3, hk3⟩ | ⟨rfl, hJx3⟩)
    · have HJ3 := lH hJ3; have HQ3 := lH (HQs.out.step hk3); clear hJ3 hk3; gi_wp2
      go_roundw
      case rel => exact ⟨k + 1, hkm, by go_num, HJ3, HQ3⟩
      case measure => simp [intOf]; omega
    · gi_wp2
      refine bodyPost_ret (results_none rfl _ _ _) rfl ?_; exact ⟨⟨_, rfl⟩, .inr ⟨_, hpre, hJx3⟩⟩
  · obtain rfl : k = m := by omega
    have hall : xs.take k = xs := List.take_of_length_le (by rw [HM.out]; exact Nat.le_refl _); rw [hall] at HJs; clear hall; gi_wp2
    go_end0
    exact ⟨⟨_, rfl⟩, .inl ⟨_, rfl, HJs.out⟩⟩
theorem sall_stops (P : Int → Prop) (n : Nat) (hn : 2 ≤ n) (Bs b a B : Nat) (ps : List (Int × Bool)) (xs : List {x : Int // P x}) (hxs : xs.map (·.1) = listP ps) (w : World) (hBs : w.cell? ⟨Bs, 0, none⟩ = some (.pointer (some ⟨b, 0, none⟩))) (hS : SlotsAt w b a ps) (hz : Sized ps) (hB : w.cell? ⟨B, 0, none⟩ = some (.slice none 0 0)) :
 SeqStopsK Fence.wide n Tryz.prog 171 #[.pointer (some ⟨Bs, 0, none⟩)] (fun x : {x : Int // P x} => #[Value.int .i64 x.1]) (KpL B) (fun ys => ys = xs) (fun pre => pre <+: xs) xs.length w := fun l J Jx W hW hJ _ hY h0 =>
 sall1_in P n hn l Bs b a B ps xs hxs J Jx hY W hJ ((hW.cell (p := ⟨Bs, 0, none⟩) (World.block_lt_of_cell? w _ hBs)).trans hBs) (hS.below hW hS.lt.1 hS.lt.2) hz ((hW.cell (p := ⟨B, 0, none⟩) (World.block_lt_of_cell? w _ hB)).trans hB) h0
end
end Go.Proofs.YtoiajjobecinpaaGreat
