/- What each of a line is owed: Form. Charge. Pick of fair. -/
import Derived.Test.YtoiajjobecinpaaGreatTA03
set_option maxHeartbeats 4000000
namespace Go.Proofs.YtoiajjobecinpaaGreat
open Go.RowKit Go.Shelf Go.Lib Go.Proofs
set_option linter.unusedVariables false
set_option linter.unusedSimpArgs false
structure It where
 id : Int
 w : Int
 lag : Int
deriving DecidableEq, Inhabited
def It.cells (p : It) : List Value := [.int .i64 p.id, .int .i64 p.w, .int .i64 p.lag]
def flatI : List It → List Value
 | [] => []
 | p :: l => p.cells ++ flatI l
theorem flatI_append (a b : List It) : flatI (a ++ b) = flatI a ++ flatI b := by
 induction a with
 | nil => rfl
 | cons p l ih => simp [flatI, ih]
def itP (base : Int) (p : Pt) : It := ⟨p.id, p.w, base - p.v⟩
def formL (l : Ln) : List It := l.ps.map (itP l.base)
theorem info77 : (Tryz.prog.info? 77).map (fun i => (i.zero, i.size, i.bytes)) = some (some (.agg #[.int .i64 0, .int .i64 0, .int .i64 0]), 3, 24) := by kernel_rfl
structure FormAt (W : World) (H B : Nat) (cur : Int) (v : Value) (its : List It) : Prop where
 cur : W.cell? ⟨B, 0, none⟩ = some (.int .i64 cur)
 sl : W.cell? ⟨B, 1, none⟩ = some v
 live : ∀ i, W.frozen? ⟨B, i, none⟩ = false
 row : W.ownsRow H 77 3 v its.length (flatI its)
 ne : v.ownBlock ≠ some B
def FormL (W0 W : World) (cur : Int) (its : List It) : Prop :=
 ∃ v, FormAt W (W0.heap.size + 2) (W0.heap.size + 1) cur v its ∧ Below W0.heap.size W0 W ∧ (∃ a b, W.heap[W0.heap.size]? = some (.cells #[a, b] 70 (0, 0)))
theorem size_alloc1 (W : World) (o : Obj) : (W.alloc o).heap.size = W.heap.size + 1 := by simp
abbrev SF (b B : Nat) (base i ww pv : Int) (W' : World) : Prop :=
 W'.cell? ⟨b, 0, none⟩ = some (.int .i64 base) ∧ W'.cell? ⟨B, 0, none⟩ = some (.int .i64 i) ∧ W'.cell? ⟨B, 1, none⟩ = some (.int .i64 ww) ∧ W'.cell? ⟨B, 2, none⟩ = some (.int .i64 pv)
abbrev SG (b B : Nat) (base i ww pv : Int) (Bf : Nat) (vf : Value) (W' : World) : Prop :=
 (W'.cell? ⟨b, 0, none⟩ = some (.int .i64 base) ∧ W'.cell? ⟨B, 0, none⟩ = some (.int .i64 i) ∧ W'.cell? ⟨B, 1, none⟩ = some (.int .i64 ww) ∧ W'.cell? ⟨B, 2, none⟩ = some (.int .i64 pv)) ∧ W'.cell? ⟨Bf, 1, none⟩ = some vf
theorem SF.start {wr : World} {b : Nat} {base i ww pv day : Int} (h : wr.cell? ⟨b, 0, none⟩ = some (.int .i64 base)) :
 SF b wr.heap.size base i ww pv ((wr.alloc (.cells #[.int .i64 i, .int .i64 ww, .int .i64 pv, .int .i64 day] 338)).drew) := by
 have hb : BoxAt (wr.alloc (.cells #[.int .i64 i, .int .i64 ww, .int .i64 pv, .int .i64 day] 338)) wr.heap.size ⟨i, ww, pv, day⟩ := heap_alloc_new _ _; obtain ⟨h0, h1, h2, _⟩ := hb.cells; exact ⟨Lib.cell?_alloc_some _ h, h0, h1, h2⟩
theorem SF.alloc {W : World} {b B : Nat} {base i ww pv : Int} (h : SF b B base i ww pv W) (o : Obj) : SF b B base i ww pv (W.alloc o) :=
 ⟨Lib.cell?_alloc_some _ h.1, Lib.cell?_alloc_some _ h.2.1, Lib.cell?_alloc_some _ h.2.2.1, Lib.cell?_alloc_some _ h.2.2.2⟩
theorem SF.grown {W w1 : World} {b B : Nat} {base i ww pv : Int} {row : Option Nat} (h : SF b B base i ww pv W) (hg : W.grownBy w1 row) (h1 : row ≠ some b) (h2 : row ≠ some B) : SF b B base i ww pv w1 :=
 ⟨hg.cell h.1 (fun e => h1 e.symm), hg.cell h.2.1 (fun e => h2 e.symm), hg.cell h.2.2.1 (fun e => h2 e.symm), hg.cell h.2.2.2 (fun e => h2 e.symm)⟩
theorem SF.set {W : World} {b B C j : Nat} {base i ww pv : Int} (h : SF b B base i ww pv W) (h1 : b ≠ C) (h2 : B ≠ C) (x : Value) : SF b B base i ww pv (W.setCell ⟨C, j, none⟩ x) := by
 refine ⟨?_, ?_, ?_, ?_⟩
 · rw [cell_setCell_ne _ (by intro e; injection e; omega)]; exact h.1
 · rw [cell_setCell_ne _ (by intro e; injection e; omega)]; exact h.2.1
 · rw [cell_setCell_ne _ (by intro e; injection e; omega)]; exact h.2.2.1
 · rw [cell_setCell_ne _ (by intro e; injection e; omega)]; exact h.2.2.2
theorem f1h {wr w1 : World} {H B : Nat} {cur : Int} {v : Value} {its : List It} {o o' : Obj} (h : FormAt wr H B cur v its) (hg : ((wr.alloc o).drew.alloc o').grownBy w1 v.ownBlock) : w1.frozen? ⟨B, 1, none⟩ = false := by
 have hlt : B < wr.heap.size := World.block_lt_of_cell? wr _ h.cur; have h1 : w1.heap[B]? = wr.heap[B]? := (hg.block B (by simp [World.drew]; omega) (fun e => h.ne e.symm)).trans ((Below.heap_alloc _ _ _ (by simp [World.drew]; omega)).trans (Below.heap_alloc _ _ _ hlt))
 exact (World.frozen?_of_block (a := ⟨B, 1, none⟩) h1).trans (h.live 1)
theorem e1h {wr w1 : World} {H B : Nat} {cur : Int} {v : Value} {its : List It} {o o' : Obj} (h : FormAt wr H B cur v its) (hg : ((wr.alloc o).drew.alloc o').grownBy w1 v.ownBlock) : w1.cell? ⟨B, 1, none⟩ = some v := by
 have hlt : B < wr.heap.size := World.block_lt_of_cell? wr _ h.cur; have h1 : w1.heap[B]? = wr.heap[B]? := (hg.block B (by simp [World.drew]; omega) (fun e => h.ne e.symm)).trans ((Below.heap_alloc _ _ _ (by simp [World.drew]; omega)).trans (Below.heap_alloc _ _ _ hlt))
 exact (World.cell?_of_block (a := ⟨B, 1, none⟩) h1).trans h.sl
theorem heap_two (wr : World) (o o' : Obj) : ((wr.alloc o).drew.alloc o').heap[wr.heap.size + 1]? = some o' := by
 have := heap_alloc_new (wr.alloc o).drew o'; rwa [show (wr.alloc o).drew.heap.size = wr.heap.size + 1 from size_alloc1 wr o] at this
theorem formL_step {W wr w1 : World} {l : Ln} {vf : Value} {r0 r1 : Value} {k gg cp : Nat} {i ww pv day : Int} {o o' : Obj} (hF : FormAt wr (W.heap.size + 2) (W.heap.size + 1) l.cur vf ((l.ps.take k).map (itP l.base)))
 (hB : Below W.heap.size W wr) (hres : wr.heap[W.heap.size]? = some (.cells #[r0, r1] 70 (0, 0))) (hg : ((wr.alloc o).drew.alloc o').grownBy w1 vf.ownBlock)
 (hown : w1.ownsRow (W.heap.size + 2) 77 3 (.slice (some ⟨gg, 0, none⟩) (k + 1) cp) (k + 1) (flatI ((l.ps.take k).map (itP l.base)) ++ [.int .i64 i, .int .i64 ww, .int .i64 (l.base - pv)]))
 (hat : vf.ownBlock = some gg ∨ gg = wr.heap.size + 2) (hk : k < l.ps.length) (hp : l.ps[k]! = ⟨i, ww, pv, day⟩) :
 FormL W (w1.setCell ⟨W.heap.size + 1, 1, none⟩ (.slice (some ⟨gg, 0, none⟩) (k + 1) cp)) l.cur ((l.ps.take (k + 1)).map (itP l.base)) := by
 have hlt : W.heap.size + 1 < wr.heap.size := World.block_lt_of_cell? wr _ hF.cur; have hold : ∀ j, j < wr.heap.size → some j ≠ vf.ownBlock → w1.heap[j]? = wr.heap[j]? := fun j hj hne => (hg.block j (by simp [World.drew]; omega) hne).trans ((Below.heap_alloc _ _ _ (by simp [World.drew]; omega)).trans (Below.heap_alloc _ _ _ hj))
 have h1 : w1.heap[W.heap.size + 1]? = wr.heap[W.heap.size + 1]? := hold _ hlt (fun e => hF.ne e.symm); have hgne : gg ≠ W.heap.size + 1 := by
  rcases hat with h | h
  · intro e; subst e; exact hF.ne h
  · omega
 have ht : (l.ps.take (k + 1)).map (itP l.base) = (l.ps.take k).map (itP l.base) ++ [⟨i, ww, l.base - pv⟩] := by
  rw [List.take_succ_eq_append_getElem hk, List.map_append, ← getElem!_list hk, hp]; rfl
 have hlen : ((l.ps.take (k + 1)).map (itP l.base)).length = k + 1 := by simp; omega
 have hvo : ∀ j, vf.ownBlock = some j → W.heap.size + 2 ≤ j := fun j hj => (hF.row.lt j hj).1; refine ⟨_, ⟨?_, World.cell?_setCell_same _ _ _ ((World.cell?_of_block (a := ⟨W.heap.size + 1, 1, none⟩) h1).trans hF.sl), fun i => ?_, ?_, by intro e; simp [Value.ownBlock] at e; exact hgne e⟩, ?_, r0, r1, ?_⟩
 · rw [cell_setCell_ne _ (by simp)]; exact (World.cell?_of_block (a := ⟨W.heap.size + 1, 0, none⟩) h1).trans hF.cur
 · rw [World.frozen?_setCell]; exact (World.frozen?_of_block (a := ⟨W.heap.size + 1, i, none⟩) h1).trans (hF.live i)
 · rw [hlen, ht, flatI_append]; refine ownsRow_same (W := w1) ?_ (fun j hj => Below.heap_setCell _ _ _ _ (by simp [Value.ownBlock] at hj; subst hj; exact hgne)); simpa [flatI, It.cells] using hown
 · have hb1 : Below W.heap.size W w1 := by
    refine ⟨hg.os.trans hB.os, hg.tape.trans hB.tape, hg.output.trans hB.output, ?_, fun j hj => (hold j (by have := hB.size; omega) (fun e => ?_)).trans (hB.block j hj)⟩
    · have := hg.size; have := hB.size; simp [World.drew] at *
      omega
    · have := hvo j e.symm; omega
   exact hb1.setCell (by simp) _
 · rw [Below.heap_setCell _ _ _ _ (by simp)]; exact (hold _ (by omega) (fun e => by have := hvo _ e.symm; omega)).trans hres
def FormP (W : World) (cur : Int) (its : List It) (e : Ending) (w' : World) : Prop := ∃ v', e = .returned (.agg #[.int .i64 cur, v']) ∧ w'.ownsRow W.heap.size 77 3 v' its.length (flatI its) ∧ Below W.heap.size W w'
theorem ownsRow_base {w : World} {B B' : Nat} {e : TypeId} {size : Nat} {v : Value} {n : Nat} {xs : List Value} (h : w.ownsRow B e size v n xs) (hB : B' ≤ B) : w.ownsRow B' e size v n xs := by
 refine ⟨h.1, ?_⟩; rcases h.2 with h | ⟨g, cap, cur, h1, h2, h3⟩
 · exact .inl h
 · exact .inr ⟨g, cap, cur, h1, Nat.le_trans hB h2, h3⟩
set_option maxRecDepth 100000 in
theorem form_any (b : Nat) (v : Value) (l : Ln) (W : World) (h : LineAt W b v l) (hlen : l.ps.length ≤ 64) (hbd : -2305843009213693952 ≤ l.base ∧ l.base ≤ 4611686018427387904)
 (hv : ∀ p ∈ l.ps, -2305843009213693952 ≤ p.v ∧ p.v ≤ 4611686018427387904) :
 Calls Tryz.prog 271 #[.pointer (some ⟨b, 0, none⟩)] W (FormP W l.cur (formL l)) := by
 have hlt := h.lt b (.inl rfl); have hc := h.cur; have hsl := h.sl; obtain ⟨i0, hi, hz0, hz1, hz2⟩ := info_parts info77; have HL := lH h; have hvs : ∃ a c, v = .slice a l.ps.length c := by
  rcases h.row.2 with ⟨rfl, h0⟩ | ⟨g, cap, cur, rfl, _⟩
  · exact ⟨none, 0, by rw [h0]⟩
  · exact ⟨_, cap, rfl⟩
 obtain ⟨va, vc, hvv⟩ := hvs; obtain ⟨n, hn⟩ : ∃ n, l.ps.length = n := ⟨_, rfl⟩
 rw [hn] at hlen hvv; have hsl2 : W.cell? ⟨b, 2, none⟩ = some (.slice va n vc) := by rw [hsl, hvv]
 have HN := lH hn; have HV := lH hv; have HVV := lH hvv; clear h hn hv hvv hsl; go_enter Tryz.func271, Tryz.ntmps271; go_wp2
 go_loopw [16] (fun x wr => ∃ k : Nat, k ≤ n ∧ x = .int .i64 k ∧ Hid (FormL W wr l.cur ((l.ps.take k).map (itP l.base)))) (fun x _ => n - (intOf x).toNat)
 case atStart =>
  have hf := heap_alloc_new (W.alloc (.cells #[.int .i64 0, .slice none 0 0] 70)) (.cells #[.int .i64 l.cur, .slice none 0 0] 70); rw [size_alloc1] at hf; refine ⟨0, Nat.zero_le _, rfl, lH ⟨.slice none 0 0, ⟨?_, ?_, fun i => ?_, World.ownsRow_nil _ _ _ _, by simp [Value.ownBlock]⟩, ((Below.refl _ _).alloc (Nat.le_refl _) _).alloc (by simp) _, ?_⟩⟩
  · simp only [World.cell?, hf]; rfl
  · simp only [World.cell?, hf]; rfl
  · simp only [World.frozen?, hf]; simp
  · exact ⟨_, _, (Below.heap_alloc _ _ _ (by simp)).trans (heap_alloc_new W _)⟩
 case round =>
  obtain ⟨k, hk, rfl, HR⟩ := hrel; obtain ⟨vf, hF, hB, r0, r1, hres⟩ := HR.out; have hfl := World.block_lt_of_cell? wr _ hF.cur; simp only at hfl; have hbs := hB.size; by_cases hkn : k < n
  · have hL := HL.out.below hB; obtain ⟨g, cap, hg⟩ := HL.out.form (by rw [HN.out]; omega); rw [HN.out] at hg; have hvg := HVV.out.symm.trans hg; simp only [Value.slice.injEq, true_and] at hvg; obtain ⟨rfl, rfl⟩ := hvg; have HG := lH hg; rw [hg] at hL; obtain ⟨p, hp⟩ : ∃ p, l.ps[k]! = p := ⟨_, rfl⟩
    obtain ⟨c0, c1, c2, c3⟩ := hL.cells (by rw [HN.out]; exact hkn) hp; have hgl := hL.lt g (.inr rfl); have hlb := hL.base; have hlbl := hL.lt b (.inl rfl); have hkn' : k < l.ps.length := by rw [HN.out]; exact hkn
    have hpv := HV.out p (by rw [← hp, getElem!_list hkn']; exact List.getElem_mem hkn'); have HP := lH hp; have e1 := hF.sl; have f1 := hF.live 1; have hown := hF.row; have hml : ((l.ps.take k).map (itP l.base)).length = k := by simp; omega
    have HML := lH hml; rw [hml] at hown; have HF := lH hF; have HB := lH hB; have HRES := lH hres; obtain ⟨i, ww, pv, day⟩ := p; simp only at c0 c1 c2 c3 hpv; obtain ⟨q1, q2⟩ := hpv; obtain ⟨q3, q4⟩ := hbd; have kw : IntKind.i64.wrap (l.base - pv) = l.base - pv := by rw [IntKind.wrap_i64]; omega
    have hk1 : (k : Int) < (n : Int) := by omega
    have hk0 : 0 ≤ (k : Int) := by omega
    clear hg hL hF hB hres hp hml HR; have hown2 : ((wr.alloc (.cells #[.int .i64 i, .int .i64 ww, .int .i64 pv, .int .i64 day] 338)).drew).ownsRow (W.heap.size + 2) 77 3 vf _ _ := (hown.alloc _)
    have hS0 : SF b wr.heap.size l.base i ww pv ((wr.alloc (.cells #[.int .i64 i, .int .i64 ww, .int .i64 pv, .int .i64 day] 338)).drew) := SF.start hlb; have hvl : vf.ownBlock ≠ some b ∧ vf.ownBlock ≠ some wr.heap.size := ⟨fun e => by have := (hown.lt _ e).1; omega, fun e => by have := (hown.lt _ e).2; omega⟩
    go_wp2_with fail
    have hT0 : SG b wr.heap.size l.base i ww pv (W.heap.size + 1) vf ((wr.alloc (.cells #[.int .i64 i, .int .i64 ww, .int .i64 pv, .int .i64 day] 338)).drew) := ⟨hS0, c2a _ e1⟩
    refine wp_region_W (S := SG b wr.heap.size l.base i ww pv (W.heap.size + 1) vf) (T := [17]) (by kernel_rfl) ?_; refine wpAnyW_take (i := 0) (v := ?_) rfl (by kernel_rfl) (by kernel_rfl) (by kernel_rfl) (by kernel_rfl) (fun _ _ _ h => h) (Or.inl ⟨by rfl, ?_⟩) (by assumption) ?_; rotate_left
    · intro w hSw; (try dsimp only at hSw); go_simp; (first | done | with_reducible rfl)
    simp only [Act.put, List.setIfInBounds_toArray, List.set_cons_zero, List.set_cons_succ]; refine wpAnyW_take (i := 1) (v := ?_) rfl (by kernel_rfl) (by kernel_rfl) (by kernel_rfl) (by kernel_rfl) (fun _ _ _ h => h) (Or.inl ⟨by rfl, ?_⟩) (by assumption) ?_; rotate_left
    · intro w hSw; (try dsimp only at hSw); go_simp; (first | done | with_reducible rfl)
    simp only [Act.put, List.setIfInBounds_toArray, List.set_cons_zero, List.set_cons_succ]; refine wpAnyW_take (i := 2) (v := ?_) rfl (by kernel_rfl) (by kernel_rfl) (by kernel_rfl) (by kernel_rfl) (fun _ _ _ h => h) (Or.inl ⟨by rfl, ?_⟩) (by assumption) ?_; rotate_left
    · intro w hSw; (try dsimp only at hSw); go_simp; (first | done | with_reducible rfl)
    simp only [Act.put, List.setIfInBounds_toArray, List.set_cons_zero, List.set_cons_succ]; refine wpAnyW_take (i := 3) (v := ?_) rfl (by kernel_rfl) (by kernel_rfl) (by kernel_rfl) (by kernel_rfl) (fun _ _ _ h => h) (Or.inl ⟨by rfl, ?_⟩) (by assumption) ?_; rotate_left
    · intro w hSw; (try dsimp only at hSw); go_simp; (first | done | with_reducible rfl)
    simp only [Act.put, List.setIfInBounds_toArray, List.set_cons_zero, List.set_cons_succ]; refine wpAnyW_take (i := 4) (v := ?_) rfl (by kernel_rfl) (by kernel_rfl) (by kernel_rfl) (by kernel_rfl) (fun _ _ _ h => h) (Or.inl ⟨by rfl, ?_⟩) (by assumption) ?_; rotate_left
    · intro w hSw; (try dsimp only at hSw); go_simp; (first | done | with_reducible rfl)
    simp only [Act.put, List.setIfInBounds_toArray, List.set_cons_zero, List.set_cons_succ]; refine wpAnyW_take (i := 5) (v := ?_) rfl (by kernel_rfl) (by kernel_rfl) (by kernel_rfl) (by kernel_rfl) (fun _ _ _ h => h) (Or.inl ⟨by rfl, ?_⟩) (by assumption) ?_; rotate_left
    · intro w hSw; (try dsimp only at hSw); go_simp; (first | done | with_reducible rfl)
    simp only [Act.put, List.setIfInBounds_toArray, List.set_cons_zero, List.set_cons_succ]; refine wpAnyW_take (i := 6) (v := ?_) rfl (by kernel_rfl) (by kernel_rfl) (by kernel_rfl) (by kernel_rfl) (fun _ _ _ h => h) (Or.inl ⟨by rfl, ?_⟩) (by assumption) ?_; rotate_left
    · intro w hSw; (try dsimp only at hSw); go_simp; (first | done | with_reducible rfl)
    simp only [Act.put, List.setIfInBounds_toArray, List.set_cons_zero, List.set_cons_succ]; refine wpAnyW_take (i := 7) (v := ?_) rfl (by kernel_rfl) (by kernel_rfl) (by kernel_rfl) (by kernel_rfl) (fun _ _ _ h => h) (Or.inl ⟨by rfl, ?_⟩) (by assumption) ?_; rotate_left
    · intro w hSw; (try dsimp only at hSw); go_simp; (first | done | with_reducible rfl)
    simp only [Act.put, List.setIfInBounds_toArray, List.set_cons_zero, List.set_cons_succ]; refine wpAnyW_take (i := 8) (v := ?_) rfl (by kernel_rfl) (by kernel_rfl) (by kernel_rfl) (by kernel_rfl) (fun _ _ _ h => h) (Or.inl ⟨by rfl, ?_⟩) (by assumption) ?_; rotate_left
    · intro w hSw; (try dsimp only at hSw); go_simp; (first | done | with_reducible rfl)
    simp only [Act.put, List.setIfInBounds_toArray, List.set_cons_zero, List.set_cons_succ]; refine wpAnyW_take (i := 9) (v := ?_) rfl (by kernel_rfl) (by kernel_rfl) (by kernel_rfl) (by kernel_rfl) (fun _ _ _ h => h) (Or.inl ⟨by rfl, ?_⟩) (by assumption) ?_; rotate_left
    · intro w hSw; (try dsimp only at hSw); go_simp; (first | done | with_reducible rfl)
    simp only [Act.put, List.setIfInBounds_toArray, List.set_cons_zero, List.set_cons_succ]; refine wpAnyW_take (i := 10) (v := ?_) rfl (by kernel_rfl) (by kernel_rfl) (by kernel_rfl) (by kernel_rfl) (fun _ _ _ h => h) (Or.inl ⟨by rfl, ?_⟩) (by assumption) ?_; rotate_left
    · intro w hSw; (try dsimp only at hSw); go_simp; (first | done | with_reducible rfl)
    simp only [Act.put, List.setIfInBounds_toArray, List.set_cons_zero, List.set_cons_succ]; refine wpAnyW_take (i := 11) (v := ?_) rfl (by kernel_rfl) (by kernel_rfl) (by kernel_rfl) (by kernel_rfl) (fun _ _ _ h => h) (Or.inl ⟨by rfl, ?_⟩) (by assumption) ?_; rotate_left
    · intro w hSw; (try dsimp only at hSw); go_simp; (first | done | with_reducible rfl)
    simp only [Act.put, List.setIfInBounds_toArray, List.set_cons_zero, List.set_cons_succ]; refine wpAnyW_take (i := 12) (v := ?_) rfl (by kernel_rfl) (by kernel_rfl) (by kernel_rfl) (by kernel_rfl) (fun _ _ _ h => h) (Or.inl ⟨by rfl, ?_⟩) (by assumption) ?_; rotate_left
    · intro w hSw; (try dsimp only at hSw); go_simp; (first | done | with_reducible rfl)
    simp only [Act.put, List.setIfInBounds_toArray, List.set_cons_zero, List.set_cons_succ]; refine wpAnyW_take (i := 13) (v := ?_) rfl (by kernel_rfl) (by kernel_rfl) (by kernel_rfl) (by kernel_rfl) (fun _ _ _ h => h) (Or.inl ⟨by rfl, ?_⟩) (by assumption) ?_; rotate_left
    · intro w hSw; (try dsimp only at hSw); go_simp; (first | done | with_reducible rfl)
    simp only [Act.put, List.setIfInBounds_toArray, List.set_cons_zero, List.set_cons_succ]; refine wpAnyW_one (i := 14) (by kernel_rfl) rfl (by kernel_rfl) ?_; intro K' hK; go_simp
    have hT1 : SG b wr.heap.size l.base i ww pv (W.heap.size + 1) vf (((wr.alloc (.cells #[.int .i64 i, .int .i64 ww, .int .i64 pv, .int .i64 day] 338)).alloc (.cells #[.int .i64 i, .int .i64 ww, .int .i64 (l.base - pv)] 77)).drew) :=
     ⟨SF.alloc hT0.1 _, c2a _ (c2a _ e1)⟩
    refine hK _ _ hT1 ?_; clear hK; refine wpAnyW_one (i := 15) (by kernel_rfl) rfl (by kernel_rfl) ?_; intro K2 hK; refine step_append_lies _ rfl _ _ _ rfl (W.heap.size + 2) 77 i0 _ 3 24 Tryz.underlying68 hi hz0 hz1 hz2 rfl (by omega) vf k (flatI ((l.ps.take k).map (itP l.base))) rfl ((hown.alloc _).alloc _) ⟨wr.heap.size + 1, 0, none⟩ 1 1 [.int .i64 i, .int .i64 ww, .int .i64 (l.base - pv)] rfl rfl (World.news_of_block (cs := #[.int .i64 i, .int .i64 ww, .int .i64 (l.base - pv)]) (t := 77) (fr := (0, 0)) (heap_two _ _ _)) (by simp [Value.oneCell']) (by omega) (by unfold maxLen; omega) (by omega) (by simp; omega) (wr.heap.size + 2) (by simp) ?_; intro gg cp w1 hown1 hgrow hat hlt1; have hT2 : SG b wr.heap.size l.base i ww pv (W.heap.size + 1) vf w1 := ⟨SF.grown (hT1.1) hgrow hvl.1 hvl.2, e1h HF.out hgrow⟩
    have f1' := f1h HF.out hgrow; refine hK _ _ hT2 ?_; clear hK hT0 hT1; have e1' := hT2.2; refine wpAnyW_take (i := 16) (v := ?_) rfl (by kernel_rfl) (by kernel_rfl) (by kernel_rfl) (by kernel_rfl) (fun _ _ _ h => h) (Or.inl ⟨by rfl, ?_⟩) (by assumption) ?_; rotate_left
    · intro w hSw; (try dsimp only at hSw); go_simp; (first | done | with_reducible rfl)
    simp only [Act.put, List.setIfInBounds_toArray, List.set_cons_zero, List.set_cons_succ]; refine wpAnyW_last (i := 17) (by kernel_rfl) rfl (by kernel_rfl) ?_; intro K3 hK; go_simp
    refine hK _ _ ?_; clear hK; refine wpAnyW_done (by kernel_rfl) ?_ _; have HFin : Hid (FormL W (w1.setCell ⟨W.heap.size + 1, 1, none⟩ (.slice (some ⟨gg, 0, none⟩) (k + 1) cp)) l.cur ((l.ps.take (k + 1)).map (itP l.base))) :=
     lH (formL_step HF.out HB.out HRES.out hgrow hown1 hat hkn' HP.out)
    clear hown1 hgrow hat hT2 f1' e1' hown2 hown; go_wp2_with fail
    go_roundw
    case rel => exact ⟨k + 1, hkn, by go_num, HFin⟩
    case measure => simp [intOf]; omega
  · obtain rfl : k = n := by omega
    have htk : l.ps.take k = l.ps := List.take_of_length_le (by rw [HN.out]; exact Nat.le_refl _); rw [htk] at hF; obtain ⟨sa, sn, sc, rfl⟩ : ∃ a n c, vf = .slice a n c := by
     rcases hF.row.2 with ⟨rfl, _⟩ | ⟨g, cap, cur, rfl, _⟩
     · exact ⟨_, _, _, rfl⟩
     · exact ⟨_, _, _, rfl⟩
    have e0 := hF.cur; have e1 := hF.sl; have g0 : wr.cell? ⟨W.heap.size, 0, none⟩ = some r0 := by simp only [World.cell?, hres]; rfl
    have g1 : wr.cell? ⟨W.heap.size, 1, none⟩ = some r1 := by simp only [World.cell?, hres]; rfl
    have f0 : wr.frozen? ⟨W.heap.size, 0, none⟩ = false := by simp only [World.frozen?, hres]; simp
    have f1 : wr.frozen? ⟨W.heap.size, 1, none⟩ = false := by simp only [World.frozen?, hres]; simp
    have HG0 : Hid (((wr.setCell ⟨W.heap.size, 0, none⟩ (.int .i64 l.cur)).setCell ⟨W.heap.size, 1, none⟩ (.slice sa sn sc)).cell? ⟨W.heap.size, 0, none⟩ = some (.int .i64 l.cur)) :=
     lH (by rw [cell_setCell_ne _ (by simp)]; exact World.cell?_setCell_same _ _ _ g0)
    have HG1 : Hid (((wr.setCell ⟨W.heap.size, 0, none⟩ (.int .i64 l.cur)).setCell ⟨W.heap.size, 1, none⟩ (.slice sa sn sc)).cell? ⟨W.heap.size, 1, none⟩ = some (.slice sa sn sc)) :=
     lH (World.cell?_setCell_same _ _ _ (by rw [cell_setCell_ne _ (by simp)]; exact g1))
    have HROW : Hid (((wr.setCell ⟨W.heap.size, 0, none⟩ (.int .i64 l.cur)).setCell ⟨W.heap.size, 1, none⟩ (.slice sa sn sc)).ownsRow W.heap.size 77 3 (.slice sa sn sc) (formL l).length (flatI (formL l))) := by
     refine lH (ownsRow_base (ownsRow_same hF.row (fun j hj => ?_)) (by omega)); have := (hF.row.lt j hj).1; rw [Below.heap_setCell _ _ _ _ (by simp; omega), Below.heap_setCell _ _ _ _ (by simp; omega)]
    have HB := lH hB; clear hF hB hres htk HR; go_wp2
    exact bodyPost_ret (v := .agg #[.int .i64 l.cur, .slice sa sn sc]) (by simp [results, Tryz.results271, go_sem, HG0.out, HG1.out]) rfl ⟨_, rfl, HROW.out, (HB.out.setCell (by simp) _).setCell (by simp) _⟩
def onP (p : Pt) : Pt := if p.day ≤ p.v + stepI p.w then dayP ⟨p.id, p.w, p.v + stepI p.w, p.day⟩ else ⟨p.id, p.w, p.v + stepI p.w, p.day⟩
def chargeL (l : Ln) : Int × Int × Ln :=
 if posP l.ps l.cur < 0 then (0, 14, l)
 else if 2305843009213693952 < (l.ps[(posP l.ps l.cur).toNat]!).v + stepI (l.ps[(posP l.ps l.cur).toNat]!).w then (0, 7, l)
 else
  let ps := l.ps.set (posP l.ps l.cur).toNat (onP l.ps[(posP l.ps l.cur).toNat]!)
  ((l.ps[(posP l.ps l.cur).toNat]!).id, 0, ⟨growB l.base ps, l.cur, ps⟩)
theorem charge_none (b : Nat) (v : Value) (l : Ln) (W : World) (h : LineAt W b v l) (hp : posP l.ps l.cur < 0) :
 Calls Tryz.prog 267 #[.pointer (some ⟨b, 0, none⟩)] W fun e w' => e = .returned (.tuple #[.int .i64 0, .int .i64 14]) ∧ Below W.heap.size W w' := by
 have hfind := find_any b v l l.cur W h; obtain ⟨r, hr⟩ : ∃ r, posP l.ps l.cur = r := ⟨_, rfl⟩
 rw [hr] at hfind hp; have hc := h.cur; clear hr; go_enter Tryz.func267, Tryz.ntmps267; go_wp2_with fail
 refine hfind.mono ?_; rintro e w' ⟨rfl, hb⟩; go_wp2
 go_ret2
 exact ⟨rfl, hb⟩
def ChargeP (b : Nat) (v : Value) (l : Ln) (k : Nat) (p : Pt) (s : Int) (W : World) (e : Ending) (w' : World) : Prop :=
 (2305843009213693952 < p.v + s → e = .returned (.tuple #[.int .i64 0, .int .i64 7]) ∧ Below W.heap.size W w') ∧
 (¬ 2305843009213693952 < p.v + s → e = .returned (.tuple #[.int .i64 p.id, .int .i64 0]) ∧ LineAt w' b v ⟨growB l.base (l.ps.set k (onP p)), l.cur, l.ps.set k (onP p)⟩ ∧ Touch (lfp b v) W w')
set_option maxRecDepth 100000 in
theorem charge_hit (b : Nat) (v : Value) (l : Ln) (W : World) (h : LineAt W b v l) (hlen : l.ps.length ≤ 64) (k : Nat) (hk : k < l.ps.length) (hp : posP l.ps l.cur = k) (p : Pt) (hpk : l.ps[k]! = p)
 (hv : -2305843009213693952 ≤ p.v ∧ p.v ≤ 4611686018427387904) :
 Calls Tryz.prog 267 #[.pointer (some ⟨b, 0, none⟩)] W (ChargeP b v l k p (stepI p.w) W) := by
 have hfind := find_any b v l l.cur W h; rw [hp] at hfind; obtain ⟨g, cap, hvv⟩ := h.form (by omega); subst hvv; have hc := h.cur; have hle := stepI_le p.w; obtain ⟨s, hs⟩ : ∃ s, stepI p.w = s := ⟨_, rfl⟩
 have hstep := fun W' => step_any p.w W'; rw [hs] at hle hstep ⊢; have HPK := lH hpk; have HL := lH h; have HP := lH hp; have HS := lH hs; obtain ⟨n, hn⟩ : ∃ n, l.ps.length = n := ⟨_, rfl⟩
 rw [hn] at hk; have HN := lH hn; rw [hn] at hlen; clear hpk h hp hn hs; obtain ⟨v1, v2⟩ := hv; obtain ⟨i, ww, pv, day⟩ := p; simp only at *; go_enter Tryz.func267, Tryz.ntmps267; go_wp2_with fail
 refine hfind.mono ?_; rintro e w0 ⟨rfl, hb0⟩; have hL0 := HL.out.below hb0; have hsl := hL0.sl; rw [HN.out] at hsl; obtain ⟨c0, c1, c2, c3⟩ := hL0.cells (by rw [HN.out]; exact hk) HPK.out; simp only at c0 c1 c2 c3; have hgl := hL0.lt g (.inr rfl); have hbl := hL0.lt b (.inl rfl); have HL0 := lH hL0; have HB0 := lH hb0; have hk0 : ¬ (k : Int) < 0 := by omega
 have hk1 : (k : Int) < (n : Int) := by omega
 have hk2 : 0 ≤ (k : Int) := by omega
 have e1 : IntKind.i64.wrap (pv + s) = pv + s := by rw [IntKind.wrap_i64]; omega
 clear hL0 hb0; go_upto_region 5 with fail
 go_cut [] (fun W2 => Hid (BoxAt W2 w0.heap.size ⟨i, ww, pv + s, day⟩ ∧ Below w0.heap.size w0 W2))
 case first =>
  go_wp2_with fail
  go_region_with (go_at_call 238; refine (hstep _).mono ?_; rintro e w' ⟨rfl, rfl⟩)
  all_goals
   go_wp2_with fail
   go_meet
   exact lH ⟨heap_alloc_new _ _, ((Below.refl _ _).alloc (Nat.le_refl _) _).drew⟩
 case rest =>
  obtain ⟨hbox, hb1⟩ := hcut.out; have HB1 := lH hb1; have HBX := lH hbox; clear hcut c0 c1 c2 c3; obtain ⟨d0, d1, d2, d3⟩ := hbox.cells; simp only at d0 d1 d2 d3; by_cases hover : 2305843009213693952 < pv + s
  · clear hbox hb1; go_wp2
    go_ret2
    exact ⟨fun _ => ⟨rfl, HB0.out.trans (HB1.out.mono HB0.out.size)⟩, fun h => absurd hover h⟩
  · obtain ⟨q, hq⟩ : ∃ q, onP ⟨i, ww, pv, day⟩ = q := ⟨_, rfl⟩
    have HQ := lH hq; have hq2 : q = if day ≤ pv + s then ⟨i, ww, pv + s, pv + s + 4 * s⟩ else ⟨i, ww, pv + s, day⟩ := by
     rw [← hq]; unfold onP dayP; simp only
     rw [HS.out]
    have HQ2 := lH hq2; have hqi : q.id = i := by rw [hq2]; split <;> rfl
    have HQI := lH hqi; have f0 := hbox.frozen 0; have f1 := hbox.frozen 1; have f2 := hbox.frozen 2; have f3 := hbox.frozen 3; clear hq hq2 hqi hbox hb1; go_upto_if 35 with fail
    go_cut [] (fun W3 => Hid (BoxAt W3 w0.heap.size q ∧ Below w0.heap.size w0 W3))
    case first =>
     by_cases hd : day ≤ pv + s
     · have hday := fun W' => day_any ⟨i, ww, pv + s, day⟩ W' (by simp only; omega) (by simp only; omega); have hdd : dayP ⟨i, ww, pv + s, day⟩ = ⟨i, ww, pv + s, pv + s + 4 * s⟩ := by unfold dayP; simp only; rw [HS.out]
       rw [hdd] at hday; simp only [Pt.cells] at hday; obtain ⟨dd, hdd2⟩ : ∃ x, pv + s + 4 * s = x := ⟨_, rfl⟩
       rw [hdd2] at hday; have HDD := lH hdd2; clear hdd hdd2; go_wp2_with fail
       refine (hday _).mono ?_; rintro e w5 ⟨rfl, hb5⟩; have hbx5 := HBX.out.below hb5 HBX.out.lt; obtain ⟨d0, d1, d2, d3⟩ := hbx5.cells; simp only at d0 d1 d2 d3; have f0 := hbx5.frozen 0; have f1 := hbx5.frozen 1; have f2 := hbx5.frozen 2; have f3 := hbx5.frozen 3; have HX5 := lH hbx5; have HB5 := lH hb5; clear hbx5 hb5; go_wp2_with fail
       go_meet
       refine lH ⟨?_, ?_⟩
       · have e : q = ⟨i, ww, pv + s, dd⟩ := by rw [HQ2.out, if_pos hd, HDD.out]
         rw [e]; exact HX5.out.store4 ⟨i, ww, pv + s, dd⟩
       · exact ((((HB1.out.trans (HB5.out.mono HB1.out.size)).setCell (by simp) _).setCell (by simp) _).setCell (by simp) _).setCell (by simp) _
     · go_wp2_with fail
       go_meet
       refine lH ⟨?_, HB1.out⟩; have e : q = ⟨i, ww, pv + s, day⟩ := by rw [HQ2.out, if_neg (by omega)]
       rw [e]; exact HBX.out
    case rest =>
     obtain ⟨hbox, hb3⟩ := hcut.out; clear d0 d1 d2 d3 f0 f1 f2 f3 hcut; have hL3 := HL0.out.below hb3; have hsl3 := hL3.sl; rw [HN.out] at hsl3; obtain ⟨c0, c1, c2, c3⟩ := hL3.cells (by rw [HN.out]; exact hk) HPK.out; simp only at c0 c1 c2 c3; obtain ⟨d0, d1, d2, d3⟩ := hbox.cells; have f0 := hL3.rowLive (k * 4); have f1 := hL3.rowLive (k * 4 + 1); have f2 := hL3.rowLive (k * 4 + 2); have f3 := hL3.rowLive (k * 4 + 3); have hset := (hL3.setPt k (by rw [HN.out]; exact hk) q).drew; have hT3 : Touch (lfp b (.slice (some ⟨g, 0, none⟩) l.ps.length cap)) W (put4 wc g (k * 4) q).drew :=
      ((Touch.of_below (HB0.out.trans (hb3.mono HB0.out.size))).trans (fun j hj => .inl (.inr (by rw [hj]; rfl))) (touch_put4 wc g (k * 4) q)).drew
     have hgw := hL3.lt g (.inr rfl); have hbxn : BoxAt (put4 wc g (k * 4) q).drew w0.heap.size q := (put4_heap (by omega)).trans hbox; have hlen' : (l.ps.set k q).length ≤ 64 := by rw [List.length_set, HN.out]; exact hlen
     have hgrow := grow_any b _ _ (put4 wc g (k * 4) q).drew hset hlen'; have HSET := lH hset; have HT3 := lH hT3; have HBN := lH hbxn; have hszn : w0.heap.size < (put4 wc g (k * 4) q).drew.heap.size := hbxn.lt; clear hset hT3 hbxn hbox hb3 hL3; go_wp2_with fail
     go_region
     change Exit.then _ _ _ _ (put4 wc g (k * 4) q).drew; generalize (put4 wc g (k * 4) q).drew = w6 at hgrow HSET HT3 HBN hszn ⊢; go_wp2_with fail
     refine hgrow.mono ?_; rintro e w7 ⟨rfl, hL7, ht7⟩; have hbx7 : BoxAt w7 w0.heap.size q := (ht7.block _ hszn (by omega)).trans HBN.out; obtain ⟨g0, _, _, _⟩ := hbx7.cells; have HL7 := lH hL7; have HT7 := lH ht7; clear hL7 ht7 hbx7; rw [HQI.out] at g0; go_wp2_with fail
     go_ret2
     refine ⟨fun h => absurd h (by simp only; omega), fun _ => ⟨rfl, ?_, HT3.out.trans (fun j hj => .inl (.inl hj)) HT7.out⟩⟩; rw [HQ.out]; exact HL7.out
def pickF (l : Ln) : Ln :=
 if posP l.ps l.cur < 0 then takeL l
 else if (l.ps[(posP l.ps l.cur).toNat]!).v - 465585120 ≤ (minP l.ps).v then l else takeL l
theorem box_after {W w0 w1 : World} {m : Pt} (h : w0 = W.alloc (.cells m.cells.toArray 338)) (hb : Below w0.heap.size w0 w1) : BoxAt w1 W.heap.size m := by
 subst h; exact (hb.block W.heap.size (by simp)).trans (heap_alloc_new W _)
theorem pick_fair (b : Nat) (v : Value) (l : Ln) (W : World) (h : LineAt W b v l) (hlen : l.ps.length ≤ 64) (hv : ∀ p ∈ l.ps, -2305843009213693952 ≤ p.v ∧ p.v ≤ 4611686018427387904) :
 Calls Tryz.prog 305 #[.pointer (some ⟨b, 0, none⟩)] W (PickP b v (pickF l) W) := by
 have hleast := least_any b v l W h hlen; have htake := fun W' h' => take_any b v l W' h'; rcases posP_cases l.ps l.cur with ⟨hp, _⟩ | ⟨k, hk, hp, _⟩
 · have hnow := fun W' h' => now_none b v l W' h' (by omega); have e : pickF l = takeL l := by unfold pickF; rw [if_pos (by omega)]
   rw [e]; obtain ⟨m, hm⟩ : ∃ m, minP l.ps = m := ⟨_, rfl⟩
   obtain ⟨c, hc⟩ : ∃ c, (!l.ps.isEmpty) = c := ⟨_, rfl⟩
   rw [hm, hc] at hleast htake; have HL := lH h; clear h hm hc e hp; obtain ⟨i, ww, pv, day⟩ := m; simp only [Pt.cells] at hleast htake; go_enter Tryz.func305, Tryz.ntmps305; go_wp2_with fail
   refine hleast.mono ?_; rintro e w1 ⟨rfl, hb1⟩; have hL1 := HL.out.below hb1; have hL2 := hL1.alloc (.cells #[.int .i64 i, .int .i64 ww, .int .i64 pv, .int .i64 day] 338); have hn := hnow _ hL2; go_wp2_with fail
   refine hn.mono ?_; rintro e w2 ⟨rfl, hb2⟩; have hbox : BoxAt w2 w1.heap.size ⟨i, ww, pv, day⟩ := box_after rfl hb2; obtain ⟨d0, d1, d2, d3⟩ := hbox.cells; simp only at d0 d1 d2 d3; have hlt2 := hbox.lt; have hL := hL2.below hb2; have hT : Touch (fun k => k = b) W w2 := Touch.of_below ((hb1.alloc hb1.size _).trans (hb2.mono (by have := hb1.size; simp; omega))); have hL' := (hL.alloc (.cells #[.int .i64 0, .int .i64 0, .int .i64 0, .int .i64 0] 338)).drew; have hT' := (hT.alloc (.cells #[.int .i64 0, .int .i64 0, .int .i64 0, .int .i64 0] 338)).drew; have HL' := lH hL'; have HT' := lH hT'; clear hL1 hL2 hL hT hb1 hb2 hbox hL' hT' hn hleast; go_wp2_with fail
   go_region_with (go_at_call 273; refine (htake _ HL'.out).mono ?_; rintro e w' ⟨⟨i, rfl⟩, hL2, hT2⟩; have hT := HT'.out.self hT2)
   all_goals
    go_wp2_with fail
    go_ret2
    exact ⟨⟨_, _, rfl⟩, hL2, hT⟩
 · obtain ⟨p, hpk⟩ : ∃ p, l.ps[k]! = p := ⟨_, rfl⟩
   have hnow := fun W' h' => now_hit b v l W' h' k hk hp p hpk hlen; have hpv := hv p (by rw [← hpk, getElem!_list hk]; exact List.getElem_mem hk); have e : pickF l = if p.v - 465585120 ≤ (minP l.ps).v then l else takeL l := by
    unfold pickF; rw [if_neg (by omega), hp]; simp only [Int.toNat_natCast, hpk]
   have HE := lH e; obtain ⟨m, hm⟩ : ∃ m, minP l.ps = m := ⟨_, rfl⟩
   obtain ⟨c, hc⟩ : ∃ c, (!l.ps.isEmpty) = c := ⟨_, rfl⟩
   rw [hm, hc] at hleast htake; have HL := lH h; have HM := lH hm; clear h hm hc e hp hpk hv; obtain ⟨i, ww, pv, day⟩ := m; obtain ⟨i2, ww2, pv2, day2⟩ := p; simp only [Pt.cells] at hleast htake hnow hpv; obtain ⟨q1, q2⟩ := hpv; by_cases hge : pv2 - 465585120 ≤ pv
   · have e2 : pickF l = l := by rw [HE.out, HM.out, if_pos hge]
     rw [e2]; clear e2; go_enter Tryz.func305, Tryz.ntmps305; go_wp2_with fail
     refine hleast.mono ?_; rintro e w1 ⟨rfl, hb1⟩; have hL1 := HL.out.below hb1; have hL2 := hL1.alloc (.cells #[.int .i64 i, .int .i64 ww, .int .i64 pv, .int .i64 day] 338); have hn := hnow _ hL2; go_wp2_with fail
     refine hn.mono ?_; rintro e w2 ⟨rfl, hb2⟩; have hbox : BoxAt w2 w1.heap.size ⟨i, ww, pv, day⟩ := box_after rfl hb2; obtain ⟨d0, d1, d2, d3⟩ := hbox.cells; simp only at d0 d1 d2 d3; have hlt2 := hbox.lt; have HL2 := lH (hL2.below hb2); have HT : Hid (Touch (fun k => k = b) W w2) := lH (Touch.of_below ((hb1.alloc hb1.size _).trans (hb2.mono (by have := hb1.size; simp; omega)))); clear hL1 hL2 hb1 hb2 hbox hn hleast; go_wp2_with fail
     go_ret2
     exact ⟨⟨_, _, rfl⟩, HL2.out.alloc _, HT.out.alloc _⟩
   · have e2 : pickF l = takeL l := by rw [HE.out, HM.out, if_neg hge]
     rw [e2]; clear e2; go_enter Tryz.func305, Tryz.ntmps305; go_wp2_with fail
     refine hleast.mono ?_; rintro e w1 ⟨rfl, hb1⟩; have hL1 := HL.out.below hb1; have hL2 := hL1.alloc (.cells #[.int .i64 i, .int .i64 ww, .int .i64 pv, .int .i64 day] 338); have hn := hnow _ hL2; go_wp2_with fail
     refine hn.mono ?_; rintro e w2 ⟨rfl, hb2⟩; have hbox : BoxAt w2 w1.heap.size ⟨i, ww, pv, day⟩ := box_after rfl hb2; obtain ⟨d0, d1, d2, d3⟩ := hbox.cells; simp only at d0 d1 d2 d3; have hlt2 := hbox.lt; have hL := hL2.below hb2; have hT : Touch (fun k => k = b) W w2 := Touch.of_below ((hb1.alloc hb1.size _).trans (hb2.mono (by have := hb1.size; simp; omega))); have hL' := (hL.alloc (.cells #[.int .i64 i2, .int .i64 ww2, .int .i64 pv2, .int .i64 day2] 338)).drew; have hT' := (hT.alloc (.cells #[.int .i64 i2, .int .i64 ww2, .int .i64 pv2, .int .i64 day2] 338)).drew; have HL' := lH hL'; have HT' := lH hT'; clear hL1 hL2 hL hT hb1 hb2 hbox hL' hT' hn hleast; go_wp2_with fail
     go_region_with (go_at_call 273; refine (htake _ HL'.out).mono ?_; rintro e w' ⟨⟨i, rfl⟩, hL2, hT2⟩; have hT := HT'.out.self hT2)
     all_goals
      go_wp2_with fail
      go_ret2
      exact ⟨⟨_, _, rfl⟩, hL2, hT⟩
end Go.Proofs.YtoiajjobecinpaaGreat
