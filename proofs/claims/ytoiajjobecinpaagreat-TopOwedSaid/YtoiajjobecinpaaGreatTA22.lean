/- A state is told: the walk. State, world.New. -/
import Derived.Test.YtoiajjobecinpaaGreatTA21
set_option maxHeartbeats 4000000
namespace Go.Proofs.YtoiajjobecinpaaGreat
open Go.RowKit Go.Shelf Go.Lib Go.Proofs
set_option linter.unusedVariables false
set_option linter.unusedSimpArgs false
section
attribute [local go_sem] Oper.semAt_some
def OfP (s : Sy) (w : World) (e : Ending) (W' : World) : Prop :=
 ∃ vs : Nat → Value, e = .returned (.agg #[vs 0, vs 1, vs 2, vs 3, vs 4]) ∧ StateR s (w.heap.size + 2) W' vs ∧ Below w.heap.size w W'
theorem cells5 {W : World} {B : Nat} {a b c d f : Value} {t : TypeId} (h : W.heap[B]? = some (.cells #[a, b, c, d, f] t (0, 0))) :
 (W.cell? ⟨B, 0, none⟩ = some a ∧ W.cell? ⟨B, 1, none⟩ = some b ∧ W.cell? ⟨B, 2, none⟩ = some c ∧ W.cell? ⟨B, 3, none⟩ = some d ∧ W.cell? ⟨B, 4, none⟩ = some f) ∧ (∀ i, W.frozen? ⟨B, i, none⟩ = false) ∧
 ∀ a' b' c' d' f', (((((W.setCell ⟨B, 0, none⟩ a').setCell ⟨B, 1, none⟩ b').setCell ⟨B, 2, none⟩ c').setCell ⟨B, 3, none⟩ d').setCell ⟨B, 4, none⟩ f').heap[B]? = some (.cells #[a', b', c', d', f'] t (0, 0)) := by
 refine ⟨⟨?_, ?_, ?_, ?_, ?_⟩, fun i => by simp only [World.frozen?, h]; simp, fun a' b' c' d' f' => ?_⟩
 · simp only [World.cell?, h]; rfl
 · simp only [World.cell?, h]; rfl
 · simp only [World.cell?, h]; rfl
 · simp only [World.cell?, h]; rfl
 · simp only [World.cell?, h]; rfl
 · simp [World.setCell, Array.getElem?_modify, h]
theorem ownsRow_slice {W : World} {H : Nat} {t : TypeId} {sz : Nat} {v : Value} {n : Nat} {xs : List Value} (h : W.ownsRow H t sz v n xs) : ∃ a n c, v = .slice a n c := by
 rcases h.2 with ⟨e, _⟩ | ⟨g, cap, cur, e, _⟩
 · exact ⟨_, _, _, e⟩
 · exact ⟨_, _, _, e⟩
theorem path_has {gs : List (Bool × Int)} {id : Int} {ys : List G16} (hp : IsPath gs id ys) : (ys = [] → hasG gs id = false) ∧ (ys ≠ [] → hasG gs id = true) := by
 cases ys with
 | nil => exact ⟨fun _ => hp, fun h => absurd rfl h⟩
 | cons y t => exact ⟨fun h => (by cases h), fun _ => hp.2.1⟩
structure TellY (s : Sy) : Prop where
 sized : Sized s.ps
 dom : DomY s
 ready : ReadyY s
 fits : FitsY s
 path : ∀ g : Nat, g < 16 → ∃ xs, IsPath s.gs (g : Int) xs ∧ xs.length ≤ 1000
 acc : s.acc.length = 16
set_option maxRecDepth 100000 in
theorem of_any (sb gb nb pb mb n : Nat) (cv : Value) (D : DataW Unit) (cbs : List Nat) (tb : Int → Nat) (own : Nat → Option Own) (s : Sy) (w : World) (h : SysAt w sb gb nb pb mb n cv D cbs tb own s) (hy : TellY s) (h16 : cbs.length ≤ 16) :
 Calls Tryz.prog 39 #[.pointer (some ⟨sb, 0, none⟩)] w (OfP s w) := by
 have hf := hy.fits; have HY := lH hy; have hB0 : Below w.heap.size w ((w.alloc (.cells #[.slice none 0 0, .slice none 0 0, .slice none 0 0, .slice none 0 0, .slice none 0 0] 44)).alloc (.cells #[.slice none 0 0, .slice none 0 0, .slice none 0 0, .slice none 0 0, .slice none 0 0] 44)) := ((Below.refl _ w).alloc (Nat.le_refl _) _).alloc (by simp) _; have hcs := cores_any sb gb nb pb mb n cv D cbs tb own s _ (h.below hB0); have hnum := h.num; have hstart := ofInv_start w s.cores; generalize hN : cbs.length = N at hcs h16 hnum; have HS := lH h; have HF := lH hf; have HN := lH hN; have HNUM := lH hnum; have HST := lH hstart; clear h hf hy hnum hN hstart hB0; unfold OfP; go_enter Tryz.func39, Tryz.ntmps39; go_wp2_with fail
 refine hcs.mono ?_; rintro e w1 ⟨rfl, rfl⟩; clear hcs; generalize (w.alloc (.cells #[.slice none 0 0, .slice none 0 0, .slice none 0 0, .slice none 0 0, .slice none 0 0] 44)).alloc (.cells #[.slice none 0 0, .slice none 0 0, .slice none 0 0, .slice none 0 0, .slice none 0 0] 44) = W0 at HST ⊢; go_wp2_with fail
 go_loopw [15] (fun x wr => ∃ k : Nat, k ≤ N ∧ x = .int .i64 k ∧ Hid (OfInv w s.cores k wr)) (fun x _ => N - (intOf x).toNat)
 case atStart => exact ⟨0, Nat.zero_le _, rfl, HST⟩
 case round =>
  obtain ⟨k, hk, rfl, HI⟩ := hrel; by_cases hkN : k < N
  · obtain ⟨vs, cnt, xs, P, fl, hSt, hBw, hz0, hP0, hc0, hc1, hrest⟩ := HI.out; have hSy := HS.out.below hBw; have hki : k < cbs.length := by rw [HN.out]; exact hkN
    have hkc : k < s.cores.length := by rw [← HNUM.out]; exact hkN
    have hco := ycore_any sb gb nb pb mb n cv D cbs tb own s k wr hSy hki; obtain ⟨cb, hcb⟩ : ∃ x, cbs[k]! = x := ⟨_, rfl⟩
    rw [hcb] at hco; have hkn : (k : Int) < (N : Int) := by omega
    have hk0 : (0 : Int) ≤ (k : Int) := by omega
    have hcall : ∀ W', Below w.heap.size w W' → Calls Tryz.prog 88 #[.pointer (some ⟨cb, 0, none⟩)] W' (fun e w' => e = .returned (.int .i64 s.cores[k]!.tag) ∧ W' = w') ∧ Calls Tryz.prog 89 #[.pointer (some ⟨cb, 0, none⟩)] W' (FormP W' s.cores[k]!.l.cur (formL s.cores[k]!.l)) := fun W' hb => by
     have h1 := ctag_any _ _ _ W' ((HS.out.below hb).core k hki); have h2 := cform_any _ _ _ W' ((HS.out.below hb).core k hki) (HF.out k hkc); rw [hcb] at h1 h2; exact ⟨h1, h2⟩
    have v0 := hSt.cell 0 (by omega); have hlv0 := hSt.live 0; have hrow0 : wr.ownsRow (w.heap.size + 2) 3 1 (vs 0) k (xs 0) := by have := hSt.row 0 (by omega); rw [hc0.1] at this; exact this
    obtain ⟨i0, hi0, hz1, hz2, hz3⟩ := info_parts info3; obtain ⟨i70, hj0, hj1, hj2, hj3⟩ := info_parts info70; have htag1 := (hcall wr.drew hBw.drew).1; obtain ⟨tg, htg⟩ : ∃ x, s.cores[k]!.tag = x := ⟨_, rfl⟩
    rw [htg] at htag1; obtain ⟨va, hva⟩ : ∃ x, vs 0 = x := ⟨_, rfl⟩
    rw [hva] at v0 hrow0; have hHle := hSt.lt; have hM := fun (w4 : World) (g cap : Nat) hg hown hat => OfInv.tag (w4 := w4) (g := g) (cap := cap) (o := .cells #[.int .i64 tg] 3) hkc hSt hBw hz0 hP0 hc0 hc1 hrest hg hown hat; rw [htg, hva] at hM; have hr8 : ((wr.alloc (.cells #[.int .i64 tg] 3)).drew).ownsRow (w.heap.size + 2) 3 1 va k (xs 0) := hrow0.alloc _; have hn8 : ∀ (j : Nat) (u : Value), [Value.int .i64 tg][j]? = some u → ((wr.alloc (.cells #[.int .i64 tg] 3)).drew).cell? ((⟨wr.heap.size, 0, none⟩ : Addr).add j) = some u := World.news_of_block (cs := #[.int .i64 tg]) (t := 3) (fr := (0, 0)) (heap_alloc_new wr _); have HZ8 : Hid (((wr.alloc (.cells #[.int .i64 tg] 3)).drew).heap.size = wr.heap.size + 1) := lH (World.size_alloc wr _); have hvne : va.ownBlock ≠ some (w.heap.size + 1) := fun e => by have := (hrow0.lt _ e).1; omega
    have hSa : RwS (w.heap.size + 1) 0 va wr.drew := v0; have hSb : RwS (w.heap.size + 1) 0 va (wr.alloc (.cells #[.int .i64 tg] 3)).drew := c2a _ v0; have HST := lH hSt; have HBW := lH hBw; have HM := lH hM; have HV := lH hva; have HCALL := lH hcall; have HLV := lH hlv0; clear hSt hBw hSy hcall hM hc0 hc1 hrest hz0 hP0 htg hva HI hlv0; go_wp2_with fail
    refine hco.mono ?_; rintro e w2 ⟨rfl, rfl⟩; go_wp2_with fail
    refine wp_region_W (S := RwS (w.heap.size + 1) 0 va) (T := [7]) (by kernel_rfl) ?_; refine wpAnyW_take (i := 0) (v := ?_) rfl (by kernel_rfl) (by kernel_rfl) (by kernel_rfl) (by kernel_rfl) (fun _ _ _ h => h) (Or.inl ⟨by rfl, ?_⟩) (by assumption) ?_; rotate_left
    · intro w2 hSw; (unfold RwS at hSw); go_simp; (first | done | with_reducible rfl)
    simp only [Act.put, List.setIfInBounds_toArray, List.set_cons_zero, List.set_cons_succ]; refine wpAnyW_take (i := 1) (v := ?_) rfl (by kernel_rfl) (by kernel_rfl) (by kernel_rfl) (by kernel_rfl) (fun _ _ _ h => h) (Or.inl ⟨by rfl, ?_⟩) (by assumption) ?_; rotate_left
    · intro w2 hSw; (unfold RwS at hSw); go_simp; (first | done | with_reducible rfl)
    simp only [Act.put, List.setIfInBounds_toArray, List.set_cons_zero, List.set_cons_succ]; refine wpAnyW_take (i := 2) (v := ?_) rfl (by kernel_rfl) (by kernel_rfl) (by kernel_rfl) (by kernel_rfl) (fun _ _ _ h => h) (Or.inl ⟨by rfl, ?_⟩) (by assumption) ?_; rotate_left
    · intro w2 hSw; (unfold RwS at hSw); go_simp; (first | done | with_reducible rfl)
    simp only [Act.put, List.setIfInBounds_toArray, List.set_cons_zero, List.set_cons_succ]; refine wpAnyW_one (i := 3) (by kernel_rfl) rfl (by kernel_rfl) ?_; intro K3 hK; go_simp
    refine htag1.mono ?_; rintro e w9 ⟨rfl, rfl⟩; refine hK _ _ hSa ?_; clear hK; refine wpAnyW_one (i := 4) (by kernel_rfl) rfl (by kernel_rfl) ?_; intro K4 hK; go_simp
    refine hK _ _ hSb ?_; clear hK; refine wpAnyW_one (i := 5) (by kernel_rfl) rfl (by kernel_rfl) ?_; intro K5 hK; refine step_append_lies _ rfl _ _ _ rfl (w.heap.size + 2) 3 i0 (.int .i64 0) 1 8 Tryz.underlying22 hi0 hz1 hz2 hz3 rfl (by decide) va k (xs 0) rfl hr8 ⟨wr.heap.size, 0, none⟩ 1 1 [.int .i64 tg] rfl rfl hn8 (by simp [Value.oneCell']) (by omega) (by unfold maxLen; omega) (by omega) (by rw [HZ8.out]; omega) (wr.heap.size + 1) HZ8.out ?_; intro g cap w4 hown4 hgrow4 hat4 hlt4; have hblk : w4.heap[w.heap.size + 1]? = wr.heap[w.heap.size + 1]? := (hgrow4.block (w.heap.size + 1) (by rw [HZ8.out]; omega) (fun e => hvne e.symm)).trans (show (wr.alloc _).heap[w.heap.size + 1]? = wr.heap[w.heap.size + 1]? from Below.heap_alloc _ _ _ (by omega))
    have hSc : RwS (w.heap.size + 1) 0 va w4 := (World.cell?_of_block (a := ⟨w.heap.size + 1, 0, none⟩) hblk).trans v0; have hSc' : w4.cell? ⟨w.heap.size + 1, 0, none⟩ = some va := hSc; have hf9 : w4.frozen? ⟨w.heap.size + 1, 0, none⟩ = false := (World.frozen?_of_block (a := ⟨w.heap.size + 1, 0, none⟩) hblk).trans HLV.out; refine hK _ _ hSc ?_; clear hK; simp only [Act.put, List.setIfInBounds_toArray, List.set_cons_zero, List.set_cons_succ]; refine wpAnyW_one (i := 6) (by kernel_rfl) rfl (by kernel_rfl) ?_; intro K6 hK; go_simp
    refine hK _ _ hSc ?_; clear hK; refine wpAnyW_last (i := 7) (by kernel_rfl) rfl (by kernel_rfl) ?_; intro K7 hK; go_simp
    refine hK _ _ ?_; clear hK; refine wpAnyW_done (by kernel_rfl) ?_ _; have hg4 : (wr.alloc (.cells #[.int .i64 tg] 3)).grownBy w4 va.ownBlock := ⟨hgrow4.os, hgrow4.tape, hgrow4.output, hgrow4.size, hgrow4.block⟩
    have hMid := HM.out w4 g cap hg4 hown4 hat4; clear hgrow4 hown4 hat4 hlt4 hblk hSc hSc' hf9 hg4 hSa hSb hr8 hn8 hvne v0 hrow0 HV HM hHle htag1 HST HBW HZ8 HLV; generalize w4.setCell ⟨w.heap.size + 1, 0, none⟩ (.slice (some ⟨g, 0, none⟩) (k + 1) cap) = w5 at hMid ⊢; clear vs cnt xs P fl w4; obtain ⟨vs, cnt, xs, P, fl, hSt, hBw, hz0, hP0, hc0, hc1, hrest⟩ := hMid; have v1 := hSt.cell 1 (by omega); have hlv1 := hSt.live 1; have hrow1 : w5.ownsRow (w.heap.size + 2) 70 2 (vs 1) k (xs 1) := by have := hSt.row 1 (by omega); rw [hc1.1] at this; exact this
    obtain ⟨vb, hvb⟩ : ∃ x, vs 1 = x := ⟨_, rfl⟩
    obtain ⟨ys, hys⟩ : ∃ x, xs 1 = x := ⟨_, rfl⟩
    rw [hvb] at v1 hrow1; rw [hys] at hrow1; have hHle := hSt.lt; have hM := fun (w8 w4 : World) (g cap : Nat) (o : Obj) (v : Value) hb8 hr8 hg hown hat => OfMid.form (w8 := w8) (w4 := w4) (g := g) (cap := cap) (o := o) (v := v) hkc hSt hBw hz0 hP0 hc0 hc1 hrest hb8 hr8 hg hown hat; rw [hvb, hys] at hM; have hform1 := (HCALL.out w5.drew hBw.drew).2; obtain ⟨cur, hcur⟩ : ∃ x, s.cores[k]!.l.cur = x := ⟨_, rfl⟩
    obtain ⟨its, hits⟩ : ∃ x, formL s.cores[k]!.l = x := ⟨_, rfl⟩
    rw [hcur, hits] at hform1; rw [hcur, hits] at hM; have hSa : RwS (w.heap.size + 1) 1 vb w5.drew := v1; have hvne : vb.ownBlock ≠ some (w.heap.size + 1) := fun e => by have := (hrow1.lt _ e).1; omega
    have HM := lH hM; have HLV := lH hlv1; have HR1 := lH hrow1; clear hSt hBw hz0 hP0 hc0 hc1 hrest hvb hys hcur hits hM HCALL hlv1 hrow1; go_wp2_with fail
    refine wp_region_W (S := RwS (w.heap.size + 1) 1 vb) (T := [7]) (by kernel_rfl) ?_; refine wpAnyW_take (i := 0) (v := ?_) rfl (by kernel_rfl) (by kernel_rfl) (by kernel_rfl) (by kernel_rfl) (fun _ _ _ h => h) (Or.inl ⟨by rfl, ?_⟩) (by assumption) ?_; rotate_left
    · intro w2 hSw; (unfold RwS at hSw); go_simp; (first | done | with_reducible rfl)
    simp only [Act.put, List.setIfInBounds_toArray, List.set_cons_zero, List.set_cons_succ]; refine wpAnyW_take (i := 1) (v := ?_) rfl (by kernel_rfl) (by kernel_rfl) (by kernel_rfl) (by kernel_rfl) (fun _ _ _ h => h) (Or.inl ⟨by rfl, ?_⟩) (by assumption) ?_; rotate_left
    · intro w2 hSw; (unfold RwS at hSw); go_simp; (first | done | with_reducible rfl)
    simp only [Act.put, List.setIfInBounds_toArray, List.set_cons_zero, List.set_cons_succ]; refine wpAnyW_take (i := 2) (v := ?_) rfl (by kernel_rfl) (by kernel_rfl) (by kernel_rfl) (by kernel_rfl) (fun _ _ _ h => h) (Or.inl ⟨by rfl, ?_⟩) (by assumption) ?_; rotate_left
    · intro w2 hSw; (unfold RwS at hSw); go_simp; (first | done | with_reducible rfl)
    simp only [Act.put, List.setIfInBounds_toArray, List.set_cons_zero, List.set_cons_succ]; refine wpAnyW_one (i := 3) (by kernel_rfl) rfl (by kernel_rfl) ?_; intro K3 hK; go_simp
    refine hform1.mono ?_; rintro e w9 ⟨v9, rfl, hr9, hb9⟩; obtain ⟨a9, c9, hv9⟩ := (FSl.of hr9).form; subst hv9; have hz9 := hb9.size; have hblk9 : w9.heap[w.heap.size + 1]? = w5.heap[w.heap.size + 1]? := hb9.block (w.heap.size + 1) (show w.heap.size + 1 < w5.heap.size by omega); have hSb : RwS (w.heap.size + 1) 1 vb w9 := (World.cell?_of_block (a := ⟨w.heap.size + 1, 1, none⟩) hblk9).trans v1; have hSc : RwS (w.heap.size + 1) 1 vb (w9.alloc (.cells #[.int .i64 cur, .slice a9 its.length c9] 70)) := c2a _ hSb; have hrow9 := ownsRow_same HR1.out (fun j hj => hb9.block j (HR1.out.lt j hj).2); have HR9 := lH hr9; have HB9 := lH hb9; obtain ⟨L9, hL9⟩ : ∃ x, its.length = x := ⟨_, rfl⟩
    rw [hL9] at hSc HR9; rw [hL9]; refine hK _ _ hSb ?_; clear hK; refine wpAnyW_one (i := 4) (by kernel_rfl) rfl (by kernel_rfl) ?_; intro K4 hK; go_simp
    refine hK _ _ hSc ?_; clear hK; refine wpAnyW_one (i := 5) (by kernel_rfl) rfl (by kernel_rfl) ?_; intro K5 hK; refine step_append_lies _ rfl _ _ _ rfl (w.heap.size + 2) 70 i70 (.agg #[.int .i64 0, .slice none 0 0]) 2 32 Tryz.underlying40 hj0 hj1 hj2 hj3 rfl (by decide) vb k ys rfl (hrow9.alloc _) ⟨w9.heap.size, 0, none⟩ 1 1 [.int .i64 cur, .slice a9 L9 c9] rfl rfl (World.news_of_block (cs := #[.int .i64 cur, .slice a9 L9 c9]) (t := 70) (fr := (0, 0)) (heap_alloc_new w9 _)) (by simp [Value.oneCell']) (by omega) (by unfold maxLen; omega) (by omega) (by simp; have : w5.heap.size ≤ w9.heap.size := hz9; omega) (w9.heap.size + 1) (by simp) ?_; intro g cap w4 hown4 hgrow4 hat4 hlt4; have hblk : w4.heap[w.heap.size + 1]? = w9.heap[w.heap.size + 1]? := (hgrow4.block (w.heap.size + 1) (by have : w5.heap.size ≤ w9.heap.size := hz9; simp; omega) (fun e => hvne e.symm)).trans (Below.heap_alloc _ _ _ (by have : w5.heap.size ≤ w9.heap.size := hz9; omega))
    have hSd : RwS (w.heap.size + 1) 1 vb w4 := (World.cell?_of_block (a := ⟨w.heap.size + 1, 1, none⟩) hblk).trans hSb; have hSd' : w4.cell? ⟨w.heap.size + 1, 1, none⟩ = some vb := hSd; have hf9 : w4.frozen? ⟨w.heap.size + 1, 1, none⟩ = false := (World.frozen?_of_block (a := ⟨w.heap.size + 1, 1, none⟩) (hblk.trans hblk9)).trans HLV.out; refine hK _ _ hSd ?_; clear hK; simp only [Act.put, List.setIfInBounds_toArray, List.set_cons_zero, List.set_cons_succ]; refine wpAnyW_one (i := 6) (by kernel_rfl) rfl (by kernel_rfl) ?_; intro K6 hK; go_simp
    refine hK _ _ hSd ?_; clear hK; refine wpAnyW_last (i := 7) (by kernel_rfl) rfl (by kernel_rfl) ?_; intro K7 hK; go_simp
    refine hK _ _ ?_; clear hK; refine wpAnyW_done (by kernel_rfl) ?_ _; have hb9' : Below w5.heap.size w5 w9 := ⟨HB9.out.os, HB9.out.tape, HB9.out.output, HB9.out.size, HB9.out.block⟩
    have hr9' : w9.ownsRow w5.heap.size 77 3 (.slice a9 L9 c9) its.length (flatI its) := by rw [hL9]; exact HR9.out
    have hADD := HM.out w9 w4 g cap (.cells #[.int .i64 cur, .slice a9 L9 c9] 70) (.slice a9 L9 c9) hb9' hr9' hgrow4 hown4 hat4; have HADD := lH hADD; clear hADD hb9' hr9' hgrow4 hown4 hat4 hlt4 hblk hSd hSd' hf9 hSa hSb hSc hvne v1 HM hHle HLV HR9 HB9 hb9 hr9 hrow9 hblk9 hz9 HR1; generalize w4.setCell ⟨w.heap.size + 1, 1, none⟩ (.slice (some ⟨g, 0, none⟩) (k + 1) cap) = w6 at HADD ⊢; go_wp2_with fail
    go_roundw
    case rel => exact ⟨k + 1, hkN, by go_num, HADD⟩
    case measure => simp [intOf]; omega
  · obtain rfl : k = N := by omega
    have hI := HI.out; rw [HNUM.out] at hI; have hBw : Below w.heap.size w wr := by obtain ⟨_, _, _, _, _, _, h, _⟩ := hI; exact h
    have htasks := tasks_any sb gb nb pb mb n cv D cbs tb own s wr (HS.out.below hBw) HY.out.sized HY.out.dom HY.out.ready HY.out.fits; have HI2 := lH hI; have HBW := lH hBw; clear hI hBw HI HST; go_wp2_with fail
    refine htasks.mono ?_; rintro e w7 ⟨tv, rfl, hr7, hb7⟩; obtain ⟨⟨c2, f2⟩, hA⟩ := HI2.out.tasks hb7 hr7; obtain ⟨ta, tn, tc, htv⟩ : ∃ a n c, tv = .slice a n c := by
     rcases hr7.2 with ⟨e, _⟩ | ⟨g, cap, cur, e, _⟩
     · exact ⟨_, _, _, e⟩
     · exact ⟨_, _, _, e⟩
    subst htv; have HA := lH hA; clear hA hr7 hb7 HI2 HBW htasks; go_wp2_with fail
    clear c2 f2; generalize w7.setCell ⟨w.heap.size + 1, 2, none⟩ (.slice ta tn tc) = w8 at HA ⊢; go_loopw [42] (fun x wq => ∃ q : Nat, q ≤ 16 ∧ x = .int .i64 q ∧ Hid (∃ vs cnt xs P fl, OfA w s q q wq vs cnt xs P fl)) (fun x _ => 16 - (intOf x).toNat)
    case atStart => exact ⟨0, by omega, rfl, HA⟩
    case round =>
     obtain ⟨q, hq, rfl, HQ⟩ := hrel; by_cases hq16 : q < 16
     · obtain ⟨vs, cnt, xs, P, fl, hA⟩ := HQ.out; obtain ⟨ys, hp, hpl⟩ := HY.out.path q hq16; have hacct := acct_any sb gb nb pb mb n cv D cbs tb own s q ys wr (HS.out.below hA.below) hp hpl; have hqi : (q : Int) < 16 := by omega
       have hhas : (ys = [] → hasG s.gs (q : Int) = false) ∧ (ys ≠ [] → hasG s.gs (q : Int) = true) := path_has hp; have HHAS := lH hhas; have HA := lH hA; clear hp hpl hhas hA HQ; go_wp2_with fail
       refine hacct.mono ?_; rintro e w9 ⟨hb9, hcase⟩; rcases hcase with ⟨hys, rfl⟩ | ⟨hys, rfl⟩
       · have HA2 := lH ((HA.out.same hb9).same ((Below.refl _ _).alloc (Nat.le_refl _) (.cells #[.int .i64 0, .int .i64 0, .int .i64 0, .int .i64 0] 119))); have HSK := lH (accsK_skip (HHAS.out.1 hys)); clear hb9 hys hacct HA HHAS; go_wp2_with fail
         generalize w9.alloc (.cells #[.int .i64 0, .int .i64 0, .int .i64 0, .int .i64 0] 119) = w10 at HA2 ⊢; go_roundw
         case rel =>
          refine ⟨q + 1, hq16, by go_num, lH ?_⟩; obtain ⟨a1, a2, a3, a4, a5, a6, a7, a8, a9⟩ := HA2.out; exact ⟨vs, cnt, xs, P, fl, a1, a2, a3, a4, a5, a6, a7, by rw [HSK.out]; exact a8, by rw [HSK.out]; exact a9⟩
         case measure => simp [intOf]; omega
       · have hmore := accsK_more (HHAS.out.2 hys); obtain ⟨qq, hqq⟩ : ∃ x, s.acc.getD q default = x := ⟨_, rfl⟩
         have hqq2 : s.acc.getD ((q : Int)).toNat default = qq := by rw [Int.toNat_natCast]; exact hqq
         rw [hqq] at hmore; rw [hqq2]; have hW := (HA.out.same hb9).same ((Below.refl _ _).alloc (Nat.le_refl _) (.cells #[.int .i64 qq.1, .int .i64 qq.2.1, .int .i64 qq.2.2.1, .int .i64 qq.2.2.2] 119)); have hbox := heap_alloc_new w9 (.cells #[.int .i64 qq.1, .int .i64 qq.2.1, .int .i64 qq.2.2.1, .int .i64 qq.2.2.2] 119); have hK := hW.keep (B := w9.heap.size) (by simp) (by have := HA.out.st.lt; have := hb9.size; omega) (fun i hi e => by have := ((HA.out.st.row i hi).lt _ e).2; have := hb9.size; omega) (by have := HA.out.st.lt; have := hb9.size; omega); have HMORE := lH hmore; clear hW hqq hqq2 hb9 hys hacct HA HHAS hmore; go_upto_region 17 with fail
         generalize w9.alloc (.cells #[.int .i64 qq.1, .int .i64 qq.2.1, .int .i64 qq.2.2.1, .int .i64 qq.2.2.2] 119) = w10 at hK hbox ⊢; generalize w9.heap.size = B9 at hK hbox ⊢; clear w9; obtain ⟨⟨b0, b1, b2, b3⟩, -, -⟩ := cells4b hbox; obtain ⟨i2, hk0, hk1, hk2, hk3⟩ := info_parts info2; have hlt := hK.st.lt; have v3 := hK.st.cell 3 (by omega); have f3 := hK.st.live 3; have hrow3 : w10.ownsRow (w.heap.size + 2) 2 1 (vs 3) (cnt 3) (xs 3) := hK.st.row 3 (by omega); have hcnt : cnt 3 ≤ 16 := by rw [hK.lefts.1]; exact Nat.le_trans (accsK_len s q) (by omega)
         have hR3 := fun (w4 : World) (g cap : Nat) hg hown hat => hK.row3 (w4 := w4) (g := g) (cap := cap) (o := .cells #[.int .i64 qq.2.2.1] 2) HMORE.out hg hown hat; obtain ⟨vc, hvc⟩ : ∃ x, vs 3 = x := ⟨_, rfl⟩
         obtain ⟨c3, hc3⟩ : ∃ x, cnt 3 = x := ⟨_, rfl⟩
         obtain ⟨zs, hzs⟩ : ∃ x, xs 3 = x := ⟨_, rfl⟩
         rw [hvc] at v3 hrow3 hR3; rw [hc3] at hrow3 hcnt hR3; rw [hzs] at hrow3 hR3; have hvne : vc.ownBlock ≠ some (w.heap.size + 1) := fun e => by have := (hrow3.lt _ e).1; omega
         have HB := lH hbox; have HR3 := lH hR3; clear hvc hc3 hzs hR3 hbox hK; go_upto_region 18 with (at_builtin; refine wpList_append_lies _ rfl _ _ 42 rfl (w.heap.size + 2) 2 i2 (.int .i64 0) 1 8 Tryz.underlying42 hk0 hk1 hk2 hk3 rfl (by decide) vc c3 zs rfl (hrow3.alloc _) ⟨w10.heap.size, 0, none⟩ 1 1 [.int .i64 qq.2.2.1] rfl rfl (World.news_of_block (cs := #[.int .i64 qq.2.2.1]) (t := 2) (fr := (0, 0)) (heap_alloc_new w10 _)) (by simp [Value.oneCell']) (by omega) (by unfold maxLen; omega) (by omega) (by simp; omega) (w10.heap.size + 1) (by simp) ?_; intro g cap w4 hown4 hgrow4 hat4 hlt4; have hR := HR3.out w4 g cap hgrow4 hown4 hat4; obtain ⟨⟨d3, e3⟩, hA4, hk4⟩ := hR; have HA4 := lH hA4; have HK4 := lH hk4; clear hA4 hk4 hown4 hgrow4 hat4 hlt4)
         have hbox2 := (HK4.out B9 (.inr rfl)).trans HB.out; clear d3 e3 b0 b1 b2 b3 HB HK4 HR3 hrow3 hvne v3 f3 hcnt hlt; generalize w4.setCell ⟨w.heap.size + 1, 3, none⟩ (.slice (some ⟨g, 0, none⟩) (c3 + 1) cap) = w11 at HA4 hbox2 ⊢; obtain ⟨vs, cnt, xs, hK⟩ := HA4.out; obtain ⟨⟨b0, b1, b2, b3⟩, -, -⟩ := cells4b hbox2; have hlt := hK.st.lt; have v3 := hK.st.cell 4 (by omega); have f3 := hK.st.live 4; have hrow3 : w11.ownsRow (w.heap.size + 2) 2 1 (vs 4) (cnt 4) (xs 4) := hK.st.row 4 (by omega); have hcnt : cnt 4 ≤ 16 := by rw [hK.phases.1]; exact Nat.le_trans (accsK_len s q) (by omega)
         have hR3 := fun (w4 : World) (g cap : Nat) hg hown hat => hK.row4 (w4 := w4) (g := g) (cap := cap) (o := .cells #[.int .i64 qq.2.2.2] 2) HMORE.out hg hown hat; obtain ⟨vd, hvd⟩ : ∃ x, vs 4 = x := ⟨_, rfl⟩
         obtain ⟨c4, hc3⟩ : ∃ x, cnt 4 = x := ⟨_, rfl⟩
         obtain ⟨zt, hzs⟩ : ∃ x, xs 4 = x := ⟨_, rfl⟩
         rw [hvd] at v3 hrow3 hR3; rw [hc3] at hrow3 hcnt hR3; rw [hzs] at hrow3 hR3; have hvne : vd.ownBlock ≠ some (w.heap.size + 1) := fun e => by have := (hrow3.lt _ e).1; omega
         have HR3 := lH hR3; clear hvd hc3 hzs hR3 hbox2 hK HA4; go_upto_region 19 with (at_builtin; refine wpList_append_lies _ rfl _ _ 42 rfl (w.heap.size + 2) 2 i2 (.int .i64 0) 1 8 Tryz.underlying42 hk0 hk1 hk2 hk3 rfl (by decide) vd c4 zt rfl (hrow3.alloc _) ⟨w11.heap.size, 0, none⟩ 1 1 [.int .i64 qq.2.2.2] rfl rfl (World.news_of_block (cs := #[.int .i64 qq.2.2.2]) (t := 2) (fr := (0, 0)) (heap_alloc_new w11 _)) (by simp [Value.oneCell']) (by omega) (by unfold maxLen; omega) (by omega) (by simp; omega) (w11.heap.size + 1) (by simp) ?_; intro g2 cap2 w5 hown4 hgrow4 hat4 hlt4; have hR := HR3.out w5 g2 cap2 hgrow4 hown4 hat4; obtain ⟨⟨d3, e3⟩, hA5⟩ := hR; have HA5 := lH hA5; clear hA5 hown4 hgrow4 hat4 hlt4)
         clear d3 e3 b0 b1 b2 b3 HR3 hrow3 hvne v3 f3 hcnt hlt; generalize w5.setCell ⟨w.heap.size + 1, 4, none⟩ (.slice (some ⟨g2, 0, none⟩) (c4 + 1) cap2) = w12 at HA5 ⊢; go_wp2_with fail
         go_roundw
         case rel =>
          refine ⟨q + 1, hq16, by go_num, lH ?_⟩; obtain ⟨vs', cnt', xs', hA⟩ := HA5.out; exact ⟨vs', cnt', xs', _, fl, hA⟩
         case measure => simp [intOf]; omega
     · obtain rfl : q = 16 := by omega
       obtain ⟨vs, cnt, xs, P, fl, hA⟩ := HQ.out; obtain ⟨⟨b0, b1, b2, b3, b4⟩, bf, bp⟩ := cells5 hA.zero; have v0 := hA.st.cell 0 (by omega); have v1 := hA.st.cell 1 (by omega); have v2 := hA.st.cell 2 (by omega); have v3 := hA.st.cell 3 (by omega); have v4 := hA.st.cell 4 (by omega); have bf0 := bf 0; have bf1 := bf 1; have bf2 := bf 2; have bf3 := bf 3; have bf4 := bf 4; obtain ⟨a0, n0, m0, s0⟩ := ownsRow_slice (hA.st.row 0 (by omega)); obtain ⟨a1, n1, m1, s1⟩ := ownsRow_slice (hA.st.row 1 (by omega)); obtain ⟨a2, n2, m2, s2⟩ := ownsRow_slice (hA.st.row 2 (by omega)); obtain ⟨a3, n3, m3, s3⟩ := ownsRow_slice (hA.st.row 3 (by omega)); obtain ⟨a4, n4, m4, s4⟩ := ownsRow_slice (hA.st.row 4 (by omega)); rw [s0] at v0; rw [s1] at v1; rw [s2] at v2; rw [s3] at v3; rw [s4] at v4; have HSL := lH (And.intro s0 (And.intro s1 (And.intro s2 (And.intro s3 s4)))); clear s0 s1 s2 s3 s4; have HBP := lH bp; have HA := lH hA; clear hA bf bp HQ; go_wp2_with fail
       obtain ⟨⟨g0, g1, g2, g3, g4⟩, -, -⟩ := cells5 (HBP.out (.slice a0 n0 m0) (.slice a1 n1 m1) (.slice a2 n2 m2) (.slice a3 n3 m3) (.slice a4 n4 m4)); obtain ⟨s0, s1, s2, s3, s4⟩ := HSL.out; refine bodyPost_ret (v := .agg #[.slice a0 n0 m0, .slice a1 n1 m1, .slice a2 n2 m2, .slice a3 n3 m3, .slice a4 n4 m4]) (by simp [results, Tryz.results39, go_sem, g0, g1, g2, g3, g4]) rfl ⟨vs, by rw [s0, s1, s2, s3, s4], HA.out.done (by simp) (fun j hj => ?_), ?_⟩
       · rw [Below.heap_setCell _ _ _ _ (by simpa using hj), Below.heap_setCell _ _ _ _ (by simpa using hj), Below.heap_setCell _ _ _ _ (by simpa using hj), Below.heap_setCell _ _ _ _ (by simpa using hj), Below.heap_setCell _ _ _ _ (by simpa using hj)]
       · exact ((((HA.out.below.setCell (by simp) _).setCell (by simp) _).setCell (by simp) _).setCell (by simp) _).setCell (by simp) _
end
section
attribute [local go_sem] Oper.semAt_some
theorem StateR.same {s : Sy} {H H' : Nat} {W W' : World} {vs : Nat → Value} (h : StateR s H W vs) (hs : W.heap.size ≤ W'.heap.size) (hb : ∀ k, H ≤ k → k < W.heap.size → W'.heap[k]? = W.heap[k]?) (hH : H' ≤ H) : StateR s H' W' vs := by
 have hrow : ∀ {t sz v n xs}, W.ownsRow H t sz v n xs → W'.ownsRow H' t sz v n xs := fun hr => ownsRow_base (ownsRow_same hr (fun k hk => hb k (hr.lt k hk).1 (hr.lt k hk).2)) hH; obtain ⟨fl, P, h1, h2, h3⟩ := h.forms; refine ⟨hrow h.tags, ⟨fl, P, hrow h1, ?_, fun k hk => Nat.le_trans hH (h3 k hk)⟩, hrow h.tasks, hrow h.lefts, hrow h.phases⟩; have : ∀ {fs : List (Int × Value)} {cs : List Co}, FormsOk W P fs cs → FormsOk W' P fs cs := by
  intro fs; induction fs with
  | nil => intro cs hh; cases cs with
   | nil => trivial
   | cons c cs => exact hh.elim
  | cons f fs ih => intro cs hh; cases cs with
   | nil => exact hh.elim
   | cons c cs => exact ⟨⟨hh.1.1, hh.1.2.1.same hs (fun k hk => hb k (h3 k (hh.1.2.2 k hk)) (hh.1.2.1.lt hk)), hh.1.2.2⟩, ih hh.2⟩
 exact this h2
def StP (s : Sy) (w : World) (e : Ending) (W' : World) : Prop :=
 ∃ vs : Nat → Value, e = .returned (.agg #[vs 0, vs 1, vs 2, vs 3, vs 4]) ∧ StateR s w.heap.size W' vs ∧ Below w.heap.size w W'
set_option maxRecDepth 100000 in
theorem state_any (ob : Nat) (sb gb nb pb mb n : Nat) (cv : Value) (D : DataW Unit) (cbs : List Nat) (tb : Int → Nat) (own : Nat → Option Own) (s : Sy) (w : World) (h : SysAt w sb gb nb pb mb n cv D cbs tb own s) (hy : TellY s) (h16 : cbs.length ≤ 16)
 (h0 : w.cell? ⟨ob, 0, none⟩ = some (.pointer (some ⟨sb, 0, none⟩))) :
 Calls Tryz.prog 15 #[.pointer (some ⟨ob, 0, none⟩)] w (StP s w) := by
 have hB0 : Below w.heap.size w (w.alloc (.cells #[.slice none 0 0, .slice none 0 0, .slice none 0 0, .slice none 0 0, .slice none 0 0] 44)) := (Below.refl _ w).alloc (Nat.le_refl _) _; have hof := of_any sb gb nb pb mb n cv D cbs tb own s _ (h.below hB0) hy h16; have hbox := heap_alloc_new w (.cells #[.slice none 0 0, .slice none 0 0, .slice none 0 0, .slice none 0 0, .slice none 0 0] 44); have hz : (w.alloc (.cells #[.slice none 0 0, .slice none 0 0, .slice none 0 0, .slice none 0 0, .slice none 0 0] 44)).heap.size = w.heap.size + 1 := by simp
 have c0 := c2a (.cells #[.slice none 0 0, .slice none 0 0, .slice none 0 0, .slice none 0 0, .slice none 0 0] 44) h0; unfold OfP at hof; rw [hz] at hof; have HB0 := lH hB0; have HX := lH hbox; unfold StP; clear h hy h16 hB0 hbox hz h0; go_enter Tryz.func15, Tryz.ntmps15; go_wp2_with fail
 refine hof.mono ?_; rintro e w1 ⟨vs, rfl, hR, hb⟩; have hb1 : Below (w.alloc (.cells #[.slice none 0 0, .slice none 0 0, .slice none 0 0, .slice none 0 0, .slice none 0 0] 44)).heap.size (w.alloc (.cells #[.slice none 0 0, .slice none 0 0, .slice none 0 0, .slice none 0 0, .slice none 0 0] 44)) w1 := by rw [World.size_alloc]; exact hb
 obtain ⟨⟨b0, b1, b2, b3, b4⟩, bf, bp⟩ := cells5 ((hb1.block w.heap.size (by simp)).trans HX.out); have bf0 := bf 0; have bf1 := bf 1; have bf2 := bf 2; have bf3 := bf 3; have bf4 := bf 4; obtain ⟨fl, P, hf1, -⟩ := hR.forms; obtain ⟨a0, n0, m0, s0⟩ := ownsRow_slice hR.tags; obtain ⟨a1, n1, m1, s1⟩ := ownsRow_slice hf1; obtain ⟨a2, n2, m2, s2⟩ := ownsRow_slice hR.tasks; obtain ⟨a3, n3, m3, s3⟩ := ownsRow_slice hR.lefts; obtain ⟨a4, n4, m4, s4⟩ := ownsRow_slice hR.phases; have HSL := lH (And.intro s0 (And.intro s1 (And.intro s2 (And.intro s3 s4)))); have HBP := lH bp; have HR := lH hR; have HB := lH (HB0.out.trans (hb1.mono HB0.out.size)); clear bf bp hR hb hb1 hf1; rw [s0, s1, s2, s3, s4]; clear s0 s1 s2 s3 s4; go_wp2_with fail
 obtain ⟨s0, s1, s2, s3, s4⟩ := HSL.out; obtain ⟨⟨g0, g1, g2, g3, g4⟩, -, -⟩ := cells5 (HBP.out (.slice a0 n0 m0) (.slice a1 n1 m1) (.slice a2 n2 m2) (.slice a3 n3 m3) (.slice a4 n4 m4)); refine bodyPost_ret (v := .agg #[.slice a0 n0 m0, .slice a1 n1 m1, .slice a2 n2 m2, .slice a3 n3 m3, .slice a4 n4 m4]) (by simp [results, Tryz.results15, go_sem, g0, g1, g2, g3, g4]) rfl ⟨vs, by rw [s0, s1, s2, s3, s4], HR.out.same (by simp) (fun j hj _ => ?_) (by omega), ?_⟩
 · have hj' : j ≠ w.heap.size := by omega
   rw [Below.heap_setCell _ _ _ _ (by simpa using hj'), Below.heap_setCell _ _ _ _ (by simpa using hj'), Below.heap_setCell _ _ _ _ (by simpa using hj'), Below.heap_setCell _ _ _ _ (by simpa using hj'), Below.heap_setCell _ _ _ _ (by simpa using hj')]
 · exact ((((HB.out.setCell (by simp) _).setCell (by simp) _).setCell (by simp) _).setCell (by simp) _).setCell (by simp) _
end
end Go.Proofs.YtoiajjobecinpaaGreat
