/- A line seeded with a form. A try, as it lies; what tells of it. A queue seeded with a form. -/
import Derived.Test.YtoiajjobecinpaaGreatTA14
set_option maxHeartbeats 4000000
namespace Go.Proofs.YtoiajjobecinpaaGreat
open Go.RowKit Go.Shelf Go.Lib Go.Proofs
set_option linter.unusedVariables false
set_option linter.unusedSimpArgs false
section
attribute [local go_sem] Oper.semAt_some
def ptI (base : Int) (x : It) : Pt := dayP ⟨x.id, x.w, base - x.lag, 0⟩
def SeedP (base cur : Int) (its : List It) (w : World) (e : Ending) (W' : World) : Prop :=
 Below w.heap.size w W' ∧ (e = .returned (.tuple #[.agg #[.int .i64 0, .int .i64 0, .slice none 0 0], .int .i64 1]) ∨
  ∃ v, e = .returned (.tuple #[.agg #[.int .i64 base, .int .i64 cur, v], .int .i64 0]) ∧ GoodI cur its ∧ (-1152921504606846976 ≤ base ∧ base ≤ 1152921504606846976) ∧ W'.ownsRow w.heap.size 338 4 v its.length (flatP (its.map (ptI base))))
def LBox (W : World) (H : Nat) (x y z : Value) : Prop := W.heap[H]? = some (.cells #[x, y, z] 267 (0, 0))
theorem LBox.below {W W' : World} {H B : Nat} {x y z : Value} (h : LBox W H x y z) (hb : Below B W W') (hH : H < B) : LBox W' H x y z := (hb.block H hH).trans h
theorem LBox.lt {W : World} {H : Nat} {x y z : Value} (h : LBox W H x y z) : H < W.heap.size := (Array.getElem?_eq_some_iff.1 h).1
theorem LBox.alloc {W : World} {H : Nat} {x y z : Value} (h : LBox W H x y z) (o : Obj) : LBox (W.alloc o) H x y z := (Below.heap_alloc _ _ _ h.lt).trans h
theorem LBox.cells {W : World} {H : Nat} {x y z : Value} (h : LBox W H x y z) : (W.cell? ⟨H, 0, none⟩ = some x ∧ W.cell? ⟨H, 1, none⟩ = some y ∧ W.cell? ⟨H, 2, none⟩ = some z) ∧ W.frozen? ⟨H, 0, none⟩ = false ∧ W.frozen? ⟨H, 1, none⟩ = false ∧ W.frozen? ⟨H, 2, none⟩ = false := by
 unfold LBox at h; refine ⟨⟨by simp only [World.cell?, h]; rfl, by simp only [World.cell?, h]; rfl, by simp only [World.cell?, h]; rfl⟩, by simp only [World.frozen?, h]; simp, by simp only [World.frozen?, h]; simp, by simp only [World.frozen?, h]; simp⟩
theorem LBox.set {W : World} {H : Nat} {x y z : Value} (h : LBox W H x y z) (x' y' z' : Value) :
 LBox (((W.setCell ⟨H, 0, none⟩ x').setCell ⟨H, 1, none⟩ y').setCell ⟨H, 2, none⟩ z') H x' y' z' := by
 unfold LBox at h ⊢; simp [World.setCell, Array.getElem?_modify, h]
theorem lbox_new (W : World) (x y z : Value) : LBox (W.alloc (.cells #[x, y, z] 267)) W.heap.size x y z := heap_alloc_new _ _
theorem mayI_lag {id w lag : Int} (h : mayI id w lag = true) : -1125899906842624 ≤ lag ∧ lag ≤ 1125899906842624 := by
 unfold mayI at h; simp only [Bool.and_eq_true, decide_eq_true_eq] at h; exact ⟨h.2.2.2.1, h.2.2.2.2⟩
abbrev SdS (B X : Nat) (v : Value) (i ww lag : Int) (W' : World) : Prop :=
 W'.cell? ⟨B, 2, none⟩ = some v ∧ W'.cell? ⟨X, 0, none⟩ = some (.int .i64 i) ∧ W'.cell? ⟨X, 1, none⟩ = some (.int .i64 ww) ∧ W'.cell? ⟨X, 2, none⟩ = some (.int .i64 lag)
theorem rowBase {w : World} {B B2 : Nat} {e : TypeId} {size : Nat} {v : Value} {n : Nat} {xs : List Value} (h : w.ownsRow B e size v n xs) (hB : ∀ j, v.ownBlock = some j → B2 ≤ j) : w.ownsRow B2 e size v n xs := by
 refine ⟨h.1, ?_⟩; rcases h.2 with h | ⟨g, cap, cur, h1, h2, h3⟩
 · exact .inl h
 · exact .inr ⟨g, cap, cur, h1, hB g (by rw [h1]; rfl), h3⟩
theorem lineAt_box {W : World} {B : Nat} {base cur : Int} (h : LBox W B (.int .i64 base) (.int .i64 cur) (.slice none 0 0)) : LineAt W B (.slice none 0 0) ⟨base, cur, []⟩ := by
 obtain ⟨⟨c0, c1, c2⟩, -⟩ := h.cells; refine ⟨c0, c1, c2, fun i => ?_, World.ownsRow_nil .., by simp [Value.ownBlock]⟩; unfold LBox at h; simp only [World.frozen?, h]; simp
set_option maxRecDepth 100000 in
theorem seedline_any (base cur : Int) (v : Value) (its : List It) (W : World) (h : FSl W v its) (hl : its.length ≤ 100000) :
 Calls Tryz.prog 233 #[.agg #[.int .i64 cur, v], .int .i64 base] W (SeedP base cur its W) := by
 obtain ⟨j0, hj, hj0, hj1, hj2⟩ := info_parts info338; obtain ⟨a, c, rfl⟩ := h.form; obtain ⟨n, hn⟩ : ∃ n, its.length = n := ⟨_, rfl⟩
 have HN := lH hn; have HF0 := lH h; rw [hn] at hl HF0 ⊢; have HOA : Hid (∀ j, (Value.slice a n c).ownBlock = some j → j < W.heap.size) := lH (fun j hj => HF0.out.lt hj); have hW2 : Below W.heap.size W ((W.alloc (.cells #[.int .i64 cur, .slice a n c] 70)).alloc (.cells #[.int .i64 0, .int .i64 0, .slice none 0 0] 267)) := ((Below.refl _ W).alloc (Nat.le_refl _) _).alloc (by simp) _; have hR2 : RBox ((W.alloc (.cells #[.int .i64 cur, .slice a n c] 70)).alloc (.cells #[.int .i64 0, .int .i64 0, .slice none 0 0] 267)) W.heap.size (.int .i64 cur) (.slice a n c) := (rbox_new W _ _).alloc _; have hL2 : LBox ((W.alloc (.cells #[.int .i64 cur, .slice a n c] 70)).alloc (.cells #[.int .i64 0, .int .i64 0, .slice none 0 0] 267)) (W.heap.size + 1) (.int .i64 0) (.int .i64 0) (.slice none 0 0) := by
  have := lbox_new (W.alloc (.cells #[.int .i64 cur, .slice a n c] 70)) (.int .i64 0) (.int .i64 0) (.slice none 0 0); rwa [size_alloc1] at this
 have hz2 : ((W.alloc (.cells #[.int .i64 cur, .slice a n c] 70)).alloc (.cells #[.int .i64 0, .int .i64 0, .slice none 0 0] 267)).heap.size = W.heap.size + 2 := by simp
 have HZ2 := lH hz2; have HW2 := lH hW2; have HR2 := lH hR2; have HL2 := lH hL2; clear h hn hW2 hR2 hL2 hz2; by_cases hbase : -1152921504606846976 ≤ base ∧ base ≤ 1152921504606846976
 · have hnl := newline_ok base ((W.alloc (.cells #[.int .i64 cur, .slice a n c] 70)).alloc (.cells #[.int .i64 0, .int .i64 0, .slice none 0 0] 267)) hbase; have HBD := lH hbase; clear hbase; go_enter Tryz.func233, Tryz.ntmps233; go_wp2_with fail
   refine hnl.mono ?_; rintro e w1 ⟨rfl, hb1⟩; have HW1 : Hid (Below W.heap.size W w1) := lH (HW2.out.trans (hb1.mono (by rw [HZ2.out]; omega))); have hR1 := (HR2.out.below hb1 HR2.out.lt).alloc (.cells #[.int .i64 base, .int .i64 (-1), .slice none 0 0] 267); have hL1 := HL2.out.below hb1 HL2.out.lt; have hz1 := hb1.size; rw [HZ2.out] at hz1; have hF1 : FSl (w1.alloc (.cells #[.int .i64 base, .int .i64 (-1), .slice none 0 0] 267)) (.slice a n c) its := (HF0.out.below HW1.out).alloc _; have hgood := good_any cur _ its _ hF1 (by rw [HN.out]; exact hl); have hLn := lbox_new w1 (.int .i64 base) (.int .i64 (-1)) (.slice none 0 0); obtain ⟨r0, r1, -, -⟩ := hR1.cells; have HR1 := lH hR1; have HL1 := lH hL1; have HLn := lH hLn; have HF1 := lH hF1; have HW3 : Hid (Below W.heap.size W (w1.alloc (.cells #[.int .i64 base, .int .i64 (-1), .slice none 0 0] 267))) := lH (HW1.out.alloc (by omega) _); clear hb1 hR1 hL1 hLn hF1 hnl; go_wp2_with fail
   refine hgood.mono ?_; rintro e w3 ⟨b, rfl, hg, hb3⟩; have hz3 := hb3.size; simp only [World.size_alloc] at hz3; have HG := lH hg; have HB13 : Hid (Below w1.heap.size w1 w3) := lH (((Below.refl _ w1).alloc (Nat.le_refl _) _).trans (hb3.mono (by simp))); have HW4 : Hid (Below W.heap.size W w3) := lH (HW3.out.trans (hb3.mono HW3.out.size)); have hL3 : LBox w3 (W.heap.size + 1) (.int .i64 0) (.int .i64 0) (.slice none 0 0) := (HL1.out.alloc _).below hb3 (by simp; omega); have hLn3 : LBox w3 w1.heap.size (.int .i64 base) (.int .i64 (-1)) (.slice none 0 0) := HLn.out.below hb3 (by simp); have hR3 : RBox w3 W.heap.size (.int .i64 cur) (.slice a n c) := HR1.out.below hb3 HR1.out.lt; have hF3 := HF1.out.below hb3; have HF3 := lH hF3; have HL3 := lH hL3; have HR3 := lH hR3; have HLn3 := lH hLn3; clear hg hgood hF3 hL3 hR3 hLn3 r0 r1 hb3; cases b with
   | false =>
    obtain ⟨⟨l0, l1, l2⟩, f0, f1, f2⟩ := HL3.out.cells; obtain ⟨⟨g0, g1, g2⟩, -⟩ := (HL3.out.set (.int .i64 0) (.int .i64 0) (.slice none 0 0)).cells; have HG0 := lH g0; have HG1 := lH g1; have HG2 := lH g2; clear g0 g1 g2; go_wp2_with fail
    exact bodyPost_ret (v := .tuple #[.agg #[.int .i64 0, .int .i64 0, .slice none 0 0], .int .i64 1]) (by simp [results, Tryz.results233, go_sem, HG0.out, HG1.out, HG2.out]) rfl ⟨((HW4.out.setCell (by simp) _).setCell (by simp) _).setCell (by simp) _, .inl rfl⟩
   | true =>
    have hgood : GoodI cur its := HG.out.1 rfl; have HGI := lH hgood; obtain ⟨p0, p1, -, -⟩ := HR3.out.cells; obtain ⟨⟨l0, l1, l2⟩, f0, f1, f2⟩ := HLn3.out.cells; have hneR : w1.heap.size ≠ W.heap.size := by omega
    clear hgood HG; go_wp2_with fail
    have HB13 : Below w1.heap.size w1 w3 := HB13.out; have hLA := (lineAt_box HLn3.out).setCur cur; have HLA := lH hLA; have HBS : Hid (Below w1.heap.size w1 (w3.setCell ⟨w1.heap.size, 1, none⟩ (.int .i64 cur))) := lH (HB13.setCell (Nat.le_refl _) _); have e1 : (w3.setCell ⟨w1.heap.size, 1, none⟩ (.int .i64 cur)).cell? ⟨W.heap.size, 1, none⟩ = some (.slice a n c) := by rw [cell_setCell_ne _ (by simp)]; exact p1
    have hn64 : n ≤ 64 := by rw [← HN.out]; exact HGI.out.1
    have HFw1 : Hid (FSl w1 (.slice a n c) its) := lH (HF0.out.below HW1.out); clear p0 p1 l0 l1 l2 f0 f1 f2 hLA HB13; go_loopw [29] (fun x wr => ∃ (k : Nat) (v' : Value), k ≤ n ∧ x = .int .i64 k ∧ Hid (LineAt wr w1.heap.size v' ⟨base, cur, (its.take k).map (ptI base)⟩) ∧ Hid (∀ j, v'.ownBlock = some j → w1.heap.size < j) ∧ Hid (Below w1.heap.size w1 wr)) (fun x _ => n - (intOf x).toNat)
    case atStart => exact ⟨0, _, Nat.zero_le _, rfl, HLA, lH (fun j hj => by simp [Value.ownBlock] at hj), HBS⟩
    case round =>
     obtain ⟨k, v', hk, rfl, HL, HO, HB⟩ := hrel; by_cases hkn : k < n
     · have hkl : k < its.length := by rw [HN.out]; exact hkn
       have hbz := HB.out.size; have hBl := HL.out.lt w1.heap.size (.inl rfl); have hml := HGI.out.2.2.1 k hkl; obtain ⟨g, rfl, hg, t0, t1, t2⟩ := (HFw1.out.below HB.out).cells k hkl; have hnext : (its.take (k + 1)).map (ptI base) = (its.take k).map (ptI base) ++ [ptI base its[k]!] := by
        rw [List.take_succ_eq_append_getElem hkl, List.map_append, getElem!_pos its k hkl]; rfl
       have hlen : ((its.take k).map (ptI base)).length = k := by simp; omega
       obtain ⟨⟨i, ww, lag⟩, hx⟩ : ∃ x, its[k]! = x := ⟨_, rfl⟩
       rw [hx] at t0 t1 t2 hml hnext; simp only at t0 t1 t2 hml; obtain ⟨q1, q2⟩ := mayI_lag hml.1; obtain ⟨b1, b2⟩ := HBD.out; have kw : IntKind.i64.wrap (base - lag) = base - lag := by rw [IntKind.wrap_i64]; omega
       have hcon := fun W' => day_any ⟨i, ww, base - lag, 0⟩ W' (by show -4611686018427387904 ≤ base - lag; omega) (by show base - lag ≤ 4611686018427387904; omega); have HNX := lH hnext; have HLEN := lH hlen; have hk1 : (k : Int) < (n : Int) := by omega
       have hk0 : 0 ≤ (k : Int) := by omega
       have hX : ∀ j u, #[Value.int .i64 i, .int .i64 ww, .int .i64 lag][j]? = some u → (wr.alloc (.cells #[.int .i64 i, .int .i64 ww, .int .i64 lag] 77)).drew.cell? ⟨wr.heap.size, j, none⟩ = some u := fun j u hu => by
        show (wr.alloc _).cell? _ = _; simp only [World.cell?, heap_alloc_new]; simpa using hu
       have hS0 : SdS w1.heap.size wr.heap.size v' i ww lag (wr.alloc (.cells #[.int .i64 i, .int .i64 ww, .int .i64 lag] 77)).drew := ⟨c2a _ HL.out.sl, hX 0 _ rfl, hX 1 _ rfl, hX 2 _ rfl⟩
       have hL9 := (HL.out.alloc (.cells #[.int .i64 i, .int .i64 ww, .int .i64 lag] 77)).drew; have HL9 := lH hL9; have HB9 : Hid (Below w1.heap.size w1 (wr.alloc (.cells #[.int .i64 i, .int .i64 ww, .int .i64 lag] 77)).drew) := lH ((HB.out.alloc hbz _).drew); have hzX : wr.heap.size + 1 ≤ (wr.alloc (.cells #[.int .i64 i, .int .i64 ww, .int .i64 lag] 77)).drew.heap.size := by simp [World.drew]
       have t0k := t0; clear hX hx hml hnext hlen hL9 q1 q2 b1 b2; go_wp2_with fail
       refine wp_region_W (S := SdS w1.heap.size wr.heap.size v' i ww lag) (T := [15]) (by kernel_rfl) ?_; refine wpAnyW_take (i := 0) (v := ?_) rfl (by kernel_rfl) (by kernel_rfl) (by kernel_rfl) (by kernel_rfl) (fun _ _ _ h => h) (Or.inl ⟨by rfl, ?_⟩) (by assumption) ?_; rotate_left
       · intro w8 hSw; obtain ⟨s1, s2, s3, s4⟩ := hSw; go_simp; (first | done | with_reducible rfl)
       simp only [Act.put, List.setIfInBounds_toArray, List.set_cons_zero, List.set_cons_succ]; refine wpAnyW_take (i := 1) (v := ?_) rfl (by kernel_rfl) (by kernel_rfl) (by kernel_rfl) (by kernel_rfl) (fun _ _ _ h => h) (Or.inl ⟨by rfl, ?_⟩) (by assumption) ?_; rotate_left
       · intro w8 hSw; obtain ⟨s1, s2, s3, s4⟩ := hSw; go_simp; (first | done | with_reducible rfl)
       simp only [Act.put, List.setIfInBounds_toArray, List.set_cons_zero, List.set_cons_succ]; refine wpAnyW_take (i := 2) (v := ?_) rfl (by kernel_rfl) (by kernel_rfl) (by kernel_rfl) (by kernel_rfl) (fun _ _ _ h => h) (Or.inl ⟨by rfl, ?_⟩) (by assumption) ?_; rotate_left
       · intro w8 hSw; obtain ⟨s1, s2, s3, s4⟩ := hSw; go_simp; (first | done | with_reducible rfl)
       simp only [Act.put, List.setIfInBounds_toArray, List.set_cons_zero, List.set_cons_succ]; refine wpAnyW_take (i := 3) (v := ?_) rfl (by kernel_rfl) (by kernel_rfl) (by kernel_rfl) (by kernel_rfl) (fun _ _ _ h => h) (Or.inl ⟨by rfl, ?_⟩) (by assumption) ?_; rotate_left
       · intro w8 hSw; obtain ⟨s1, s2, s3, s4⟩ := hSw; go_simp; (first | done | with_reducible rfl)
       simp only [Act.put, List.setIfInBounds_toArray, List.set_cons_zero, List.set_cons_succ]; refine wpAnyW_take (i := 4) (v := ?_) rfl (by kernel_rfl) (by kernel_rfl) (by kernel_rfl) (by kernel_rfl) (fun _ _ _ h => h) (Or.inl ⟨by rfl, ?_⟩) (by assumption) ?_; rotate_left
       · intro w8 hSw; obtain ⟨s1, s2, s3, s4⟩ := hSw; go_simp; (first | done | with_reducible rfl)
       simp only [Act.put, List.setIfInBounds_toArray, List.set_cons_zero, List.set_cons_succ]; refine wpAnyW_take (i := 5) (v := ?_) rfl (by kernel_rfl) (by kernel_rfl) (by kernel_rfl) (by kernel_rfl) (fun _ _ _ h => h) (Or.inl ⟨by rfl, ?_⟩) (by assumption) ?_; rotate_left
       · intro w8 hSw; obtain ⟨s1, s2, s3, s4⟩ := hSw; go_simp; (first | done | with_reducible rfl)
       simp only [Act.put, List.setIfInBounds_toArray, List.set_cons_zero, List.set_cons_succ]; refine wpAnyW_take (i := 6) (v := ?_) rfl (by kernel_rfl) (by kernel_rfl) (by kernel_rfl) (by kernel_rfl) (fun _ _ _ h => h) (Or.inl ⟨by rfl, ?_⟩) (by assumption) ?_; rotate_left
       · intro w8 hSw; obtain ⟨s1, s2, s3, s4⟩ := hSw; go_simp; (first | done | with_reducible rfl)
       simp only [Act.put, List.setIfInBounds_toArray, List.set_cons_zero, List.set_cons_succ]; refine wpAnyW_take (i := 7) (v := ?_) rfl (by kernel_rfl) (by kernel_rfl) (by kernel_rfl) (by kernel_rfl) (fun _ _ _ h => h) (Or.inl ⟨by rfl, ?_⟩) (by assumption) ?_; rotate_left
       · intro w8 hSw; obtain ⟨s1, s2, s3, s4⟩ := hSw; go_simp; (first | done | with_reducible rfl)
       simp only [Act.put, List.setIfInBounds_toArray, List.set_cons_zero, List.set_cons_succ]; refine wpAnyW_take (i := 8) (v := ?_) rfl (by kernel_rfl) (by kernel_rfl) (by kernel_rfl) (by kernel_rfl) (fun _ _ _ h => h) (Or.inl ⟨by rfl, ?_⟩) (by assumption) ?_; rotate_left
       · intro w8 hSw; obtain ⟨s1, s2, s3, s4⟩ := hSw; go_simp; (first | done | with_reducible rfl)
       simp only [Act.put, List.setIfInBounds_toArray, List.set_cons_zero, List.set_cons_succ]; refine wpAnyW_take (i := 9) (v := ?_) rfl (by kernel_rfl) (by kernel_rfl) (by kernel_rfl) (by kernel_rfl) (fun _ _ _ h => h) (Or.inl ⟨by rfl, ?_⟩) (by assumption) ?_; rotate_left
       · intro w8 hSw; obtain ⟨s1, s2, s3, s4⟩ := hSw; go_simp; (first | done | with_reducible rfl)
       simp only [Act.put, List.setIfInBounds_toArray, List.set_cons_zero, List.set_cons_succ]; refine wpAnyW_take (i := 10) (v := ?_) rfl (by kernel_rfl) (by kernel_rfl) (by kernel_rfl) (by kernel_rfl) (fun _ _ _ h => h) (Or.inl ⟨by rfl, ?_⟩) (by assumption) ?_; rotate_left
       · intro w8 hSw; obtain ⟨s1, s2, s3, s4⟩ := hSw; go_simp; (first | done | with_reducible rfl)
       simp only [Act.put, List.setIfInBounds_toArray, List.set_cons_zero, List.set_cons_succ]; refine wpAnyW_one (i := 11) (by kernel_rfl) rfl (by kernel_rfl) ?_; intro K' hK; go_simp
       refine (hcon _).mono ?_; rintro e w9 ⟨rfl, hb9⟩; have hS9 : SdS w1.heap.size wr.heap.size v' i ww lag w9 := ⟨keepB hb9 hS0.1, keepB hb9 hS0.2.1, keepB hb9 hS0.2.2.1, keepB hb9 hS0.2.2.2⟩
       refine hK _ _ hS9 ?_; have HB10 : Hid (Below w1.heap.size w1 w9) := lH (HB9.out.trans (hb9.mono (by omega))); have hL10 := HL9.out.below hb9; have HL10 := lH hL10; have hrow := hL10.row; have hz9 := hb9.size; have hf2 := hL10.live 2; rw [HLEN.out] at hrow; obtain ⟨day, hday⟩ : ∃ day, (dayP ⟨i, ww, base - lag, 0⟩).day = day := ⟨_, rfl⟩
       have HDAY : Hid (ptI base ⟨i, ww, lag⟩ = ⟨i, ww, base - lag, day⟩) := lH (by rw [← hday]; rfl); clear hK hb9 hL10; refine wpAnyW_one (i := 12) (by kernel_rfl) rfl (by kernel_rfl) ?_; intro K' hK; go_simp
       have hSa : SdS w1.heap.size wr.heap.size v' i ww lag (w9.alloc (.cells (dayP ⟨i, ww, base - lag, 0⟩).cells.toArray 338)) := ⟨c2a _ hS9.1, c2a _ hS9.2.1, c2a _ hS9.2.2.1, c2a _ hS9.2.2.2⟩
       refine hK _ _ hSa ?_; clear hK; refine wpAnyW_one (i := 13) (by kernel_rfl) rfl (by kernel_rfl) ?_; intro K2 hK; refine step_append_lies _ rfl _ _ _ rfl 0 338 j0 _ 4 32 Tryz.underlying265 hj hj0 hj1 hj2 rfl (by omega) v' k (flatP ((its.take k).map (ptI base))) rfl (hrow.alloc _) ⟨w9.heap.size, 0, none⟩ 1 1 (dayP ⟨i, ww, base - lag, 0⟩).cells rfl rfl (World.news_of_block (heap_alloc_new w9 _)) (by simp [Pt.cells, Value.oneCell']) (by omega) (by unfold maxLen; omega) (by omega) (by omega) (w9.heap.size + 1) (by simp) ?_; intro gg cp w4 hown4 hgrow4 hat4 hlt4; obtain ⟨hLp, hTp⟩ := LineAt.pushed (p := dayP ⟨i, ww, base - lag, 0⟩) HL10.out hgrow4 (by rw [HLEN.out]; exact hown4) (by rw [World.size_alloc]; exact hat4); have hvo : ∀ o, o < w9.heap.size → v'.ownBlock ≠ some o → w4.heap[o]? = w9.heap[o]? := fun o ho hne => (hgrow4.block o (by simp; omega) (fun e => hne e.symm)).trans (Below.heap_alloc _ _ _ ho)
       have hXv : v'.ownBlock ≠ some wr.heap.size := fun e => Nat.lt_irrefl _ (HL.out.lt _ (.inr e)); have hBv : v'.ownBlock ≠ some w1.heap.size := fun e => Nat.lt_irrefl _ (HO.out _ e); have f0 : ∀ {o : Nat} {i : Nat} {u : Value}, o < w9.heap.size → v'.ownBlock ≠ some o → w9.cell? ⟨o, i, none⟩ = some u → w4.cell? ⟨o, i, none⟩ = some u := fun ho hne hc => (World.cell?_of_block (hvo _ ho hne)).trans hc; have hS4 : SdS w1.heap.size wr.heap.size v' i ww lag w4 := ⟨f0 (by omega) hBv hS9.1, f0 (by omega) hXv hS9.2.1, f0 (by omega) hXv hS9.2.2.1, f0 (by omega) hXv hS9.2.2.2⟩
       have hfz : w4.frozen? ⟨w1.heap.size, 2, none⟩ = false := (World.frozen?_of_block (a := ⟨w1.heap.size, 2, none⟩) (hvo w1.heap.size (by omega) hBv)).trans hf2; have HFIN : Hid (LineAt (w4.setCell ⟨w1.heap.size, 2, none⟩ (.slice (some ⟨gg, 0, none⟩) (k + 1) cp)) w1.heap.size (.slice (some ⟨gg, 0, none⟩) (k + 1) cp) ⟨base, cur, (its.take (k + 1)).map (ptI base)⟩) := lH (by rw [HNX.out]; rw [HLEN.out] at hLp; exact hLp); have HOF : Hid (∀ j, (Value.slice (some ⟨gg, 0, none⟩) (k + 1) cp).ownBlock = some j → w1.heap.size < j) := lH (fun j hj => by
        have : gg = j := by simpa [Value.ownBlock] using hj
        subst this; rcases hat4 with e | e
        · exact HO.out _ e
        · omega)
       have HBF : Hid (Below w1.heap.size w1 (w4.setCell ⟨w1.heap.size, 2, none⟩ (.slice (some ⟨gg, 0, none⟩) (k + 1) cp))) := lH (((HB10.out.alloc (by omega) _).grown hgrow4 (by simp; omega) (fun j hj => by have := HO.out j hj; omega)).setCell (Nat.le_refl _) _); have c4 := hS4.1; refine hK _ _ hS4 ?_; clear hK hLp hTp hown4 hgrow4 hat4 hlt4 hvo f0 hSa hS9 hS0 hrow hf2 hXv hBv; refine wpAnyW_take (i := 14) (v := ?_) rfl (by kernel_rfl) (by kernel_rfl) (by kernel_rfl) (by kernel_rfl) (fun _ _ _ h => h) (Or.inl ⟨by rfl, ?_⟩) (by assumption) ?_; rotate_left
       · intro w8 hSw; obtain ⟨s1, s2, s3, s4⟩ := hSw; go_simp; (first | done | with_reducible rfl)
       simp only [Act.put, List.setIfInBounds_toArray, List.set_cons_zero, List.set_cons_succ]; refine wpAnyW_last (i := 15) (by kernel_rfl) rfl (by kernel_rfl) ?_; intro K3 hK; go_simp
       refine hK _ _ ?_; clear hK; refine wpAnyW_done (by kernel_rfl) ?_ _; clear hS4 c4 hfz; go_wp2_with fail
       go_roundw
       case rel => exact ⟨k + 1, _, hkn, by go_num, HFIN, HOF, HBF⟩
       case measure => simp [intOf]; omega
     · obtain rfl : k = n := by omega
       have htk : its.take k = its := List.take_of_length_le (by rw [HN.out]; exact Nat.le_refl _); rw [htk] at HL; have hLw := HL.out; obtain ⟨va, vn, vc, rfl⟩ : ∃ va vn vc, v' = .slice va vn vc := by
        rcases hLw.row.2 with ⟨e, h0⟩ | ⟨g', cap, cur', e, _⟩
        · exact ⟨_, _, _, e⟩
        · exact ⟨_, _, _, e⟩
       have m0 := hLw.base; have m1 := hLw.cur; have m2 := hLw.sl; simp only at m0 m1; have hLbw : LBox w1 (W.heap.size + 1) (.int .i64 0) (.int .i64 0) (.slice none 0 0) := HL1.out; have hLbr := hLbw.below HB.out (by omega); obtain ⟨⟨l0, l1, l2⟩, f0, f1, f2⟩ := hLbr.cells; obtain ⟨⟨g0, g1, g2⟩, -⟩ := (hLbr.set (.int .i64 base) (.int .i64 cur) (.slice va vn vc)).cells; have HG0 := lH g0; have HG1 := lH g1; have HG2 := lH g2; have HROW : Hid ((((wr.setCell ⟨W.heap.size + 1, 0, none⟩ (.int .i64 base)).setCell ⟨W.heap.size + 1, 1, none⟩ (.int .i64 cur)).setCell ⟨W.heap.size + 1, 2, none⟩ (.slice va vn vc)).ownsRow W.heap.size 338 4 (.slice va vn vc) its.length (flatP (its.map (ptI base)))) := by
        refine lH (rowBase (ownsRow_same (W := wr) (by have := hLw.row; rwa [List.length_map] at this) (fun j hj => ?_)) (fun j hj => by have := HO.out j hj; omega)); have := HO.out j hj; rw [Below.heap_setCell _ _ _ _ (by simp; omega), Below.heap_setCell _ _ _ _ (by simp; omega), Below.heap_setCell _ _ _ _ (by simp; omega)]
       have HBE : Hid (Below W.heap.size W wr) := lH (HW1.out.trans (HB.out.mono (by omega))); clear hLw hLbw hLbr g0 g1 g2 HL e1; go_wp2_with fail
       exact bodyPost_ret (v := .tuple #[.agg #[.int .i64 base, .int .i64 cur, .slice va vn vc], .int .i64 0]) (by simp [results, Tryz.results233, go_sem, HG0.out, HG1.out, HG2.out]) rfl ⟨((HBE.out.setCell (by simp) _).setCell (by simp) _).setCell (by simp) _, .inr ⟨_, rfl, HGI.out, HBD.out, HROW.out⟩⟩
 · have hnl := newline_err base ((W.alloc (.cells #[.int .i64 cur, .slice a n c] 70)).alloc (.cells #[.int .i64 0, .int .i64 0, .slice none 0 0] 267)) (by omega); clear hbase; go_enter Tryz.func233, Tryz.ntmps233; go_wp2_with fail
   refine hnl.mono ?_; rintro e w1 ⟨rfl, hb1⟩; have HW1 : Hid (Below W.heap.size W w1) := lH (HW2.out.trans (hb1.mono (by rw [HZ2.out]; omega))); have hL1 := (HL2.out.below hb1 HL2.out.lt).alloc (.cells #[.int .i64 0, .int .i64 0, .slice none 0 0] 267); have hz1 := hb1.size; rw [HZ2.out] at hz1; obtain ⟨⟨l0, l1, l2⟩, f0, f1, f2⟩ := hL1.cells; obtain ⟨⟨g0, g1, g2⟩, -⟩ := (hL1.set (.int .i64 0) (.int .i64 0) (.slice none 0 0)).cells; have HG0 := lH g0; have HG1 := lH g1; have HG2 := lH g2; have HW3 : Hid (Below W.heap.size W (w1.alloc (.cells #[.int .i64 0, .int .i64 0, .slice none 0 0] 267))) := lH (HW1.out.alloc (by omega) _); clear hb1 hL1 g0 g1 g2 hnl; go_wp2_with fail
   exact bodyPost_ret (v := .tuple #[.agg #[.int .i64 0, .int .i64 0, .slice none 0 0], .int .i64 1]) (by simp [results, Tryz.results233, go_sem, HG0.out, HG1.out, HG2.out]) rfl ⟨((HW3.out.setCell (by simp) _).setCell (by simp) _).setCell (by simp) _, .inl rfl⟩
end
section
attribute [local go_sem] Oper.semAt_some
structure Tr where
 tag : Int
 base : Int
 stg : Int
 why : Int
 age : Int
 b : Value
 q : Value
 f0 : Bool
 f1 : Bool
 f2 : Bool
 f3 : Bool
 f4 : Bool
 f5 : Bool
def trC (cb : Nat) (t : Tr) : Array Value := #[.pointer (some ⟨cb, 0, none⟩), .int .i64 t.tag, .int .i64 t.base, .int .i64 t.stg, .int .i64 t.why, .int .i64 t.age, t.b, t.q, .bool t.f0, .bool t.f1, .bool t.f2, .bool t.f3, .bool t.f4, .bool t.f5]
def TryC (W : World) (tb cb : Nat) (t : Tr) : Prop := W.heap[tb]? = some (.cells (trC cb t) 260 (0, 0))
theorem TryC.lt {W : World} {tb cb : Nat} {t : Tr} (h : TryC W tb cb t) : tb < W.heap.size := (Array.getElem?_eq_some_iff.1 h).1
theorem TryC.same {W W' : World} {tb cb : Nat} {t : Tr} (h : TryC W tb cb t) (hb : W'.heap[tb]? = W.heap[tb]?) : TryC W' tb cb t := hb.trans h
theorem TryC.below {W W' : World} {tb cb : Nat} {t : Tr} (h : TryC W tb cb t) (hb : Below W.heap.size W W') : TryC W' tb cb t := h.same (hb.block tb h.lt)
theorem TryC.frozen {W : World} {tb cb : Nat} {t : Tr} (h : TryC W tb cb t) (i : Nat) : W.frozen? ⟨tb, i, none⟩ = false := by
 unfold TryC at h; simp only [World.frozen?, h]; simp
theorem TryC.get {W : World} {tb cb : Nat} {t : Tr} (h : TryC W tb cb t) (i : Nat) (u : Value) (hu : (trC cb t)[i]? = some u) : W.cell? ⟨tb, i, none⟩ = some u := by
 unfold TryC at h; simp only [World.cell?, h]; simpa using hu
theorem TryC.setStg {W : World} {tb cb : Nat} {t : Tr} (h : TryC W tb cb t) (x : Int) : TryC (W.setCell ⟨tb, 3, none⟩ (.int .i64 x)) tb cb { t with stg := x } := by
 unfold TryC at h ⊢; simp [World.setCell, Array.getElem?_modify, h, trC]
theorem TryC.setWhy {W : World} {tb cb : Nat} {t : Tr} (h : TryC W tb cb t) (x : Int) : TryC (W.setCell ⟨tb, 4, none⟩ (.int .i64 x)) tb cb { t with why := x } := by
 unfold TryC at h ⊢; simp [World.setCell, Array.getElem?_modify, h, trC]
theorem TryC.setAge {W : World} {tb cb : Nat} {t : Tr} (h : TryC W tb cb t) (x : Int) : TryC (W.setCell ⟨tb, 5, none⟩ (.int .i64 x)) tb cb { t with age := x } := by
 unfold TryC at h ⊢; simp [World.setCell, Array.getElem?_modify, h, trC]
theorem TryC.setB {W : World} {tb cb : Nat} {t : Tr} (h : TryC W tb cb t) (x : Value) : TryC (W.setCell ⟨tb, 6, none⟩ x) tb cb { t with b := x } := by
 unfold TryC at h ⊢; simp [World.setCell, Array.getElem?_modify, h, trC]
theorem TryC.setQ {W : World} {tb cb : Nat} {t : Tr} (h : TryC W tb cb t) (x : Value) : TryC (W.setCell ⟨tb, 7, none⟩ x) tb cb { t with q := x } := by
 unfold TryC at h ⊢; simp [World.setCell, Array.getElem?_modify, h, trC]
theorem over_any (tb cb : Nat) (t : Tr) (W : World) (h : TryC W tb cb t) : Calls Tryz.prog 164 #[.pointer (some ⟨tb, 0, none⟩)] W fun e w' => e = .returned (.bool (decide (5 ≤ t.stg))) ∧ W = w' := by
 have h3 := h.get 3 (.int .i64 t.stg) rfl; clear h; go_enter Tryz.func164, Tryz.ntmps164; go_wp2
 go_ret
 exact ⟨rfl, rfl⟩
theorem stage_any (tb cb : Nat) (t : Tr) (W : World) (h : TryC W tb cb t) : Calls Tryz.prog 126 #[.pointer (some ⟨tb, 0, none⟩)] W fun e w' => e = .returned (.int .i64 t.stg) ∧ W = w' := by
 have h3 := h.get 3 (.int .i64 t.stg) rfl; clear h; go_enter Tryz.func126, Tryz.ntmps126; go_wp2
 go_ret
 exact ⟨rfl, rfl⟩
theorem why_any (tb cb : Nat) (t : Tr) (W : World) (h : TryC W tb cb t) : Calls Tryz.prog 128 #[.pointer (some ⟨tb, 0, none⟩)] W fun e w' => e = .returned (.int .i64 t.why) ∧ W = w' := by
 have h3 := h.get 4 (.int .i64 t.why) rfl; clear h; go_enter Tryz.func128, Tryz.ntmps128; go_wp2
 go_ret
 exact ⟨rfl, rfl⟩
theorem age_any (cb : Nat) (F : Nat → Prop) (c : Co) (W : World) (h : CoreIn W cb F c) : Calls Tryz.prog 185 #[.pointer (some ⟨cb, 0, none⟩)] W fun e w' => e = .returned (.int .i64 c.age) ∧ W = w' := by
 obtain ⟨qb, mb, n, idle, G, D, h1, h2, h3, h4, h5, h6, h7, h8, h9, h10, h11, h12, h13⟩ := h; clear h1 h2 h3 h5 h6 h7 h8 h9 h10 h11 h12 h13; go_enter Tryz.func185, Tryz.ntmps185; go_wp2
 go_ret
 exact ⟨rfl, rfl⟩
theorem fail_any (tb cb : Nat) (t : Tr) (x : Int) (W : World) (h : TryC W tb cb t) : Calls Tryz.prog 166 #[.pointer (some ⟨tb, 0, none⟩), .int .i64 x] W fun e w' => e = .returned (.tuple #[]) ∧ TryC w' tb cb { t with stg := 6, why := x } ∧ Touch (fun k => k = tb) W w' := by
 have h3 := h.get 3 (.int .i64 t.stg) rfl; have h4 := h.get 4 (.int .i64 t.why) rfl; have f3 := h.frozen 3; have f4 := h.frozen 4; have H2 := lH ((h.setStg 6).setWhy x); have h4' : (W.setCell ⟨tb, 3, none⟩ (.int .i64 6)).cell? ⟨tb, 4, none⟩ = some (.int .i64 t.why) := (h.setStg 6).get 4 (.int .i64 t.why) rfl; clear h; go_enter Tryz.func166, Tryz.ntmps166; go_wp2
 go_end0
 exact ⟨rfl, H2.out, Touch.setCell (F := fun k => k = tb) (t := none) (Touch.setCell (F := fun k => k = tb) (t := none) (Touch.refl _ _) (.inl rfl) _) (.inl rfl) _⟩
end
section
attribute [local go_sem] Oper.semAt_some
def seedL (base cur : Int) (its : List It) : Ln := ⟨base, cur, its.map (ptI base)⟩
def SeedQP (base cur : Int) (its : List It) (w : World) (e : Ending) (W' : World) : Prop :=
 Below w.heap.size w W' ∧ (e = .returned (.tuple #[.pointer none, .int .i64 1]) ∨
  ∃ b v, e = .returned (.tuple #[.pointer (some ⟨b, 0, none⟩), .int .i64 0]) ∧ GoodI cur its ∧ (-1152921504606846976 ≤ base ∧ base ≤ 1152921504606846976) ∧ LineAt W' b v (seedL base cur its) ∧ ∀ k, lfp b v k → w.heap.size ≤ k)
set_option maxRecDepth 100000 in
theorem seed_stride (base cur : Int) (v : Value) (its : List It) (W : World) (h : FSl W v its) (hl : its.length ≤ 100000) :
 Calls Tryz.prog 219 #[.agg #[.int .i64 cur, v], .int .i64 base] W (SeedQP base cur its W) := by
 have hs := seedline_any base cur v its _ (h.alloc (.cells #[.int .i64 cur, v] 70)) hl; obtain ⟨a, c, rfl⟩ := h.form; obtain ⟨n, hn⟩ : ∃ n, its.length = n := ⟨_, rfl⟩
 have HN := lH hn; rw [hn] at hs ⊢; have HW0 : Hid (Below W.heap.size W (W.alloc (.cells #[.int .i64 cur, .slice a n c] 70))) := lH ((Below.refl _ W).alloc (Nat.le_refl _) _); clear h hn hl; go_enter Tryz.func219, Tryz.ntmps219; go_wp2_with fail
 refine hs.mono ?_; rintro e w1 ⟨hb1, rfl | ⟨v', rfl, hg, hbd, hrow⟩⟩
 · have HB1 := lH hb1; clear hb1; go_wp2_with fail
   refine (of_err_stride undef 1 (by decide) _).mono ?_; rintro e w2 ⟨rfl, hb2⟩; have HB2 := lH hb2; clear hb2; go_wp2_with fail
   go_ret2
   exact ⟨HW0.out.trans ((HB1.out.trans (HB2.out.mono HB1.out.size)).mono (by simp)), .inl rfl⟩
 · have HB1 := lH hb1; have HG := lH hg; have HBD := lH hbd; have HROW := lH hrow; have hof := of_ok_stride base cur v' (its.map (ptI base)) w1 (by rw [List.length_map]; exact ownsRow_base hrow (Nat.zero_le _)); clear hb1 hg hbd hrow; go_wp2_with fail
   refine hof.mono ?_; rintro e w2 ⟨b, rfl, hL, hb2, hlt⟩; have HL := lH hL; have HB2 := lH hb2; clear hL hb2 hof; go_wp2_with fail
   go_ret2
   have hz0 := HW0.out.size; have hz1 := HB1.out.size; have hw : W.heap.size ≤ w1.heap.size := Nat.le_trans hz0 hz1; exact ⟨HW0.out.trans ((HB1.out.trans (HB2.out.mono HB1.out.size)).mono (by simp)), .inr ⟨b, v', rfl, HG.out, HBD.out, HL.out, fun k hk => by
    rcases hk with rfl | hk
    · omega
    · have := (HROW.out.lt k hk).1; simp at this; omega⟩⟩
set_option maxRecDepth 100000 in
theorem seed_fair (base cur : Int) (v : Value) (its : List It) (W : World) (h : FSl W v its) (hl : its.length ≤ 100000) :
 Calls Tryz.prog 220 #[.agg #[.int .i64 cur, v], .int .i64 base] W (SeedQP base cur its W) := by
 have hs := seedline_any base cur v its _ (h.alloc (.cells #[.int .i64 cur, v] 70)) hl; obtain ⟨a, c, rfl⟩ := h.form; obtain ⟨n, hn⟩ : ∃ n, its.length = n := ⟨_, rfl⟩
 have HN := lH hn; rw [hn] at hs ⊢; have HW0 : Hid (Below W.heap.size W (W.alloc (.cells #[.int .i64 cur, .slice a n c] 70))) := lH ((Below.refl _ W).alloc (Nat.le_refl _) _); clear h hn hl; go_enter Tryz.func220, Tryz.ntmps220; go_wp2_with fail
 refine hs.mono ?_; rintro e w1 ⟨hb1, rfl | ⟨v', rfl, hg, hbd, hrow⟩⟩
 · have HB1 := lH hb1; clear hb1; go_wp2_with fail
   refine (of_err_fair undef 1 (by decide) _).mono ?_; rintro e w2 ⟨rfl, hb2⟩; have HB2 := lH hb2; clear hb2; go_wp2_with fail
   go_ret2
   exact ⟨HW0.out.trans ((HB1.out.trans (HB2.out.mono HB1.out.size)).mono (by simp)), .inl rfl⟩
 · have HB1 := lH hb1; have HG := lH hg; have HBD := lH hbd; have HROW := lH hrow; have hof := of_ok_fair base cur v' (its.map (ptI base)) w1 (by rw [List.length_map]; exact ownsRow_base hrow (Nat.zero_le _)); clear hb1 hg hbd hrow; go_wp2_with fail
   refine hof.mono ?_; rintro e w2 ⟨b, rfl, hL, hb2, hlt⟩; have HL := lH hL; have HB2 := lH hb2; clear hL hb2 hof; go_wp2_with fail
   go_ret2
   have hz0 := HW0.out.size; have hz1 := HB1.out.size; have hw : W.heap.size ≤ w1.heap.size := Nat.le_trans hz0 hz1; exact ⟨HW0.out.trans ((HB1.out.trans (HB2.out.mono HB1.out.size)).mono (by simp)), .inr ⟨b, v', rfl, HG.out, HBD.out, HL.out, fun k hk => by
    rcases hk with rfl | hk
    · omega
    · have := (HROW.out.lt k hk).1; simp at this; omega⟩⟩
set_option maxRecDepth 100000 in
theorem seed_due (base cur : Int) (v : Value) (its : List It) (W : World) (h : FSl W v its) (hl : its.length ≤ 100000) :
 Calls Tryz.prog 221 #[.agg #[.int .i64 cur, v], .int .i64 base] W (SeedQP base cur its W) := by
 have hs := seedline_any base cur v its _ (h.alloc (.cells #[.int .i64 cur, v] 70)) hl; obtain ⟨a, c, rfl⟩ := h.form; obtain ⟨n, hn⟩ : ∃ n, its.length = n := ⟨_, rfl⟩
 have HN := lH hn; rw [hn] at hs ⊢; have HW0 : Hid (Below W.heap.size W (W.alloc (.cells #[.int .i64 cur, .slice a n c] 70))) := lH ((Below.refl _ W).alloc (Nat.le_refl _) _); clear h hn hl; go_enter Tryz.func221, Tryz.ntmps221; go_wp2_with fail
 refine hs.mono ?_; rintro e w1 ⟨hb1, rfl | ⟨v', rfl, hg, hbd, hrow⟩⟩
 · have HB1 := lH hb1; clear hb1; go_wp2_with fail
   refine (of_err_due undef 1 (by decide) _).mono ?_; rintro e w2 ⟨rfl, hb2⟩; have HB2 := lH hb2; clear hb2; go_wp2_with fail
   go_ret2
   exact ⟨HW0.out.trans ((HB1.out.trans (HB2.out.mono HB1.out.size)).mono (by simp)), .inl rfl⟩
 · have HB1 := lH hb1; have HG := lH hg; have HBD := lH hbd; have HROW := lH hrow; have hof := of_ok_due base cur v' (its.map (ptI base)) w1 (by rw [List.length_map]; exact ownsRow_base hrow (Nat.zero_le _)); clear hb1 hg hbd hrow; go_wp2_with fail
   refine hof.mono ?_; rintro e w2 ⟨b, rfl, hL, hb2, hlt⟩; have HL := lH hL; have HB2 := lH hb2; clear hL hb2 hof; go_wp2_with fail
   go_ret2
   have hz0 := HW0.out.size; have hz1 := HB1.out.size; have hw : W.heap.size ≤ w1.heap.size := Nat.le_trans hz0 hz1; exact ⟨HW0.out.trans ((HB1.out.trans (HB2.out.mono HB1.out.size)).mono (by simp)), .inr ⟨b, v', rfl, HG.out, HBD.out, HL.out, fun k hk => by
    rcases hk with rfl | hk
    · omega
    · have := (HROW.out.lt k hk).1; simp at this; omega⟩⟩
theorem pof_errB (tag : Int) (x : Value) (r : Int) (hr : r ≠ 0) (W : World) :
 Calls Tryz.prog 144 #[.int .i64 tag, x, .int .i64 r] W fun e w' => e = .returned (.tuple #[.pointer none, .int .i64 r]) ∧ Below W.heap.size W w' := by
 have h1 : (r != 0) = true := by simp [hr]
 have h2 : (r == 0) = false := by simp [hr]
 go_enter Tryz.func144, Tryz.ntmps144; go_wp2
 go_ret2
 exact ⟨rfl, Below.refl _ _⟩
def SeedPP (tag base cur : Int) (its : List It) (w : World) (e : Ending) (W' : World) : Prop :=
 Below w.heap.size w W' ∧ (e = .returned (.tuple #[.pointer none, .int .i64 1]) ∨
  ∃ qb F, e = .returned (.tuple #[.pointer (some ⟨qb, 0, none⟩), .int .i64 0]) ∧ GoodI cur its ∧ (-1152921504606846976 ≤ base ∧ base ≤ 1152921504606846976) ∧ QIn W' qb F tag (seedL base cur its) ∧ ∀ k, F k → w.heap.size ≤ k)
set_option maxRecDepth 100000 in
theorem pseed_stride (base cur : Int) (v : Value) (its : List It) (W : World) (h : FSl W v its) (hl : its.length ≤ 100000) :
 Calls Tryz.prog 206 #[.int .i64 0, .agg #[.int .i64 cur, v], .int .i64 base] W (SeedPP 0 base cur its W) := by
 have hs := seed_stride base cur v its _ (h.alloc (.cells #[.int .i64 cur, v] 70)) hl; obtain ⟨a, c, rfl⟩ := h.form; obtain ⟨n, hn⟩ : ∃ n, its.length = n := ⟨_, rfl⟩
 rw [hn] at hs ⊢; have HW0 : Hid (Below W.heap.size W (W.alloc (.cells #[.int .i64 cur, .slice a n c] 70))) := lH ((Below.refl _ W).alloc (Nat.le_refl _) _); clear h hn hl; go_enter Tryz.func206, Tryz.ntmps206; go_wp2_with fail
 refine hs.mono ?_; rintro e w1 ⟨hb1, rfl | ⟨b, v', rfl, hg, hbd, hL, hge⟩⟩
 · have HB1 := lH hb1; clear hb1; go_wp2_with fail
   refine (pof_errB _ _ 1 (by decide) _).mono ?_; rintro e w2 ⟨rfl, hb2⟩; have HB2 := lH hb2; clear hb2; go_wp2_with fail
   go_ret2
   exact ⟨HW0.out.trans ((HB1.out.trans (HB2.out.mono HB1.out.size)).mono (by simp)), .inl rfl⟩
 · have HB1 := lH hb1; have HG := lH hg; have HBD := lH hbd; have hof := pof_ok 0 (by omega) b v' _ W.heap.size w1 hL (fun k hk => by have := hge k hk; simp at this; omega) (by have := HW0.out.size; have := hb1.size; omega); clear hb1 hg hbd hL hge; go_wp2_with fail
   refine hof.mono ?_; rintro e w2 ⟨qb, F, rfl, hQ, hb2, hF⟩; have HQ := lH hQ; have HF := lH hF; have HB2 := lH hb2; clear hQ hF hb2 hof; go_wp2_with fail
   go_ret2
   exact ⟨HW0.out.trans ((HB1.out.trans (HB2.out.mono HB1.out.size)).mono (by simp)), .inr ⟨qb, F, rfl, HG.out, HBD.out, HQ.out, HF.out⟩⟩
set_option maxRecDepth 100000 in
theorem pseed_fair (base cur : Int) (v : Value) (its : List It) (W : World) (h : FSl W v its) (hl : its.length ≤ 100000) :
 Calls Tryz.prog 206 #[.int .i64 1, .agg #[.int .i64 cur, v], .int .i64 base] W (SeedPP 1 base cur its W) := by
 have hs := seed_fair base cur v its _ (h.alloc (.cells #[.int .i64 cur, v] 70)) hl; obtain ⟨a, c, rfl⟩ := h.form; obtain ⟨n, hn⟩ : ∃ n, its.length = n := ⟨_, rfl⟩
 rw [hn] at hs ⊢; have HW0 : Hid (Below W.heap.size W (W.alloc (.cells #[.int .i64 cur, .slice a n c] 70))) := lH ((Below.refl _ W).alloc (Nat.le_refl _) _); clear h hn hl; go_enter Tryz.func206, Tryz.ntmps206; go_wp2_with fail
 refine hs.mono ?_; rintro e w1 ⟨hb1, rfl | ⟨b, v', rfl, hg, hbd, hL, hge⟩⟩
 · have HB1 := lH hb1; clear hb1; go_wp2_with fail
   refine (pof_errB _ _ 1 (by decide) _).mono ?_; rintro e w2 ⟨rfl, hb2⟩; have HB2 := lH hb2; clear hb2; go_wp2_with fail
   go_ret2
   exact ⟨HW0.out.trans ((HB1.out.trans (HB2.out.mono HB1.out.size)).mono (by simp)), .inl rfl⟩
 · have HB1 := lH hb1; have HG := lH hg; have HBD := lH hbd; have hof := pof_ok 1 (by omega) b v' _ W.heap.size w1 hL (fun k hk => by have := hge k hk; simp at this; omega) (by have := HW0.out.size; have := hb1.size; omega); clear hb1 hg hbd hL hge; go_wp2_with fail
   refine hof.mono ?_; rintro e w2 ⟨qb, F, rfl, hQ, hb2, hF⟩; have HQ := lH hQ; have HF := lH hF; have HB2 := lH hb2; clear hQ hF hb2 hof; go_wp2_with fail
   go_ret2
   exact ⟨HW0.out.trans ((HB1.out.trans (HB2.out.mono HB1.out.size)).mono (by simp)), .inr ⟨qb, F, rfl, HG.out, HBD.out, HQ.out, HF.out⟩⟩
set_option maxRecDepth 100000 in
theorem pseed_due (base cur : Int) (v : Value) (its : List It) (W : World) (h : FSl W v its) (hl : its.length ≤ 100000) :
 Calls Tryz.prog 206 #[.int .i64 2, .agg #[.int .i64 cur, v], .int .i64 base] W (SeedPP 2 base cur its W) := by
 have hs := seed_due base cur v its _ (h.alloc (.cells #[.int .i64 cur, v] 70)) hl; obtain ⟨a, c, rfl⟩ := h.form; obtain ⟨n, hn⟩ : ∃ n, its.length = n := ⟨_, rfl⟩
 rw [hn] at hs ⊢; have HW0 : Hid (Below W.heap.size W (W.alloc (.cells #[.int .i64 cur, .slice a n c] 70))) := lH ((Below.refl _ W).alloc (Nat.le_refl _) _); clear h hn hl; go_enter Tryz.func206, Tryz.ntmps206; go_wp2_with fail
 refine hs.mono ?_; rintro e w1 ⟨hb1, rfl | ⟨b, v', rfl, hg, hbd, hL, hge⟩⟩
 · have HB1 := lH hb1; clear hb1; go_wp2_with fail
   refine (pof_errB _ _ 1 (by decide) _).mono ?_; rintro e w2 ⟨rfl, hb2⟩; have HB2 := lH hb2; clear hb2; go_wp2_with fail
   go_ret2
   exact ⟨HW0.out.trans ((HB1.out.trans (HB2.out.mono HB1.out.size)).mono (by simp)), .inl rfl⟩
 · have HB1 := lH hb1; have HG := lH hg; have HBD := lH hbd; have hof := pof_ok 2 (by omega) b v' _ W.heap.size w1 hL (fun k hk => by have := hge k hk; simp at this; omega) (by have := HW0.out.size; have := hb1.size; omega); clear hb1 hg hbd hL hge; go_wp2_with fail
   refine hof.mono ?_; rintro e w2 ⟨qb, F, rfl, hQ, hb2, hF⟩; have HQ := lH hQ; have HF := lH hF; have HB2 := lH hb2; clear hQ hF hb2 hof; go_wp2_with fail
   go_ret2
   exact ⟨HW0.out.trans ((HB1.out.trans (HB2.out.mono HB1.out.size)).mono (by simp)), .inr ⟨qb, F, rfl, HG.out, HBD.out, HQ.out, HF.out⟩⟩
theorem pseed_any (tag base cur : Int) (v : Value) (its : List It) (W : World) (ht : tag = 0 ∨ tag = 1 ∨ tag = 2) (h : FSl W v its) (hl : its.length ≤ 100000) :
 Calls Tryz.prog 206 #[.int .i64 tag, .agg #[.int .i64 cur, v], .int .i64 base] W (SeedPP tag base cur its W) := by
 rcases ht with rfl | rfl | rfl
 · exact pseed_stride base cur v its W h hl
 · exact pseed_fair base cur v its W h hl
 · exact pseed_due base cur v its W h hl
theorem pgood_any (tag : Int) (W : World) : Calls Tryz.prog 204 #[.int .i64 tag] W fun e w' => e = .returned (.bool (decide (0 ≤ tag ∧ tag ≤ 2))) ∧ W = w' := by
 rw [Bool.decide_and]; by_cases h0 : 0 ≤ tag
 · by_cases h2 : tag ≤ 2
   · have d0 : decide (tag ≥ 0) = true := decide_eq_true h0; have d2 : decide (tag ≤ 2) = true := decide_eq_true h2; have d1 : decide (0 ≤ tag) = true := decide_eq_true h0; rw [d1, d2]; clear h0 h2; go_enter Tryz.func204, Tryz.ntmps204; go_wp2
     go_ret
     exact ⟨rfl, rfl⟩
   · have d0 : decide (tag ≥ 0) = true := decide_eq_true h0; have d2 : decide (tag ≤ 2) = false := decide_eq_false h2; have d1 : decide (0 ≤ tag) = true := decide_eq_true h0; rw [d1, d2]; clear h0 h2; go_enter Tryz.func204, Tryz.ntmps204; go_wp2
     go_ret
     exact ⟨rfl, rfl⟩
 · have d0 : decide (tag ≥ 0) = false := decide_eq_false h0; have d1 : decide (0 ≤ tag) = false := decide_eq_false h0; rw [d1, Bool.false_and]; clear h0; go_enter Tryz.func204, Tryz.ntmps204; go_wp2
   go_ret
   exact ⟨rfl, rfl⟩
end
end Go.Proofs.YtoiajjobecinpaaGreat
