/- The law TopShares, walked: whatever it is given it returns true, and nothing that was there is touched. The laws of all  -/
import Derived.Deep.Slices
import Derived.Lib.SmallJoins
import Derived.OpenShut
import Derived.Test.YtoiajjobecinpaaGreatTA35
set_option maxHeartbeats 4000000
namespace Go.Proofs.YtoiajjobecinpaaGreat
open Go.RowKit Go.Shelf Go.Lib Go.Proofs
set_option linter.unusedVariables false
set_option linter.unusedSimpArgs false
section
attribute [local go_sem] Oper.semAt_some
def listW (zs : List Int) (n : Nat) : List Int := (List.range n).map fun i => zs.getD i 0
theorem listW_len (zs : List Int) (n : Nat) : (listW zs n).length = n := by simp [listW]
theorem listW_get (zs : List Int) (n k : Nat) (hk : k < n) : (listW zs n).getD k 0 = zs.getD k 0 := by
 simp [listW, List.getD_eq_getElem?_getD, hk]
theorem WoIn.same {W W' : World} {ob wb sb : Nat} {s : Sy} {m : Nat} {cbs : List Nat} {L : Int → Option Tr} {own : Nat → Option Own} {ow : Nat → Option OwnW} (h : WoIn W ob wb sb s m cbs L own ow) (hs : W.heap.size ≤ W'.heap.size)
 (hb : ∀ k, (k = ob ∨ own k ≠ none ∨ ow k ≠ none) → W'.heap[k]? = W.heap[k]?) : WoIn W' ob wb sb s m cbs L own ow := by
 obtain ⟨h1, ⟨⟨gb, nb, pb, mb, n, cv, D, tb, hS⟩, ⟨mb2, n2, av, D2, tbs, ttb, hW⟩, hd⟩, h3, h4⟩ := h; exact ⟨(hb ob (.inl rfl)).trans h1, ⟨⟨gb, nb, pb, mb, n, cv, D, tb, hS.same hs (fun k hk => hb k (.inr (.inl hk)))⟩, ⟨mb2, n2, av, D2, tbs, ttb, hW.same hs (fun k hk => hb k (.inr (.inr hk)))⟩, hd⟩, h3, h4⟩
end
section
attribute [local go_sem] Oper.semAt_some
theorem ReadsI.below {W W' : World} {tp : Option Addr} {tn : Nat} {zs : List Int} (h : ReadsI W tp tn zs) (hb : Below W.heap.size W W') : ReadsI W' tp tn zs := by
 rcases h with h | ⟨b, off, hp, hbl, hcell⟩
 · exact .inl h
 · exact .inr ⟨b, off, hp, Nat.lt_of_lt_of_le hbl hb.size, fun j hj => (hb.cell (p := ⟨b, off + j, none⟩) hbl).trans (hcell j hj)⟩
def LawW (W : World) (ob n k : Nat) (s : Sy) (wr : World) : Prop :=
 ∃ (wb sb m : Nat) (cbs : List Nat) (L : Int → Option Tr) (own : Nat → Option Own) (ow : Nat → Option OwnW), WInv k wr ob wb sb s m cbs L own ow n ∧ Below W.heap.size W wr ∧ ∀ j, (own j ≠ none ∨ ow j ≠ none) → W.heap.size ≤ j
theorem LawW.bel {W wr : World} {ob n k : Nat} {s : Sy} (h : LawW W ob n k s wr) : Below W.heap.size W wr := by
 obtain ⟨wb, sb, m, cbs, L, own, ow, h1, h2, h3⟩ := h; exact h2
theorem LawW.inv {W wr : World} {ob n k : Nat} {s : Sy} (h : LawW W ob n k s wr) : InvY k (1000000 + k * 10000000000000) n s := by
 obtain ⟨wb, sb, m, cbs, L, own, ow, h1, h2, h3⟩ := h; exact h1.inv
theorem LawW.below {W wr w' : World} {ob n k : Nat} {s : Sy} (h : LawW W ob n k s wr) (hb : Below wr.heap.size wr w') : LawW W ob n k s w' := by
 obtain ⟨wb, sb, m, cbs, L, own, ow, ⟨⟨hob, hB, ho1, ho2⟩, hI, hm, hL⟩, h2, h3⟩ := h; have hobl : ob < wr.heap.size := (Array.getElem?_eq_some_iff.1 hob).1; exact ⟨wb, sb, m, cbs, L, own, ow, ⟨⟨(hb.block ob hobl).trans hob, hB.below hb, ho1, ho2⟩, hI, hm, hL⟩, h2.trans (hb.mono h2.size), h3⟩
theorem LawW.do2 {W wr w5 : World} {ob nn k : Nat} {s : Sy} (h : LawW W ob nn k s wr) (hb5 : Below wr.heap.size wr w5) (hk : k ≤ 200) (op a b c n m : Int) (bl : Value) (nb : Nat) (hbl : BlowR W bl nb) (hnb : nb ≤ 8) (h1 : -9223372036854775808 ≤ a) (h2 : a ≤ 9223372036854775807) (hn : n ≤ 9223372036854775807) :
 Calls Tryz.prog 13 #[.pointer (some ⟨ob, 0, none⟩), actV op a b c n m bl] w5 fun e w' => ∃ (x y : Int) (s' : Sy), e = .returned (.agg #[.int .i64 (if y = 0 then x else 0), .int .i64 y]) ∧ ActR s op a b c n m x y s' ∧ LawW W ob nn (k + 1) s' w' ∧ (w5.heap.size ≤ w'.heap.size ∧ ∀ j, wr.heap.size ≤ j → j < w5.heap.size → w'.heap[j]? = w5.heap[j]?) := by
 obtain ⟨wb, sb, mm, cbs, L, own, ow, hI, hb, hnew⟩ := h; have hlt := hI.wo.2.1.lt; have hobl : ob < wr.heap.size := (Array.getElem?_eq_some_iff.1 hI.wo.1).1; have hI5 : WInv k w5 ob wb sb s mm cbs L own ow nn := ⟨⟨(hb5.block ob hobl).trans hI.wo.1, hI.wo.2.1.below hb5, hI.wo.2.2.1, hI.wo.2.2.2⟩, hI.inv, hI.m, hI.tr⟩
 have hb' : Below W.heap.size W w5 := hb.trans (hb5.mono hb.size)
 have hblows : BlowsAt w5 own ow bl nb := by
  obtain ⟨p, c', hv, hj⟩ := hbl; refine ⟨p, c', hv, fun j hjn => ?_⟩; obtain ⟨g, o, hp, g1, x0, x1, x2, x3, k0, k1, k2, k3⟩ := hj j hjn; have hg := hb'.block g g1; refine ⟨g, o, hp, ⟨Nat.lt_of_lt_of_le g1 hb'.size, ?_, ?_⟩, x0, x1, x2, x3, (World.cell?_of_block (a := ⟨g, o + j * 4, none⟩) hg).trans k0, (World.cell?_of_block (a := ⟨g, o + j * 4 + 1, none⟩) hg).trans k1, (World.cell?_of_block (a := ⟨g, o + j * 4 + 2, none⟩) hg).trans k2, (World.cell?_of_block (a := ⟨g, o + j * 4 + 3, none⟩) hg).trans k3⟩
  · by_cases e : own g = none
    · exact e
    · have := hnew g (.inl e); omega
  · by_cases e : ow g = none
    · exact e
    · have := hnew g (.inr e); omega
 refine (do_any k w5 ob wb sb s mm cbs L own ow nn op a b c n m bl nb hI5 hk hblows hnb h1 h2 hn).mono ?_; rintro e w' ⟨x, y, s', m', L', own', ow', he, hI', hr, hto, hgr⟩; have hto' : Below W.heap.size w5 w' := hto.below hb'.size (fun j hj => hnew j hj); refine ⟨x, y, s', he, hr, ⟨wb, sb, m', cbs, L', own', ow', hI', hb'.trans hto', fun j hj => ?_⟩, hto.size, fun j hj1 hj2 => hto.block j hj2 (fun hj => by have := hlt j hj; omega)⟩; rcases hgr j hj with h | h
 · exact hnew j h
 · exact Nat.le_trans hb'.size h
theorem LawW.do_ {W wr : World} {ob nn k : Nat} {s : Sy} (h : LawW W ob nn k s wr) (hk : k ≤ 200) (op a b c n m : Int) (bl : Value) (nb : Nat) (hbl : BlowR W bl nb) (hnb : nb ≤ 8) (h1 : -9223372036854775808 ≤ a) (h2 : a ≤ 9223372036854775807) (hn : n ≤ 9223372036854775807) :
 Calls Tryz.prog 13 #[.pointer (some ⟨ob, 0, none⟩), actV op a b c n m bl] wr fun e w' => ∃ (x y : Int) (s' : Sy), e = .returned (.agg #[.int .i64 (if y = 0 then x else 0), .int .i64 y]) ∧ ActR s op a b c n m x y s' ∧ LawW W ob nn (k + 1) s' w' :=
 (h.do2 (Below.refl _ _) hk op a b c n m bl nb hbl hnb h1 h2 hn).mono (fun e w' ⟨x, y, s', he, hr, hL, _⟩ => ⟨x, y, s', he, hr, hL⟩)
theorem hasG_top (g : Int) : hasG topG g = decide (g = 0) := by
 by_cases h : 0 ≤ g ∧ g < 16
 · obtain ⟨j, rfl⟩ := Int.eq_ofNat_of_zero_le h.1; have : j < 16 := by omega
   obtain rfl | rfl | rfl | rfl | rfl | rfl | rfl | rfl | rfl | rfl | rfl | rfl | rfl | rfl | rfl | rfl : j = 0 ∨ j = 1 ∨ j = 2 ∨ j = 3 ∨ j = 4 ∨ j = 5 ∨ j = 6 ∨ j = 7 ∨ j = 8 ∨ j = 9 ∨ j = 10 ∨ j = 11 ∨ j = 12 ∨ j = 13 ∨ j = 14 ∨ j = 15 := by omega
   all_goals rfl
 · unfold hasG; by_cases h0 : 0 ≤ g
   · have h16 : ¬ g < 16 := by omega
     simp [h0, h16]
     omega
   · simp [h0]
     omega
theorem inv_new (tags : List Int) (h1 : 1 ≤ tags.length) (h8 : tags.length ≤ 8) : InvY 0 1000000 tags.length (newSy tags) := by
 have hc : ∀ i, i < tags.length → (newSy tags).cores[i]! = newCo (tags.getD i 0) := fun i hi => by
  show (tags.map newCo)[i]! = _; rw [getElem!_pos _ i (by simpa using hi), List.getElem_map, List.getD_eq_getElem?_getD, List.getElem?_eq_getElem hi]; rfl
 have hps : ∀ j, j < 64 → (fresh 64).getD j default = (0, false) := fun j hj => by
  unfold fresh; rw [List.getD_eq_getElem?_getD, List.getElem?_replicate, if_pos hj]; rfl
 have hno : ∀ x, x ∉ listP (fresh 64) := fun x hx => by
  obtain ⟨j, hj, h2, _⟩ := mem_listP.1 hx; rw [hps j (by simpa [fresh] using hj)] at h2; cases h2
 refine ⟨⟨h1, h8⟩, by simp [newSy], fun i hi => ?_, fun i hi => ?_, ⟨by simp [newSy, topG], fun g => ?_, fun g hg => ?_⟩, ⟨by simp [newSy, zeroA], fun i hi => ?_⟩, by simp [newSy, fresh], fun j hj => ?_, fun x => ?_, fun x t ht => ?_, fun i hi x w => ?_, Nat.le_refl _⟩
 · rw [hc i hi]; exact ⟨List.Pairwise.nil, (fun p hp => by cases hp), (fun p hp => by cases hp), (fun p hp => by cases hp), by simp [newCo], .inl rfl, .inl rfl⟩
 · rw [hc i hi]; exact Nat.le_refl _
 · by_cases e : g = 0
   · subst e; exact ⟨[g0], topG_path, by simp⟩
   · exact ⟨[], by show hasG topG g = false; rw [hasG_top]; simp [e], by simp⟩
 · have hg' : hasG topG g = true := hg; rw [hasG_top] at hg'; have : g = 0 := of_decide_eq_true hg'; subst this; left; rfl
 · left
   have : (newSy tags).acc.getD i default = (0, 0, 0, 0) := by
    show zeroA.getD i default = _; unfold zeroA; rw [List.getD_eq_getElem?_getD, List.getElem?_replicate, if_pos hi]; rfl
   rw [this]; exact ⟨rfl, rfl, rfl, rfl⟩
 · show 0 ≤ ((fresh 64).getD j default).1 ∧ _; simp only [newSy]; rw [hps j hj]; simp
 · exact ⟨fun h => absurd rfl h, fun h => absurd h (hno x)⟩
 · cases ht
 · rw [hc i hi]; exact ⟨(fun ⟨p, hp, _⟩ => by cases hp), (fun ⟨t, ht, _⟩ => by cases ht)⟩
theorem law_made (W : World) (b off tn tc : Nat) (zs : List Int) (h1 : 1 ≤ tn) (h8 : tn ≤ 8) (hbl : b < W.heap.size) (hcell : ∀ j, j < tn → W.cell? ⟨b, off + j, none⟩ = some (.int .i64 ((listW zs tn).getD j 0)))
 (hg : ∀ k, k < tn → (listW zs tn).getD k 0 = 0 ∨ (listW zs tn).getD k 0 = 1 ∨ (listW zs tn).getD k 0 = 2) :
 Calls Tryz.prog 11 #[.slice (some ⟨b, off, none⟩) tn tc] W fun e w' => ∃ ob, e = .returned (.tuple #[.pointer (some ⟨ob, 0, none⟩), .int .i64 0]) ∧ LawW W ob tn 0 (newSy (listW zs tn)) w' ∧ 1 ≤ tn := by
 refine (wnew_ok W b off tn tc (listW zs tn) (listW_len _ _).symm (by omega) (by omega) hcell hbl hg).mono ?_; rintro e w' ⟨ob, wb, sb, cbs, own, ow, he, hwo, hob, hb, hnew⟩; have hinv := inv_new (listW zs tn) (by rw [listW_len]; omega) (by rw [listW_len]; omega); rw [listW_len] at hinv; exact ⟨ob, he, ⟨wb, sb, 0, cbs, noTries, own, ow, ⟨hwo, by simpa using hinv, Nat.le_refl _, fun c t hc => by cases hc⟩, hb, hnew⟩, h1⟩
theorem law_new (W : World) (tp : Option Addr) (tn tc : Nat) (zs : List Int) (h : ReadsI W tp tn zs) (h8 : tn ≤ 8) :
 Calls Tryz.prog 11 #[.slice tp tn tc] W fun e w' => (e = .returned (.tuple #[.pointer none, .int .i64 1]) ∧ Below W.heap.size W w') ∨
  ∃ ob, e = .returned (.tuple #[.pointer (some ⟨ob, 0, none⟩), .int .i64 0]) ∧ LawW W ob tn 0 (newSy (listW zs tn)) w' ∧ 1 ≤ tn := by
 by_cases h0 : tn = 0
 · subst h0; exact (wnew_err W tp 0 tc ((ysnew_none W tp 0 tc (by omega)).mono (fun e w' ⟨he, hw⟩ => ⟨he, hw ▸ Below.refl _ _⟩))).mono (fun e w' hh => .inl hh)
 · obtain ⟨b, off, rfl, hbl, hcell⟩ : ∃ b off, tp = some ⟨b, off, none⟩ ∧ b < W.heap.size ∧ ∀ j, j < tn → W.cell? ⟨b, off + j, none⟩ = some (.int .i64 (zs.getD j 0)) := by
    rcases h with h | h
    · exact absurd h h0
    · exact h
   have hcell' : ∀ j, j < tn → W.cell? ⟨b, off + j, none⟩ = some (.int .i64 ((listW zs tn).getD j 0)) := fun j hj => by rw [listW_get _ _ _ hj]; exact hcell j hj
   by_cases hg : ∀ k, k < tn → (listW zs tn).getD k 0 = 0 ∨ (listW zs tn).getD k 0 = 1 ∨ (listW zs tn).getD k 0 = 2
   · exact (law_made W b off tn tc zs (by omega) h8 hbl hcell' hg).mono (fun e w' hh => .inr hh)
   · have : ∃ k0, k0 < tn ∧ ((listW zs tn).getD k0 0 ≠ 0 ∧ (listW zs tn).getD k0 0 ≠ 1 ∧ (listW zs tn).getD k0 0 ≠ 2) ∧ ∀ k, k < k0 → (listW zs tn).getD k 0 = 0 ∨ (listW zs tn).getD k 0 = 1 ∨ (listW zs tn).getD k 0 = 2 := by
      have gen : ∀ d, (∀ k, k < d → (listW zs tn).getD k 0 = 0 ∨ (listW zs tn).getD k 0 = 1 ∨ (listW zs tn).getD k 0 = 2) ∨ ∃ k0, k0 < d ∧ ((listW zs tn).getD k0 0 ≠ 0 ∧ (listW zs tn).getD k0 0 ≠ 1 ∧ (listW zs tn).getD k0 0 ≠ 2) ∧ ∀ k, k < k0 → (listW zs tn).getD k 0 = 0 ∨ (listW zs tn).getD k 0 = 1 ∨ (listW zs tn).getD k 0 = 2 := by
       intro d; induction d with
       | zero => exact .inl (fun k hk => absurd hk (Nat.not_lt_zero k))
       | succ d ih =>
        rcases ih with ih | ⟨k0, h1, h2, h3⟩
        · by_cases e : (listW zs tn).getD d 0 = 0 ∨ (listW zs tn).getD d 0 = 1 ∨ (listW zs tn).getD d 0 = 2
          · left
            intro k hk; by_cases e2 : k < d
            · exact ih k e2
            · obtain rfl : k = d := by omega
              exact e
          · exact .inr ⟨d, Nat.lt_succ_self d, by omega, ih⟩
        · exact .inr ⟨k0, by omega, h2, h3⟩
      rcases gen tn with h | h
      · exact absurd h hg
      · exact h
     obtain ⟨k0, hk0, hbad, hgd⟩ := this; exact (wnew_err W _ tn tc (ysnew_bad W b off tn tc (listW zs tn) (listW_len _ _).symm (by omega) (by omega) hcell' hbl k0 hk0 hbad hgd)).mono (fun e w' hh => .inl hh)
def RowF (w' : World) (a : Option Addr) (xs : List Value) : Prop := ∀ i v, xs[i]? = some v → ∃ g, a = some ⟨g, 0, none⟩ ∧ g < w'.heap.size ∧ w'.cell? ⟨g, i, none⟩ = some v
def RowH (H : Nat) (w' : World) (a : Option Addr) (xs : List Value) : Prop := ∀ i v, xs[i]? = some v → ∃ g, a = some ⟨g, 0, none⟩ ∧ H ≤ g ∧ g < w'.heap.size ∧ w'.cell? ⟨g, i, none⟩ = some v
theorem RowH.f {H : Nat} {w' : World} {a : Option Addr} {xs : List Value} (h : RowH H w' a xs) : RowF w' a xs := fun i v hv => by
 obtain ⟨g, h1, _, h2, h3⟩ := h i v hv; exact ⟨g, h1, h2, h3⟩
theorem row_form {W : World} {H : Nat} {t : TypeId} {sz n : Nat} {v : Value} {xs : List Value} (h : W.ownsRow H t sz v n xs) : ∃ a c, v = .slice a n c ∧ RowH H W a xs := by
 rcases h.2 with ⟨rfl, rfl⟩ | ⟨g, cap, cur, rfl, hb, hg, hn, hm, hs, ht⟩
 · refine ⟨none, 0, rfl, fun i v hv => ?_⟩; have := h.1; simp at this; subst this; cases hv
 · refine ⟨_, cap, rfl, fun i u hu => ⟨g, rfl, hb, (Array.getElem?_eq_some_iff.1 hg).1, ?_⟩⟩; have hx := h.cells (g := g) rfl i u; simp only [Addr.add_lit, Nat.zero_add] at hx; exact hx hu
theorem RowF.below {w w' : World} {a : Option Addr} {xs : List Value} (h : RowF w a xs) (hb : Below w.heap.size w w') : RowF w' a xs := fun i v hv => by
 obtain ⟨g, h1, h2, h3⟩ := h i v hv; exact ⟨g, h1, Nat.lt_of_lt_of_le h2 hb.size, (hb.cell (p := ⟨g, i, none⟩) h2).trans h3⟩
theorem LawW.tell {W wr : World} {ob n k : Nat} {s : Sy} (h : LawW W ob n k s wr) (hk : k ≤ 200) : TellY s := by
 have hI := h.inv; refine ⟨hI.sized (by omega), hI.dom (by omega), fun x t ht h2 => ?_, hI.fitsY (by omega) (by omega), fun g hg => ?_, hI.acc.1⟩
 · obtain ⟨i, hi, hin, -⟩ := hI.at_ ht h2; exact ⟨i, hi, by rw [hI.len]; exact hin⟩
 · obtain ⟨xs, hx, h4⟩ := hI.gs.path g; exact ⟨xs, hx, by omega⟩
theorem law_state (W wr : World) (ob n k : Nat) (s : Sy) (h : LawW W ob n k s wr) (hk : k ≤ 200) :
 Calls Tryz.prog 15 #[.pointer (some ⟨ob, 0, none⟩)] wr fun e w' => ∃ (a0 a1 a2 a3 a4 : Option Addr) (c0 c1 c2 c3 c4 : Nat) (fl : List (Int × Value)) (P : Nat → Prop),
  e = .returned (.agg #[.slice a0 n c0, .slice a1 n c1, .slice a2 (listP s.ps).length c2, .slice a3 (accsK s 16).length c3, .slice a4 (accsK s 16).length c4]) ∧ RowF w' a1 (flatF fl) ∧ FormsOk w' P fl s.cores ∧ RowH wr.heap.size w' a2 (flatT ((listP s.ps).map (taskY s))) ∧ Below wr.heap.size wr w' := by
 have hy := h.tell hk; have hI := h.inv; obtain ⟨wb, sb, m, cbs, L, own, ow, ⟨hwo, _, _, _⟩, h2, h3⟩ := h; have hcell := hwo.cells.1; obtain ⟨-, ⟨⟨gb, nb, pb, mb, n', cv, D, tb, hY⟩, -, -⟩, -, -⟩ := hwo; have hnum := hY.num; have hl := hI.len; have h8 := hI.n8; refine (state_any ob sb gb nb pb mb n' cv D cbs tb own s wr hY hy (by omega) hcell).mono ?_; rintro e w' ⟨vs, rfl, hR, hb⟩; obtain ⟨fl, P, hf1, hf2, -⟩ := hR.forms; obtain ⟨a0, c0, s0, r0⟩ := row_form hR.tags; obtain ⟨a1, c1, s1, r1⟩ := row_form hf1; obtain ⟨a2, c2, s2, r2⟩ := row_form hR.tasks; obtain ⟨a3, c3, s3, r3⟩ := row_form hR.lefts; obtain ⟨a4, c4, s4, r4⟩ := row_form hR.phases; rw [hl] at s0 s1; exact ⟨a0, a1, a2, a3, a4, c0, c1, c2, c3, c4, fl, P, by rw [s0, s1, s2, s3, s4], r1.f, hf2, r2, hb⟩
theorem flatT_get : ∀ (l : List Tk) (k f : Nat) (hk : k < l.length), f < 7 → (flatT l)[k * 7 + f]? = l[k].cells[f]?
 | [], k, f, h, _ => by simp at h
 | a :: l, 0, f, _, hf => by
  have e : flatT (a :: l) = a.cells ++ flatT l := by simp [flatT]
  rw [e, List.getElem?_append_left (by simp [Tk.cells]; omega)]; simp
 | a :: l, k + 1, f, h, hf => by
  have ih := flatT_get l k f (by simpa using h) hf; have e : flatT (a :: l) = a.cells ++ flatT l := by simp [flatT]
  rw [e, List.getElem?_append_right (by simp [Tk.cells]; omega)]; have hl : a.cells.length = 7 := by simp [Tk.cells]
  rw [hl, show (k + 1) * 7 + f - 7 = k * 7 + f by omega, ih]; rfl
end
end Go.Proofs.YtoiajjobecinpaaGreat
namespace Go.Proofs.YtoiajjobecinpaaGreat
open Go.ChangeShapes Go.WideShapes Go.ChangeAt Go.RowKit Go.Lib Go.Joins
set_option linter.unusedVariables false
set_option linter.unusedSimpArgs false
theorem wf64 {x : Int} (h : (Lit.int .i64 x).wf = true) : -9223372036854775808 ≤ x ∧ x ≤ 9223372036854775807 := by
 simp only [Lit.wf, Bool.and_eq_true, decide_eq_true_eq] at h; have h1 : IntKind.i64.min = -9223372036854775808 := by decide
 have h2 : IntKind.i64.max = 9223372036854775807 := by decide
 rw [h1, h2] at h; exact h
theorem tcells35 : Tryz.prog.cellsOf 35 = 7 := by kernel_rfl
theorem tcells215 : Tryz.prog.cellsOf 215 = 4 := by kernel_rfl
theorem tcells3 : Tryz.prog.cellsOf 3 = 1 := by kernel_rfl
theorem tcells2 : Tryz.prog.cellsOf 2 = 1 := by kernel_rfl
theorem tcells5 : Tryz.prog.cellsOf 5 = 1 := by kernel_rfl
theorem tcells33 : Tryz.prog.cellsOf 33 = 1 := by kernel_rfl
section
variable {H : Type} {enc : TypeId × Value → H} {W : World} {fuel : Nat} {cs : List Value} {x : DataW H × List MemPlace}
set_option maxRecDepth 100000 in
theorem blow_open (h : DataW.trod enc Tryz.prog W 0 (fun _ => true) true fuel 215 cs = some x) : ∃ x0 x1 x2 x3 : Int, cs = [.int .i64 x0, .int .i64 x1, .int .i64 x2, .int .u8 x3] := by
 obtain ⟨y0, y1, y2, y3, n, -, hl, h0, h1, h2, h3⟩ := trod_struct4 Tryz.underlying215 h; rw [tcells215] at hl; match cs, hl with
 | [c0, c1, c2, c3], _ =>
  simp only [tcells3, tcells5, List.drop, List.take] at h0 h1 h2 h3; obtain ⟨x0, e0, -⟩ := DataW.trod_int Tryz.underlying3 h0; obtain ⟨x1, e1, -⟩ := DataW.trod_int Tryz.underlying3 h1; obtain ⟨x2, e2, -⟩ := DataW.trod_int Tryz.underlying3 h2; obtain ⟨x3, e3, -⟩ := DataW.trod_int Tryz.underlying5 h3; simp only [List.cons.injEq, and_true] at e0 e1 e2 e3; subst e0 e1 e2 e3; exact ⟨x0, x1, x2, x3, rfl⟩
theorem blows_open (h : DataW.trod enc Tryz.prog W 0 (fun _ => true) true fuel 33 cs = some x) : ∃ v n, cs = [v] ∧ BlowR W v n := by
 rcases Go.Deep.open_slice Tryz.underlying33 h with ⟨rfl, -⟩ | ⟨a, len, cap, m, k, D, Pl, rfl, -, hl, hm, hmm, -, hall⟩
 · exact ⟨_, 0, rfl, none, 0, rfl, fun j hj => absurd hj (Nat.not_lt_zero j)⟩
 · simp only [if_true] at hmm; refine ⟨_, len, rfl, some a, cap, rfl, fun j hj => ?_⟩; obtain ⟨cs', h1, h2⟩ := hall j (by omega); obtain ⟨-, -, h3⟩ := World.cells?_some h1; obtain ⟨x0, x1, x2, x3, rfl⟩ := blow_open h2; rw [tcells215] at h3; obtain ⟨g, o, spot⟩ := a; have hspot : spot = none := by
    obtain ⟨cs0, z1, z2⟩ := hall 0 (by omega); obtain ⟨-, zl, z3⟩ := World.cells?_some z1; obtain ⟨_, _, _, _, rfl⟩ := blow_open z2; have z4 := z3 0 (by rw [tcells215]; omega); simp only [Nat.zero_mul] at z4; simpa [Addr.add] using World.cell?_spot z4
   subst hspot; have k0 := h3 0 (by omega); have k1 := h3 1 (by omega); have k2 := h3 2 (by omega); have k3 := h3 3 (by omega); simp only [Addr.add_lit, Nat.add_zero] at k0 k1 k2 k3; exact ⟨g, o, rfl, World.block_lt_of_cell? W _ k0, x0, x1, x2, x3, k0, k1, k2, k3⟩
set_option maxRecDepth 100000 in
theorem act_open (h : DataW.trod enc Tryz.prog W 0 (fun _ => true) true fuel 35 cs = some x) : ∃ (op a b c n m : Int) (bl : Value) (nb : Nat), cs = [.int .i64 op, .int .i64 a, .int .i64 b, .int .i64 c, .int .i64 n, .int .i64 m, bl] ∧ ((-9223372036854775808 ≤ a ∧ a ≤ 9223372036854775807) ∧ n ≤ 9223372036854775807) ∧ BlowR W bl nb := by
 obtain ⟨xs, k, -, -, hl, hlen, hf⟩ := DataW.trod_struct Tryz.underlying35 h; rw [tcells35] at hl; match xs, hlen with
 | [y0, y1, y2, y3, y4, y5, y6], _ =>
  match cs, hl with
  | [c0, c1, c2, c3, c4, c5, c6], _ =>
   have h0 : DataW.trod enc Tryz.prog W 0 (fun _ => true) true k 3 (([c0, c1, c2, c3, c4, c5, c6].drop 0).take (Tryz.prog.cellsOf 3)) = some y0 := hf 0 _ rfl; have h1 : DataW.trod enc Tryz.prog W 0 (fun _ => true) true k 3 (([c0, c1, c2, c3, c4, c5, c6].drop 1).take (Tryz.prog.cellsOf 3)) = some y1 := hf 1 _ rfl; have h2 : DataW.trod enc Tryz.prog W 0 (fun _ => true) true k 3 (([c0, c1, c2, c3, c4, c5, c6].drop 2).take (Tryz.prog.cellsOf 3)) = some y2 := hf 2 _ rfl; have h3 : DataW.trod enc Tryz.prog W 0 (fun _ => true) true k 3 (([c0, c1, c2, c3, c4, c5, c6].drop 3).take (Tryz.prog.cellsOf 3)) = some y3 := hf 3 _ rfl; have h4 : DataW.trod enc Tryz.prog W 0 (fun _ => true) true k 2 (([c0, c1, c2, c3, c4, c5, c6].drop 4).take (Tryz.prog.cellsOf 2)) = some y4 := hf 4 _ rfl; have h5 : DataW.trod enc Tryz.prog W 0 (fun _ => true) true k 2 (([c0, c1, c2, c3, c4, c5, c6].drop 5).take (Tryz.prog.cellsOf 2)) = some y5 := hf 5 _ rfl; have h6 : DataW.trod enc Tryz.prog W 0 (fun _ => true) true k 33 (([c0, c1, c2, c3, c4, c5, c6].drop 6).take (Tryz.prog.cellsOf 33)) = some y6 := hf 6 _ rfl; simp only [tcells3, tcells2, tcells33, List.drop, List.take] at h0 h1 h2 h3 h4 h5 h6; obtain ⟨x0, e0, -, -⟩ := DataW.trod_int Tryz.underlying3 h0; obtain ⟨x1, e1, -, w1⟩ := DataW.trod_int Tryz.underlying3 h1; obtain ⟨x2, e2, -, -⟩ := DataW.trod_int Tryz.underlying3 h2; obtain ⟨x3, e3, -, -⟩ := DataW.trod_int Tryz.underlying3 h3; obtain ⟨x4, e4, -, w4⟩ := DataW.trod_int Tryz.underlying2 h4; obtain ⟨x5, e5, -, -⟩ := DataW.trod_int Tryz.underlying2 h5; obtain ⟨v, nb, e6, hb⟩ := blows_open h6; simp only [List.cons.injEq, and_true] at e0 e1 e2 e3 e4 e5 e6; subst e0 e1 e2 e3 e4 e5 e6; exact ⟨x0, x1, x2, x3, x4, x5, _, nb, rfl, ⟨wf64 w1, (wf64 w4).2⟩, hb⟩
theorem acts_open (h : DataW.trod enc Tryz.prog W 0 (fun _ => true) true fuel 23 cs = some x) : ∃ p len c, cs = [.slice p len c] ∧ ActsAt W p len := by
 rcases Go.Deep.open_slice Tryz.underlying23 h with ⟨rfl, -⟩ | ⟨a, len, cap, m, k, D, Pl, rfl, -, hl, hm, hmm, -, hall⟩
 · exact ⟨none, 0, 0, rfl, fun j hj => absurd hj (Nat.not_lt_zero j)⟩
 · simp only [if_true] at hmm; refine ⟨some a, len, cap, rfl, fun j hj => ?_⟩; obtain ⟨cs', h1, h2⟩ := hall j (by omega); obtain ⟨-, -, h3⟩ := World.cells?_some h1; obtain ⟨op, a1, b, c, n, m', bl, nb, rfl, hbd, hbl⟩ := act_open h2; rw [tcells35] at h3; obtain ⟨g, o, spot⟩ := a; have hspot : spot = none := by
    obtain ⟨cs0, z1, z2⟩ := hall 0 (by omega); obtain ⟨-, zl, z3⟩ := World.cells?_some z1; obtain ⟨_, _, _, _, _, _, _, _, rfl, _⟩ := act_open z2; have z4 := z3 0 (by rw [tcells35]; omega); simp only [Nat.zero_mul] at z4; simpa [Addr.add] using World.cell?_spot z4
   subst hspot; have k0 := h3 0 (by omega); have k1 := h3 1 (by omega); have k2 := h3 2 (by omega); have k3 := h3 3 (by omega); have k4 := h3 4 (by omega); have k5 := h3 5 (by omega); have k6 := h3 6 (by omega); simp only [Addr.add_lit, Nat.add_zero] at k0 k1 k2 k3 k4 k5 k6; exact ⟨g, o, rfl, World.block_lt_of_cell? W _ k0, op, a1, b, c, n, m', bl, nb, ⟨k0, k1, k2, k3, k4, k5, k6⟩, hbd, hbl⟩
end
end Go.Proofs.YtoiajjobecinpaaGreat
namespace Go.Proofs.YtoiajjobecinpaaGreat
open Go.RowKit Go.Shelf Go.Lib Go.Proofs
set_option linter.unusedVariables false
set_option linter.unusedSimpArgs false
section
attribute [local go_sem] Oper.semAt_some
def cntG (gs : List (Bool × Int)) : Nat := ((List.range 16).filter fun g : Nat => hasG gs (g : Int)).length
theorem accsK_cnt (s : Sy) : (accsK s 16).length = cntG s.gs := by simp [accsK, cntG]
theorem cntG_top : cntG topG = 1 := by decide
theorem listFrom_mod : ∀ (ps : List (Int × Bool)) (i : Nat), i + ps.length ≤ 64 → (listFrom i ps).Pairwise fun a b => a % 64 < b % 64
 | [], i, _ => List.Pairwise.nil
 | p :: l, i, h => by
  have h' : i + 1 + l.length ≤ 64 := by simp at h; omega
  have ih := listFrom_mod l (i + 1) h'; unfold listFrom; split
  · refine List.Pairwise.cons (fun x hx => ?_) ih; obtain ⟨j, hj, _, rfl⟩ := mem_listFrom.1 hx; omega
  · exact ih
theorem taskY_id {k n : Nat} {b : Int} {s : Sy} (h : InvY k b n s) {x : Int} (hx : x ∈ listP s.ps) : (taskY s x).id = x := by
 obtain ⟨t, xs, ht, -⟩ := h.some_ hx; unfold taskY; rw [ht]; exact (h.task x t ht).id
end
section
attribute [local go_sem] Oper.semAt_some
theorem SysR.at2 {s s' : Sy} {a b c n m x y : Int} (h : SysR s 2 a b c n m x y s') : x = (spawnF s a (IntKind.u16.wrap b) c).1 ∧ y = (spawnF s a (IntKind.u16.wrap b) c).2.1 ∧ s' = (spawnF s a (IntKind.u16.wrap b) c).2.2 := by
 rcases h with h | h | h | h | h | h | h | h | h | h | h | h | h
 · exact absurd h.1 (by decide)
 · exact h.2
 all_goals first | exact absurd h.1 (by decide) | skip
theorem SysR.at3 {s s' : Sy} {a b c n m x y : Int} (h : SysR s 3 a b c n m x y s') : x = 0 ∧ y = (startF s a).1 ∧ s' = (startF s a).2 := by
 rcases h with h | h | h | h | h | h | h | h | h | h | h | h | h
 · exact absurd h.1 (by decide)
 · exact absurd h.1 (by decide)
 · exact h.2
 all_goals first | exact absurd h.1 (by decide) | skip
theorem SysR.at10 {s s' : Sy} {a b c n m x y : Int} (h : SysR s 10 a b c n m x y s') : RunR s a x y s' := by
 rcases h with h | h | h | h | h | h | h | h | h | h | h | h | h
 · exact absurd h.1 (by decide)
 · exact absurd h.1 (by decide)
 · exact absurd h.1 (by decide)
 · exact absurd h.1 (by decide)
 · exact absurd h.1 (by decide)
 · exact absurd h.1 (by decide)
 · exact absurd h.1 (by decide)
 · exact absurd h.1 (by decide)
 · exact absurd h.1 (by decide)
 · exact h.2
 all_goals first | exact absurd h.1 (by decide) | skip
def awPs : List (Int × Bool) := (fresh 64).set 0 (1, true)
def awS1 : Sy := ⟨[newCo 0], topG, zeroA, awPs, fun x => if x = 0 then some (newTk 0 1 1 0) else none, 1⟩
def awC : Co := ⟨0, putL ⟨0, -1, []⟩ 0 1 (heldT 0 0), wrap64 (0 + 1), 0⟩
theorem aw_spawn : (spawnF (newSy [0]) 1 (IntKind.u16.wrap 1) 0).2.2 = awS1 := by
 have h1 : IntKind.u16.wrap 1 = 1 := by decide
 have h2 : takeP (newSy [0]).ps = (0, 0, awPs) := by rfl
 unfold spawnF; rw [h1, if_neg (by decide), if_neg (by decide), if_neg (by decide), h2, if_pos rfl]; rfl
theorem aw_held (s : Sy) (t : Tk) (hg : s.gs = topG) (ha : s.acc = zeroA) (ht : t.group = 0) : heldY s t = false := by
 rw [heldY_of (xs := [g0]) (by rw [hg, ht]; exact topG_path)]; simp only [List.any_cons, List.any_nil, Bool.or_false]; unfold spentA; rw [ha]; decide
theorem aw_start : (startF awS1 0).2.cores = [awC] ∧ (startF awS1 0).2.ps = awPs := by
 have h1 : awS1.tasks 0 = some (newTk 0 1 1 0) := rfl; have h2 : leastC awS1 1 = 0 := by decide
 have h3 : heldY awS1 (newTk 0 1 1 0) = false := aw_held _ _ rfl rfl rfl; have h4 : (nxt (newTk 0 1 1 0).state 1).2 = 0 := by decide
 have h5 : (newTk 0 1 1 0).mask = 1 := rfl; unfold startF; rw [h1]; simp only
 rw [if_pos h4, h5, h2, h3]; unfold enterY; rw [if_neg (by decide)]; have h6 : coreEnter (setTk awS1 0 (coT (newTk 0 1 1 0) 0)).cores[(0 : Int).toNat]! (coT (newTk 0 1 1 0) 0).id (coT (newTk 0 1 1 0) 0).w (coT (newTk 0 1 1 0) 0).lag false = (0, awC) := by rfl
 rw [h6, if_pos rfl]; exact ⟨rfl, rfl⟩
theorem holds_ps : ∀ (ids : List Int) (s : Sy), (ids.foldl holdS s).ps = s.ps
 | [], s => rfl
 | id :: ids, s => (holds_ps ids _).trans (holdS_same s id).1
theorem aw_run {s s' : Sy} {x y : Int} (hc : s.cores = [awC]) (hp : s.ps = awPs) (h : RunR s 0 x y s') : x = 0 ∧ y = 0 ∧ s'.ps = awPs := by
 have hr : (coreRun awC).1 = 0 := by decide
 rcases h with ⟨h1, _⟩ | ⟨i, hi, hil, rfl, c', h⟩
 · rw [hc] at h1; simp at h1
 · obtain rfl : i = 0 := by omega
   have e : s.cores[0]! = awC := by rw [hc]; rfl
   rw [e] at h; rcases h with ⟨rfl, h2, _⟩ | ⟨t, xs, ids, h2, _, _, _, _, rfl⟩
   · rw [h2] at hr; cases hr
   · rw [h2] at hr; exact ⟨hr, rfl, by rw [holds_ps]; exact hp⟩
theorem aw_len : (listP awPs).length = 1 := by decide
theorem fld44b (a0 a1 a2 a3 a4 : Option Addr) (n0 n1 n2 n3 n4 c0 c1 c2 c3 c4 : Nat) (W : World) :
 Sem.run Tryz.prog (Instr.field 44 (Value.agg #[.slice a0 n0 c0, .slice a1 n1 c1, .slice a2 n2 c2, .slice a3 n3 c3, .slice a4 n4 c4]) 2) W = Result.ok (.slice a2 n2 c2) W := by kernel_rfl
theorem noBlows (W : World) : BlowR W (.slice none 0 0) 0 := ⟨none, 0, rfl, fun j hj => absurd hj (Nat.not_lt_zero j)⟩
set_option maxRecDepth 100000 in
theorem awake2_any (W : World) : Calls Tryz.prog 9 #[] W fun e w' => e = .returned (.bool true) ∧ Below W.heap.size W w' := by
 have hnew := law_made (W.alloc (.cells #[.int .i64 0] 3)) W.heap.size 0 1 1 [0] (by omega) (by omega) (by simp) (fun j hj => by
  obtain rfl : j = 0 := by omega
  exact (cell_new_l W (.int .i64 0) 3).1) (fun k hk => by
  obtain rfl : k = 0 := by omega
  exact .inl rfl)
 have hB0 : Below W.heap.size W (W.alloc (.cells #[.int .i64 0] 3)) := (Below.refl _ W).alloc (Nat.le_refl _) _; have HB0 := lH hB0; obtain ⟨W0, hW0⟩ : ∃ x, W.alloc (.cells #[.int .i64 0] 3) = x := ⟨_, rfl⟩
 clear hB0; rw [hW0] at hnew HB0; go_enter Tryz.func9, Tryz.ntmps9; go_wp2_with fail
 refine hnew.mono ?_; rintro e w1 ⟨ob, rfl, hW1, h1n⟩
 · have hsp := hW1.do_ (by omega) 2 1 1 0 0 0 (.slice none 0 0) 0 (noBlows _) (by omega) (by omega) (by omega) (by omega); unfold actV at hsp; clear hW1 hnew; go_wp2_with fail
   refine hsp.mono ?_; rintro e w2 ⟨x, y, s1, rfl, ha, hW2⟩; generalize (if y = 0 then x else 0) = v2; obtain ⟨-, -, e1⟩ := (ha.1 (by decide)).at2; rw [show newSy (listW [0] 1) = newSy [0] from rfl, aw_spawn] at e1; subst e1; have hst := hW2.do_ (by omega) 3 0 0 0 0 0 (.slice none 0 0) 0 (noBlows _) (by omega) (by omega) (by omega) (by omega); unfold actV at hst; clear hW2 hsp ha; go_wp2_with fail
   refine hst.mono ?_; rintro e w3 ⟨x3, y3, s2, rfl, ha, hW3⟩; generalize (if y3 = 0 then x3 else 0) = v3; obtain ⟨-, -, e2⟩ := (ha.1 (by decide)).at3; obtain ⟨c2, p2⟩ := aw_start; rw [← e2] at c2 p2; have hrun := hW3.do_ (by omega) 10 0 0 0 0 0 (.slice none 0 0) 0 (noBlows _) (by omega) (by omega) (by omega) (by omega); unfold actV at hrun; have HC2 := lH (And.intro c2 p2); clear hW3 hst ha e2 c2 p2; go_wp2_with fail
   refine hrun.mono ?_; rintro e w4 ⟨x4, y4, s3, rfl, ha, hW4⟩; obtain ⟨rfl, rfl, p3⟩ := aw_run HC2.out.1 HC2.out.2 (ha.1 (by decide)).at10; have hstate := law_state W0 w4 ob 1 _ s3 hW4 (by omega); have HB4 := lH (HB0.out.trans (hW4.bel.mono HB0.out.size)); rw [p3, aw_len] at hstate; clear hW4 hrun ha p3; go_wp2_with fail
   refine hstate.mono ?_; rintro e w5 ⟨a0, a1, a2, a3, a4, c0, c1, c2, c3, c4, fl, P, rfl, -, -, -, hb5⟩; have HB5 := lH (HB4.out.trans (hb5.mono HB4.out.size)); obtain ⟨G, hG⟩ : ∃ G, (accsK s3 16).length = G := ⟨_, rfl⟩
   rw [hG]; have hfld := fld44b a0 a1 a2 a3 a4 1 1 1 G G c0 c1 c2 c3 c4 w5; clear hstate hb5; go_wp2_with fail
   go_ret
   exact ⟨rfl, HB5.out⟩
end
section
attribute [local go_sem] Oper.semAt_some
theorem taskY_mask {k n : Nat} {b : Int} {s : Sy} (h : InvY k b n s) {x : Int} (hx : x ∈ listP s.ps) : 0 ≤ (taskY s x).mask ∧ (taskY s x).mask < 65536 := by
 obtain ⟨t, xs, ht, -⟩ := h.some_ hx; have e : taskY s x = toldT s t := by
  unfold taskY; rw [ht]; rfl
 rw [e]; exact (h.task x t ht).mask.1
theorem tasks_rows {k n : Nat} {b : Int} {s : Sy} (h : InvY k b n s) {T : Nat} (hT : (listP s.ps).length = T) (i : Nat) (hi : i < T) :
 ∃ t : Tk, t = taskY s ((listP s.ps).getD i 0) ∧ t.id = (listP s.ps).getD i 0 ∧ (listP s.ps).getD i 0 ∈ listP s.ps ∧ (flatT ((listP s.ps).map (taskY s)))[i * 7]? = some (.int .i64 t.id) ∧ (flatT ((listP s.ps).map (taskY s)))[i * 7 + 1]? = some (.int .i64 t.w) ∧
  (flatT ((listP s.ps).map (taskY s)))[i * 7 + 2]? = some (.int .i64 t.group) ∧ (flatT ((listP s.ps).map (taskY s)))[i * 7 + 3]? = some (.int .i64 t.core) ∧ (flatT ((listP s.ps).map (taskY s)))[i * 7 + 4]? = some (.int .i64 t.state) ∧
  (flatT ((listP s.ps).map (taskY s)))[i * 7 + 5]? = some (.int .u16 t.mask) ∧ (flatT ((listP s.ps).map (taskY s)))[i * 7 + 6]? = some (.int .i64 t.lag) := by
 have hi' : i < (listP s.ps).length := by omega
 have e : (listP s.ps).getD i 0 = (listP s.ps)[i] := by rw [List.getD_eq_getElem?_getD, List.getElem?_eq_getElem hi']; rfl
 have hg := fun f hf => flatT_get ((listP s.ps).map (taskY s)) i f (by simpa using hi') hf; simp only [List.getElem_map] at hg; refine ⟨_, rfl, by rw [e]; exact taskY_id h (List.getElem_mem hi'), by rw [e]; exact List.getElem_mem hi', ?_, ?_, ?_, ?_, ?_, ?_, ?_⟩
 · rw [e]; exact hg 0 (by omega)
 · rw [e]; exact hg 1 (by omega)
 · rw [e]; exact hg 2 (by omega)
 · rw [e]; exact hg 3 (by omega)
 · rw [e]; exact hg 4 (by omega)
 · rw [e]; exact hg 5 (by omega)
 · rw [e]; exact hg 6 (by omega)
def CareI (W : World) (ob n : Nat) (k : Nat) (wr : World) : Prop := ∃ s, LawW W ob n k s wr
end
end Go.Proofs.YtoiajjobecinpaaGreat
