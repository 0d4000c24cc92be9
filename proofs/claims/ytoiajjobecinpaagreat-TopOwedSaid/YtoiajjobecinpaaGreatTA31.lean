/- load.Move; the tasks that are told to it. Even: from the core that owes most. Masks, bit by bit; the core that is least  -/
import Derived.Test.YtoiajjobecinpaaGreatTA29
set_option maxHeartbeats 4000000
namespace Go.Proofs.YtoiajjobecinpaaGreat
open Go.RowKit Go.Shelf Go.Lib Go.Proofs
set_option linter.unusedVariables false
set_option linter.unusedSimpArgs false
section
attribute [local go_sem] Oper.semAt_some
def lmvL (xs : List Int) (l : List Lt) : Int × Int × Bool :=
 if (mvTo xs l (mostL xs) l.length).2.2 = true then (l[(mvTo xs l (mostL xs) l.length).1.toNat]!.id, (mvTo xs l (mostL xs) l.length).2.1, true) else (0, 0, false)
set_option maxRecDepth 100000 in
theorem lMove_any (g c N gl cl M : Nat) (p : Option Addr) (xs : List Int) (l : List Lt) (W : World) (hN : xs.length = N) (hM : l.length = M) (hx : ∀ i, i < N → W.cell? ⟨g, i, none⟩ = some (.int .i64 (xs.getD i 0))) (hxs : ∀ i, i < N → 0 ≤ xs.getD i 0 ∧ xs.getD i 0 ≤ 1099511627776)
 (hl : LtsAt W gl l) (hls : ∀ k, k < M → 1 ≤ l[k]!.w ∧ l[k]!.w ≤ 20 ∧ 0 ≤ l[k]!.core ∧ l[k]!.core < N) (hms : ∀ k, k < M → 0 ≤ l[k]!.mask ∧ l[k]!.mask < 65536) (h0 : 1 ≤ N) (h1 : N ≤ 16) (h2 : M < 1000000) (hg : 0 < M → p = some ⟨gl, 0, none⟩ ∧ gl < W.heap.size) (hgx : g < W.heap.size) :
 Calls Tryz.prog 119 #[.slice (some ⟨g, 0, none⟩) N c, .slice p M cl] W fun e w' => e = .returned (.tuple #[.int .i64 (lmvL xs l).1, .int .i64 (lmvL xs l).2.1, .bool (lmvL xs l).2.2]) ∧ Below W.heap.size W w' := by
 have hmay := may_ok g c N gl cl M p xs l W hN hM hx hxs hl hls (by omega) h2 hg; have hmv := fun W' (hB : Below W.heap.size W W') => lmove_any g c N gl cl M p xs l W' hN hM (fun i hi => (hB.cell (p := ⟨g, i, none⟩) hgx).trans (hx i hi)) hxs (fun k hk => hl.below hB (hg (by omega)).2 k hk) hls hms h0 h1 h2 (fun h => ⟨(hg h).1, Nat.lt_of_lt_of_le (hg h).2 hB.size⟩) (Nat.lt_of_lt_of_le hgx hB.size); have hbd := mvTo_bd xs l (mostL xs) M; have hr : lmvL xs l = if (mvTo xs l (mostL xs) M).2.2 = true then (l[(mvTo xs l (mostL xs) M).1.toNat]!.id, (mvTo xs l (mostL xs) M).2.1, true) else (0, 0, false) := by unfold lmvL; rw [hM]
 rw [hr]; obtain ⟨⟨a, t, o⟩, hac⟩ : ∃ r, mvTo xs l (mostL xs) M = r := ⟨_, rfl⟩
 rw [hac] at hmv hbd ⊢; simp only at hmv hbd ⊢; have HL := lH hl; have HG := lH hg; have HM := lH hM; clear hN hx hxs hl hls hms h0 h1 h2 hg hgx hr hac hM; cases o with
 | false =>
  rw [if_neg (by simp)]; clear hbd; go_enter Tryz.func119, Tryz.ntmps119; go_wp2_with fail
  refine hmay.mono ?_; rintro e w1 ⟨rfl, hb1⟩; have hmv1 := hmv w1 hb1; have HB1 := lH hb1; clear hmay hmv hb1; go_wp2_with fail
  refine hmv1.mono ?_; rintro e w2 ⟨rfl, hb2⟩; have HB2 := lH hb2; clear hmv1 hb2; go_wp2_with fail
  go_ret3
  exact ⟨rfl, HB1.out.trans (HB2.out.mono HB1.out.size)⟩
 | true =>
  rw [if_pos rfl]; obtain ⟨t1, t2⟩ := hbd rfl; obtain ⟨an, han⟩ := Int.eq_ofNat_of_zero_le t1; subst han; have hM0 : 0 < M := by omega
  have hin : an < l.length := by have := HM.out; omega
  obtain ⟨hp, hgl⟩ := HG.out hM0; subst hp; show Calls _ _ _ _ (fun e w' => e = .returned (.tuple #[.int .i64 l[an]!.id, .int .i64 t, .bool true]) ∧ _); obtain ⟨iv, hiv⟩ : ∃ x, l[an]!.id = x := ⟨_, rfl⟩
  rw [hiv]; have HIV := lH hiv; have k1 : (an : Int) < (M : Int) := by omega
  clear hbd hiv t1 t2; go_enter Tryz.func119, Tryz.ntmps119; go_wp2_with fail
  refine hmay.mono ?_; rintro e w1 ⟨rfl, hb1⟩; have hmv1 := hmv w1 hb1; have HB1 := lH hb1; clear hmay hmv hb1; go_wp2_with fail
  refine hmv1.mono ?_; rintro e w2 ⟨rfl, hb2⟩; have hB2 := HB1.out.trans (hb2.mono HB1.out.size)
  obtain ⟨ca, -, -, -⟩ := HL.out.below hB2 hgl an hin; rw [HIV.out] at ca; have HB2 := lH hB2; clear hmv1 hb2 hB2; go_wp2_with fail
  go_ret3
  exact ⟨rfl, HB2.out⟩
def ltV (p : Lt) : List Value := [.int .i64 p.id, .int .i64 p.w, .int .i64 p.core, .int .u16 p.mask]
def flatLt (l : List Lt) : List Value := l.flatMap ltV
theorem flatLt_get : ∀ (l : List Lt) (k : Nat), k < l.length → (flatLt l)[k * 4]? = some (.int .i64 l[k]!.id) ∧ (flatLt l)[k * 4 + 1]? = some (.int .i64 l[k]!.w) ∧ (flatLt l)[k * 4 + 2]? = some (.int .i64 l[k]!.core) ∧ (flatLt l)[k * 4 + 3]? = some (.int .u16 l[k]!.mask)
 | [], k, h => by simp at h
 | p :: l, 0, _ => by simp [flatLt, ltV]
 | p :: l, k + 1, h => by
  have ih := flatLt_get l k (by simpa using h); have e : flatLt (p :: l) = ltV p ++ flatLt l := by simp [flatLt]
  have h4 : (ltV p).length = 4 := rfl; have hg : ∀ j, (flatLt (p :: l))[(k + 1) * 4 + j]? = (flatLt l)[k * 4 + j]? := fun j => by
   rw [e, List.getElem?_append_right (by rw [h4]; omega), h4, show (k + 1) * 4 + j - 4 = k * 4 + j by omega]
  have hb : (p :: l)[k + 1]! = l[k]! := by simp
  rw [hb]; exact ⟨(hg 0).trans ih.1, (hg 1).trans ih.2.1, (hg 2).trans ih.2.2.1, (hg 3).trans ih.2.2.2⟩
theorem ltsAt_of_row {W : World} {B g c n : Nat} {l : List Lt} (h : W.ownsRow B 207 4 (.slice (some ⟨g, 0, none⟩) n c) l.length (flatLt l)) : LtsAt W g l := fun k hk => by
 obtain ⟨f1, f2, f3, f4⟩ := flatLt_get l k hk; have hc : ∀ j v, (flatLt l)[j]? = some v → W.cell? ⟨g, j, none⟩ = some v := fun j v hv => by
  have := h.cells (g := g) rfl j v hv; simpa [Addr.add_lit] using this
 exact ⟨hc _ _ f1, hc _ _ f2, hc _ _ f3, hc _ _ f4⟩
theorem linfo207 : (Tryz.prog.info? 207).map (fun i => (i.zero, i.size, i.bytes)) = some (some (.agg #[.int .i64 0, .int .i64 0, .int .i64 0, .int .u16 0]), 4, 32) := by kernel_rfl
def evL (s : Sy) (ids : List Int) : List Lt := ids.filterMap fun x => match s.tasks x with | some t => if t.state = 2 then some ⟨t.id, t.w, t.core, t.mask⟩ else none | none => none
end
section
attribute [local go_sem] Oper.semAt_some
theorem evL_take {s : Sy} {ids : List Int} {k : Nat} (h : k < ids.length) {t : Tk} (ht : s.tasks ids[k] = some t) : evL s (ids.take (k + 1)) = evL s (ids.take k) ++ (if t.state = 2 then [⟨t.id, t.w, t.core, t.mask⟩] else []) := by
 unfold evL; rw [List.take_succ_eq_append_getElem h, List.filterMap_append]; congr 1
 rw [List.filterMap_cons, ht]; by_cases h2 : t.state = 2
 · simp [h2]
 · simp [h2]
theorem evL_mem {s : Sy} {ids : List Int} {k : Nat} (h : k < (evL s ids).length) : ∃ x t, x ∈ ids ∧ s.tasks x = some t ∧ t.state = 2 ∧ (evL s ids)[k]! = ⟨t.id, t.w, t.core, t.mask⟩ := by
 rw [getElem!_pos (evL s ids) k h]; have := List.getElem_mem h; generalize (evL s ids)[k] = y at this ⊢; unfold evL at this; obtain ⟨x, hx, e⟩ := List.mem_filterMap.1 this; cases ht : s.tasks x with
 | none => rw [ht] at e; cases e
 | some t =>
  rw [ht] at e; simp only at e; split at e
  · rename_i h2; exact ⟨x, t, hx, ht, h2, by simpa using e.symm⟩
  · cases e
theorem evL_len (s : Sy) (ids : List Int) : (evL s ids).length ≤ ids.length := List.length_filterMap_le _ _
theorem flatLt_snoc (l : List Lt) (p : Lt) : flatLt (l ++ [p]) = flatLt l ++ ltV p := by simp [flatLt]
theorem LtsAt.below' {W W' : World} {g : Nat} {l : List Lt} {p : Option Addr} {M : Nat} (h : LtsAt W g l) (hb : Below W.heap.size W W') (hM : l.length = M) (hg : 0 < M → p = some ⟨g, 0, none⟩ ∧ g < W.heap.size) : LtsAt W' g l := fun k hk => h.below hb (hg (by omega)).2 k hk
theorem lts_form {W : World} {B : Nat} {v : Value} {l : List Lt} (h : W.ownsRow B 207 4 v l.length (flatLt l)) : ∃ p c g, v = .slice p l.length c ∧ LtsAt W g l ∧ (0 < l.length → p = some ⟨g, 0, none⟩ ∧ g < W.heap.size) := by
 have h' := h; rcases h.2 with ⟨e, h0⟩ | ⟨g, cap, cur, e, _⟩
 · exact ⟨none, 0, 0, by rw [e, h0], fun k hk => by omega, fun hk => by omega⟩
 · subst e; exact ⟨_, cap, g, rfl, ltsAt_of_row h', fun _ => ⟨rfl, (h'.lt g rfl).2⟩⟩
set_option maxRecDepth 100000 in
theorem even_any (sb gb nb pb mb n : Nat) (cv : Value) (D : DataW Unit) (cbs : List Nat) (tb : Int → Nat) (own : Nat → Option Own) (s : Sy) (W : World) (h : SysAt W sb gb nb pb mb n cv D cbs tb own s) (hz : Sized s.ps) (hd : DomY s) (hf : FitsY s) (h0 : 0 < cbs.length) (h16 : cbs.length ≤ 16)
 (hxs : ∀ i, i < cbs.length → 0 ≤ (loadsY s).getD i 0 ∧ (loadsY s).getD i 0 ≤ 1099511627776)
 (hts : ∀ x t, s.tasks x = some t → t.state = 2 → (1 ≤ t.w ∧ t.w ≤ 20 ∧ 0 ≤ t.core ∧ t.core < cbs.length) ∧ 0 ≤ t.mask ∧ t.mask < 65536) (mv : List Int → Sy)
 (hmv : ∀ ids : List Int, ids.Perm (listP s.ps) → (lmvL (loadsY s) (evL s ids)).2.2 = true → ∀ W', SysAt W' sb gb nb pb mb n cv D cbs tb own s → Calls Tryz.prog 54 #[.pointer (some ⟨sb, 0, none⟩), .int .i64 (lmvL (loadsY s) (evL s ids)).1, .int .i64 (lmvL (loadsY s) (evL s ids)).2.1] W' fun e w' => e = .returned (.int .i64 0) ∧ YP sb gb nb pb mb n cv D cbs tb own (mv ids) W' w') :
 Calls Tryz.prog 57 #[.pointer (some ⟨sb, 0, none⟩)] W fun e w' => ∃ ids : List Int, ids.Perm (listP s.ps) ∧ ids.Pairwise (fun a b => ¬ b < a) ∧
  ((e = .returned (.tuple #[.int .i64 0, .bool false]) ∧ (lmvL (loadsY s) (evL s ids)).2.2 = false ∧ YP sb gb nb pb mb n cv D cbs tb own s W w') ∨
   (e = .returned (.tuple #[.int .i64 (lmvL (loadsY s) (evL s ids)).1, .bool true]) ∧ (lmvL (loadsY s) (evL s ids)).2.2 = true ∧ YP sb gb nb pb mb n cv D cbs tb own (mv ids) W w')) := by
 have hsort := sorted_all sb gb nb pb mb n cv D cbs tb own s W h hz hd; have hlen64 : (listP s.ps).length ≤ 64 := Nat.le_trans (listFrom_len _ _) hz.1; obtain ⟨i0, hi, hz0, hz1, hz2⟩ := info_parts linfo207; have HS := lH h; have HD := lH hd; have HF := lH hf; have HXS := lH hxs; have HTS := lH hts; have HMV := lH hmv; obtain ⟨P1, hP1⟩ : ∃ P : Ending → World → Prop, P = (fun e w' => ∃ ids : List Int, ids.Perm (listP s.ps) ∧ ids.Pairwise (fun a b => ¬ b < a) ∧
  ((e = .returned (.tuple #[.int .i64 0, .bool false]) ∧ (lmvL (loadsY s) (evL s ids)).2.2 = false ∧ YP sb gb nb pb mb n cv D cbs tb own s W w') ∨
   (e = .returned (.tuple #[.int .i64 (lmvL (loadsY s) (evL s ids)).1, .bool true]) ∧ (lmvL (loadsY s) (evL s ids)).2.2 = true ∧ YP sb gb nb pb mb n cv D cbs tb own (mv ids) W w'))) := ⟨_, rfl⟩
 rw [← hP1]; have HP1 := lH hP1; clear h hz hd hf hxs hts hmv hP1; go_enter Tryz.func57, Tryz.ntmps57; go_wp2_with fail
 refine hsort.mono ?_; rintro e w1 ⟨v, ids, rfl, hperm, hpw, hrow, hb1⟩; obtain ⟨m, hm⟩ : ∃ m, ids.length = m := ⟨_, rfl⟩
 obtain ⟨p, c, hv⟩ : ∃ p c, v = .slice p m c := by
  rcases hrow.2 with ⟨e, h0⟩ | ⟨g, cap, cur, e, _⟩
  · exact ⟨none, 0, by rw [e, ← hm, h0]⟩
  · exact ⟨_, _, by rw [e, hm]⟩
 subst hv; have hm64 : m ≤ 64 := by rw [← hm, hperm.length_eq]; exact hlen64
 have HR := lH hrow; have HB1 := lH hb1; have HPE := lH hperm; have HPW := lH hpw; have HM := lH hm; have HS1 := lH (HS.out.below hb1); clear hsort hrow hb1 hperm hpw hm; go_wp2_with fail
 go_loopw [4, 13] (fun x4 x wr => ∃ k : Nat, k ≤ m ∧ x = .int .i64 k ∧ Hid (wr.ownsRow w1.heap.size 207 4 x4 (evL s (ids.take k)).length (flatLt (evL s (ids.take k)))) ∧ Hid (Below w1.heap.size w1 wr)) (fun _ x _ => m - (intOf x).toNat)
 case atStart => exact ⟨0, Nat.zero_le _, rfl, lH (World.ownsRow_nil ..), lH (Below.refl _ _)⟩
 case round =>
  obtain ⟨k, hk, rfl, HRW, HB⟩ := hrel; by_cases hkm : k < m
  · have hk1 : (k : Int) < (m : Int) := by omega
    have hk0 : 0 ≤ (k : Int) := by omega
    have hkl : k < ids.length := by rw [HM.out]; exact hkm
    obtain ⟨g, hp⟩ : ∃ g, p = some ⟨g, 0, none⟩ := by
     rcases HR.out.2 with ⟨_, h0⟩ | ⟨g, cap, cur, e, _⟩
     · have := HM.out; omega
     · simp only [Value.slice.injEq] at e; exact ⟨g, e.1⟩
    subst hp; have hgl := HR.out.lt g rfl; have hSr := HS1.out.below HB.out; have hcell : wr.cell? ⟨g, k, none⟩ = some (.pointer (some ⟨tb (ids[k]'hkl), 0, none⟩)) := by
     refine (HB.out.cell (p := ⟨g, k, none⟩) hgl.2).trans ?_; have := HR.out.cells (g := g) rfl k (.pointer (some ⟨tb (ids[k]'hkl), 0, none⟩)) (by rw [List.getElem?_map, List.getElem?_eq_getElem hkl]; rfl); simpa [Addr.add_lit] using this
    have hmem : (ids[k]'hkl) ∈ listP s.ps := HPE.out.subset (List.getElem_mem hkl); obtain ⟨_, t, ht, -⟩ := HD.out _ hmem; have hT := (hSr.task _ t ht).1; have hnx := evL_take hkl ht; have hlen := evL_len s (ids.take k); rw [List.length_take] at hlen; obtain ⟨q, hq⟩ : ∃ q, (evL s (ids.take k)).length = q := ⟨_, rfl⟩
    rw [hq] at HRW hlen; obtain ⟨t0, t1, t3, t4, t5⟩ := And.intro hT.id (And.intro hT.w (And.intro hT.core (And.intro hT.state hT.mask))); generalize tb (ids[k]'hkl) = b at hcell t0 t1 t3 t4 t5; have HQ := lH hq; have HNX := lH hnx; have hbz := HB.out.size; clear hSr hmem ht hT hnx hq; by_cases h2 : t.state = 2
    · have HN2 : Hid (evL s (ids.take (k + 1)) = evL s (ids.take k) ++ [⟨t.id, t.w, t.core, t.mask⟩]) := lH (HNX.out.trans (by rw [if_pos h2])); rw [h2] at t4; have hrow := HRW.out.drew; go_wp2_with fail
      have hBd : Below w1.heap.size w1 wr.drew := HB.out.drew; go_region_law (first | (refine step_append_lies _ (by rfl) _ _ _ (by rfl) w1.heap.size 207 i0 _ 4 32 Tryz.underlying205 hi hz0 hz1 hz2 rfl (by omega) _ q (flatLt (evL s (ids.take k))) (by rfl) (hrow.alloc _) ⟨_, 0, none⟩ 1 1 [.int .i64 t.id, .int .i64 t.w, .int .i64 t.core, .int .u16 t.mask] (by rfl) (by rfl) (World.news_of_block (cs := #[.int .i64 t.id, .int .i64 t.w, .int .i64 t.core, .int .u16 t.mask]) (t := 207) (fr := (0, 0)) (heap_alloc_new _ _)) (by simp [Value.oneCell']) (by omega) (by unfold maxLen; omega) (by omega) (by simp; omega) _ rfl ?_; intro gg cap w4 hown4 hgrow4 hat4 hlt4) | fail)
      all_goals
       have hr : w4.ownsRow w1.heap.size 207 4 (.slice (some ⟨gg, 0, none⟩) (q + 1) cap) (evL s (ids.take (k + 1))).length (flatLt (evL s (ids.take (k + 1)))) := by
        rw [HN2.out, flatLt_snoc, List.length_append, HQ.out]; exact hown4
       have HR4 := lH hr; have HB4 : Hid (Below w1.heap.size w1 w4) := lH ((hBd.alloc (by exact hbz) _).grown hgrow4 (by simp; omega) (fun j hj => (hrow.lt j hj).1)); clear hr hown4 hgrow4 hat4 hlt4; go_wp2_with fail
       go_roundw
       case rel => exact ⟨k + 1, hkm, by go_num, HR4, HB4⟩
       case measure => simp [intOf]; omega
    · have HN2 : Hid (evL s (ids.take (k + 1)) = evL s (ids.take k)) := lH (HNX.out.trans (by rw [if_neg h2, List.append_nil])); go_wp2_with fail
      go_roundw
      case rel => exact ⟨k + 1, hkm, by go_num, by rw [HN2.out, HQ.out]; exact HRW, HB⟩
      case measure => simp [intOf]; omega
  · obtain rfl : k = m := by omega
    have hrw := HRW.out; rw [show ids.take k = ids from List.take_of_length_le (by rw [HM.out]; exact Nat.le_refl _)] at hrw; obtain ⟨pl, cl, gl, hu4, hlts, hpg⟩ := lts_form hrw; subst hu4; have hS2 := HS1.out.below HB.out; have hloads := loads_any sb gb nb pb mb n cv D cbs tb own s wr hS2 HF.out h0 h16; have hlen : (loadsY s).length = cbs.length := by unfold loadsY; rw [List.length_map]; exact HS.out.num.symm
    have hmem := fun k (hk : k < (evL s ids).length) => evL_mem hk; have hlen2 := evL_len s ids; have hmv := HMV.out ids HPE.out; obtain ⟨l, hle⟩ : ∃ l, evL s ids = l := ⟨_, rfl⟩
    obtain ⟨xs, hxe⟩ : ∃ xs, loadsY s = xs := ⟨_, rfl⟩
    have hxs := HXS.out; have hP1 := HP1.out; have hP2 : ∀ e w', ((e = .returned (.tuple #[.int .i64 0, .bool false]) ∧ (lmvL xs l).2.2 = false ∧ YP sb gb nb pb mb n cv D cbs tb own s W w') ∨ (e = .returned (.tuple #[.int .i64 (lmvL xs l).1, .bool true]) ∧ (lmvL xs l).2.2 = true ∧ YP sb gb nb pb mb n cv D cbs tb own (mv ids) W w')) → P1 e w' := fun e w' h => by
     rw [hP1]; refine ⟨ids, HPE.out, HPW.out.imp (fun h => by omega), ?_⟩; rw [hle, hxe]; exact h
    rw [hle] at hlts hpg hmem hlen2 hmv; rw [hxe] at hloads hlen hmv hxs; rw [hle]; obtain ⟨M, hM⟩ : ∃ M, l.length = M := ⟨_, rfl⟩
    have hls : ∀ k, k < M → (1 ≤ l[k]!.w ∧ l[k]!.w ≤ 20 ∧ 0 ≤ l[k]!.core ∧ l[k]!.core < cbs.length) ∧ 0 ≤ l[k]!.mask ∧ l[k]!.mask < 65536 := fun k hk => by
     obtain ⟨x, t, _, ht, h2, e⟩ := hmem k (by omega); rw [e]; exact HTS.out x t ht h2
    rw [hM] at hpg ⊢; have HLTS := lH hlts; have HPG := lH hpg; have HLS := lH hls; have HXL := lH hxs; have HLEN := lH hlen; have HMVV := lH hmv; have HP2 := lH hP2; have HMM := lH hM; have HS2 := lH hS2; have hM64 : M < 1000000 := by have := HM.out; omega
    have HB2 := lH (HB1.out.trans (HB.out.mono HB1.out.size)); clear hrw hlts hpg hS2 hmem hlen2 hmv hle hxe hxs hP1 hP2 hM hls hlen; go_wp2_with fail
    refine hloads.mono ?_; rintro e w2 ⟨vl, rfl, hlr, hb2⟩; rw [← HLEN.out] at hlr; obtain ⟨g2, cc2, hvl, hcell⟩ := ints_own hlr (by rw [HLEN.out]; exact h0); subst hvl; have hg2 := hlr.lt g2 rfl; have hmove := lMove_any g2 cc2 xs.length gl cl M pl xs l w2 rfl HMM.out hcell (by rw [HLEN.out]; exact HXL.out) (HLTS.out.below' hb2 HMM.out HPG.out) (by rw [HLEN.out]; exact fun k hk => (HLS.out k hk).1) (fun k hk => (HLS.out k hk).2) (by rw [HLEN.out]; exact h0) (by rw [HLEN.out]; exact h16) hM64 (fun h => ⟨(HPG.out h).1, Nat.lt_of_lt_of_le (HPG.out h).2 hb2.size⟩) hg2.2; have hmv2 := HMVV.out; have hP2 := HP2.out; obtain ⟨⟨r1, r2, r3⟩, hr⟩ : ∃ r, lmvL xs l = r := ⟨_, rfl⟩
    rw [hr] at hmove hmv2 hP2; rw [HLEN.out] at hmove ⊢; simp only at hmove hmv2 hP2; have HP3 := lH hP2; have HMV3 := lH hmv2; have HBA := lH (HB2.out.trans (hb2.mono HB2.out.size)); clear hlr hcell hg2 hb2 hmv2 hP2 hr HP2 HMVV; go_wp2_with fail
    refine hmove.mono ?_; rintro e w3 ⟨rfl, hb3⟩; have HBC := lH (HBA.out.trans (hb3.mono HBA.out.size)); have HS3 := lH (HS.out.below HBC.out); clear hmove hb3; cases r3 with
    | false =>
     go_wp2_with fail
     (try go_ret2)
     exact HP3.out _ _ (.inl ⟨rfl, by simp, own, HS3.out, fun _ _ => rfl, Touch.of_below HBC.out⟩)
    | true =>
     have hmv3 := HMV3.out rfl w3 HS3.out; go_wp2_with fail
     refine hmv3.mono ?_; rintro e w4 ⟨rfl, own', hS4, ho4, ht4⟩; have HS4 := lH hS4; have HO4 := lH ho4; have HT4 := lH ht4; clear hmv3 hS4 ho4 ht4; go_wp2_with fail
     (try go_ret2)
     exact HP3.out _ _ (.inr ⟨rfl, by simp, own', HS4.out, fun k hk => HO4.out k (Nat.lt_of_lt_of_le hk HBC.out.size), (Touch.of_below HBC.out).self HT4.out⟩)
end
theorem and1 (a : Nat) (ha : a < 65536) : bits .and .u16 (a : Int) 1 = ((a % 2 : Nat) : Int) := by
 unfold bits; simp only [IntKind.wrap_u16]; have e : (BitVec.ofInt IntKind.u16.bits (a : Int) &&& BitVec.ofInt IntKind.u16.bits 1).toNat = a % 2 := by
  show (BitVec.ofInt 16 (a : Int) &&& BitVec.ofInt 16 1).toNat = a % 2; rw [BitVec.toNat_and]; have h1 : (BitVec.ofInt 16 (1 : Int)).toNat = 1 := by decide
  have h2 : (BitVec.ofInt 16 (a : Int)).toNat = a := by
   rw [BitVec.toNat_ofInt]; omega
  rw [h1, h2, Nat.and_one_is_mod]
 rw [e]; omega
theorem hasM_bit (m : Nat) (hm : m < 65536) (j : Nat) (hj : j < 16) : hasM (m : Int) (j : Int) = m.testBit j := by
 unfold hasM; have h1 : decide (0 ≤ (j : Int)) = true := by simp
 have h2 : decide ((j : Int) < 16) = true := by simp; omega
 rw [h1, h2, Bool.true_and, Bool.true_and]; have e : (m : Int) / 2 ^ ((j : Int)).toNat = ((m / 2 ^ j : Nat) : Int) := by
  rw [Int.toNat_natCast, Int.natCast_ediv]; congr 1
 rw [e, and1 _ (Nat.lt_of_le_of_lt (Nat.div_le_self _ _) hm), Nat.testBit_eq_decide_div_mod_eq]; rcases Nat.mod_two_eq_zero_or_one (m / 2 ^ j) with h | h <;> rw [h] <;> rfl
theorem dropM_bit (m : Nat) (hm : m < 65536) (c : Nat) (hc : c < 16) : ∃ m' : Nat, dropM (m : Int) c = (m' : Int) ∧ m' < 65536 ∧ ∀ j, j < 16 → m'.testBit j = (m.testBit j && decide (j ≠ c)) := by
 refine ⟨(BitVec.ofInt 16 (m : Int) &&& ~~~ BitVec.ofInt 16 (2 ^ c)).toNat, ?_, BitVec.isLt _, fun j hj => ?_⟩
 · unfold dropM bits; simp only [IntKind.wrap_u16]; have := BitVec.isLt (BitVec.ofInt 16 (m : Int) &&& ~~~ BitVec.ofInt 16 (2 ^ c)); show (((BitVec.ofInt 16 (m : Int) &&& ~~~ BitVec.ofInt 16 (2 ^ c)).toNat : Nat) : Int) % 65536 = _; omega
 · have h2 : (BitVec.ofInt 16 (m : Int)).toNat = m := by
    rw [BitVec.toNat_ofInt]; omega
   have h3 : (BitVec.ofInt 16 (2 ^ c)).toNat = 2 ^ c := by
    obtain h | h | h | h | h | h | h | h | h | h | h | h | h | h | h | h : c = 0 ∨ c = 1 ∨ c = 2 ∨ c = 3 ∨ c = 4 ∨ c = 5 ∨ c = 6 ∨ c = 7 ∨ c = 8 ∨ c = 9 ∨ c = 10 ∨ c = 11 ∨ c = 12 ∨ c = 13 ∨ c = 14 ∨ c = 15 := by omega
    all_goals (subst h; decide)
   rw [BitVec.testBit_toNat, BitVec.getLsbD_and, BitVec.getLsbD_not, ← BitVec.testBit_toNat, ← BitVec.testBit_toNat, h2, h3, Nat.testBit_two_pow]; have : decide (j < 16) = true := by simp [hj]
   rw [this, Bool.true_and]; congr 1
   by_cases e : c = j
   · subst e; simp
   · have e' : ¬ j = c := fun h => e h.symm; simp [e, e']
theorem goodM_has {m : Int} {n : Nat} (hm : 0 ≤ m ∧ m < 65536) (h : goodM m n = true) : (1 ≤ n ∧ n ≤ 16) ∧ ∃ j : Nat, j < n ∧ hasM m (j : Int) = true := by
 unfold goodM at h; simp only [Bool.and_eq_true, decide_eq_true_eq, bne_iff_ne, ne_eq, beq_iff_eq] at h; obtain ⟨h1, h2, h3, h4⟩ := h; obtain ⟨a, rfl⟩ := Int.eq_ofNat_of_zero_le hm.1; have hn : (1 ≤ n ∧ n ≤ 16) := by omega
 refine ⟨hn, ?_⟩; rw [Int.toNat_natCast] at h4; have h5 : a / 2 ^ n = 0 := by
  have : (a : Int) / 2 ^ n = ((a / 2 ^ n : Nat) : Int) := by
   rw [Int.natCast_ediv]; congr 1
  rw [this] at h4; exact_mod_cast h4
 have hlt : a < 2 ^ n := by
  rcases Nat.div_eq_zero_iff.1 h5 with h | h
  · exact absurd h (by have := Nat.two_pow_pos n; omega)
  · exact h
 have hne : a ≠ 0 := fun e => h3 (by rw [e]; rfl); obtain ⟨j, hj⟩ := Nat.exists_testBit_of_ne_zero hne; have hjn : j < n := by
  by_cases hh : j < n
  · exact hh
  · rw [Nat.testBit_lt_two_pow (Nat.lt_of_lt_of_le hlt (Nat.pow_le_pow_right (by decide) (by omega)))] at hj; cases hj
 exact ⟨j, hjn, by rw [hasM_bit a (by omega) j (by omega)]; exact hj⟩
theorem mem_listM {m : Int} {x : G16} : x ∈ listM m ↔ hasM m x.1 = true := by
 unfold listM; rw [List.mem_filter]; refine ⟨fun h => h.2, fun h => ⟨?_, h⟩⟩; have hx := x.2; unfold all16; refine List.mem_map.2 ⟨⟨x.1.toNat, by omega⟩, List.mem_finRange _, ?_⟩; apply Subtype.ext
 show ((x.1.toNat : Nat) : Int) = x.1; omega
theorem lfold_in {loads : List Int} (P : Int → Prop) : ∀ (xs : List G16) (a : Int × Bool), (a.2 = true → P a.1 ∧ a.1 < loads.length ∧ 0 ≤ a.1) → (∀ x ∈ xs, P x.1) →
 ((xs.foldl (lstep loads) a).2 = true → P (xs.foldl (lstep loads) a).1 ∧ (xs.foldl (lstep loads) a).1 < loads.length ∧ 0 ≤ (xs.foldl (lstep loads) a).1) ∧ ((a.2 = true ∨ ∃ x ∈ xs, x.1 < loads.length) → (xs.foldl (lstep loads) a).2 = true)
 | [], a, h, _ => ⟨h, fun hh => hh.elim id (fun ⟨x, hx, _⟩ => by cases hx)⟩
 | x :: xs, a, h, hp => by
  have hst : (lstep loads a x).2 = true → P (lstep loads a x).1 ∧ (lstep loads a x).1 < loads.length ∧ 0 ≤ (lstep loads a x).1 := by
   unfold lstep; split
   · rename_i hh; exact fun _ => ⟨hp x List.mem_cons_self, hh.1, x.2.1⟩
   · exact h
  obtain ⟨i1, i2⟩ := lfold_in P xs (lstep loads a x) hst (fun y hy => hp y (List.mem_cons_of_mem _ hy)); refine ⟨i1, fun hh => i2 ?_⟩; rcases hh with hh | ⟨y, hy, hlt⟩
  · left
    unfold lstep; split
    · rfl
    · exact hh
  · rcases List.mem_cons.1 hy with rfl | hy
    · left
      unfold lstep; by_cases ha : a.2 = true
      · split
        · rfl
        · exact ha
      · rw [if_pos ⟨hlt, .inl (by simpa using ha)⟩]
    · exact .inr ⟨y, hy, hlt⟩
theorem leastL_good {loads : List Int} {m : Int} {n : Nat} (hl : loads.length = n) (hm : 0 ≤ m ∧ m < 65536) (h : goodM m n = true) : ∃ i : Nat, (leastL loads m).1 = (i : Int) ∧ i < n ∧ hasM m (i : Int) = true ∧ (leastL loads m).2 = true := by
 obtain ⟨hn, j, hj, hh⟩ := goodM_has hm h; obtain ⟨h1, h2⟩ := lfold_in (loads := loads) (fun x => hasM m x = true) (listM m) (0, false) (fun h => by cases h) (fun x hx => mem_listM.1 hx); have h3 := h2 (.inr ⟨⟨(j : Int), by omega, by omega⟩, mem_listM.2 hh, by show (j : Int) < _; omega⟩); obtain ⟨a, b, c⟩ := h1 h3; refine ⟨(leastL loads m).1.toNat, ?_, ?_, ?_, h3⟩
 · unfold leastL; omega
 · unfold leastL; omega
 · have : (((leastL loads m).1.toNat : Nat) : Int) = (leastL loads m).1 := by unfold leastL; omega
   rw [this]; exact a
theorem leastL_some {loads : List Int} {m : Int} (h : (leastL loads m).2 = true) : ∃ i : Nat, (leastL loads m).1 = (i : Int) ∧ i < loads.length ∧ hasM m (i : Int) = true := by
 obtain ⟨h1, -⟩ := lfold_in (loads := loads) (fun x => hasM m x = true) (listM m) (0, false) (fun h => by cases h) (fun x hx => mem_listM.1 hx); obtain ⟨a, b, c⟩ := h1 h; refine ⟨(leastL loads m).1.toNat, ?_, ?_, ?_⟩
 · unfold leastL; omega
 · unfold leastL; omega
 · have : (((leastL loads m).1.toNat : Nat) : Int) = (leastL loads m).1 := by unfold leastL; omega
   rw [this]; exact a
def wT (t : Tk) (w : Int) : Tk := ⟨t.id, w, t.group, t.core, t.state, t.mask, t.lag⟩
theorem TaskAt.setW {W : World} {b : Nat} {t : Tk} (h : TaskAt W b t) (x : Int) : TaskAt (W.setCell ⟨b, 1, none⟩ (.int .i64 x)) b (wT t x) := by
 refine ⟨?_, World.cell?_setCell_same _ _ _ h.w, ?_, ?_, ?_, ?_, ?_, fun i => (World.frozen?_setCell _ _ _ _).trans (h.live i)⟩
 · rw [cell_setCell_ne _ (by simp)]; exact h.id
 · rw [cell_setCell_ne _ (by simp)]; exact h.group
 · rw [cell_setCell_ne _ (by simp)]; exact h.core
 · rw [cell_setCell_ne _ (by simp)]; exact h.state
 · rw [cell_setCell_ne _ (by simp)]; exact h.mask
 · rw [cell_setCell_ne _ (by simp)]; exact h.lag
theorem weigh_none (sb gb nb pb mb n : Nat) (cv : Value) (D : DataW Unit) (cbs : List Nat) (tb : Int → Nat) (own : Nat → Option Own) (s : Sy) (id w : Int) (W : World) (h : SysAt W sb gb nb pb mb n cv D cbs tb own s)
 (h1 : -9223372036854775808 ≤ id) (h2 : id ≤ 9223372036854775807) (ht : s.tasks id = none) :
 Calls Tryz.prog 52 #[.pointer (some ⟨sb, 0, none⟩), .int .i64 id, .int .i64 w] W fun e w' => e = .returned (.int .i64 2) ∧ W = w' := by
 have hl := h.look id h1 h2; rw [ht] at hl; simp only at hl; have c67 := h.c67; clear h ht; go_enter Tryz.func52, Tryz.ntmps52; go_wp2_with fail
 go_ret
 exact ⟨rfl, rfl⟩
theorem weigh_bad (sb gb nb pb mb n : Nat) (cv : Value) (D : DataW Unit) (cbs : List Nat) (tb : Int → Nat) (own : Nat → Option Own) (s : Sy) (id w : Int) (t : Tk) (W : World) (h : SysAt W sb gb nb pb mb n cv D cbs tb own s)
 (h1 : -9223372036854775808 ≤ id) (h2 : id ≤ 9223372036854775807) (ht : s.tasks id = some t) (hw : goodW w = false) :
 Calls Tryz.prog 52 #[.pointer (some ⟨sb, 0, none⟩), .int .i64 id, .int .i64 w] W fun e w' => e = .returned (.int .i64 1) ∧ W = w' := by
 have hl := h.look id h1 h2; rw [ht] at hl; simp only at hl; have c67 := h.c67; have hgood := wgood_any w W; rw [hw] at hgood; generalize tb id = b at hl; clear h ht hw; go_enter Tryz.func52, Tryz.ntmps52; go_wp2_with fail
 refine hgood.mono ?_; rintro e w' ⟨rfl, rfl⟩; go_wp2_with fail
 go_ret
 exact ⟨rfl, rfl⟩
theorem weigh_off (sb gb nb pb mb n : Nat) (cv : Value) (D : DataW Unit) (cbs : List Nat) (tb : Int → Nat) (own : Nat → Option Own) (s : Sy) (id w : Int) (t : Tk) (W : World) (h : SysAt W sb gb nb pb mb n cv D cbs tb own s)
 (h1 : -9223372036854775808 ≤ id) (h2 : id ≤ 9223372036854775807) (ht : s.tasks id = some t) (hw : goodW w = true) (h5 : t.state ≠ 2) :
 Calls Tryz.prog 52 #[.pointer (some ⟨sb, 0, none⟩), .int .i64 id, .int .i64 w] W fun e w' => e = .returned (.int .i64 0) ∧ YP sb gb nb pb mb n cv D cbs tb own (setTk s id (wT t w)) W w' := by
 have hl := h.look id h1 h2; rw [ht] at hl; simp only at hl; have c67 := h.c67; obtain ⟨hT, hown⟩ := h.task id t ht; have q1 := hT.w; have f1 := hT.live 1; have q4 := hT.state; have hgood := wgood_any w W; rw [hw] at hgood; have he : (t.state == 2) = false := by simpa using h5
 have HS := lH h; have HT := lH ht; have HTT := lH hT; have HO := lH hown; obtain ⟨b, hb⟩ : ∃ b, tb id = b := ⟨_, rfl⟩
 rw [hb] at hl q1 f1 q4; have HB := lH hb; clear h ht hT h5 hown hb hw; go_enter Tryz.func52, Tryz.ntmps52; go_wp2_with fail
 refine hgood.mono ?_; rintro e w' ⟨rfl, rfl⟩; go_wp2_with fail
 go_ret
 exact ⟨rfl, own, HS.out.setTask HT.out (by rw [HB.out]; have := HTT.out; rw [HB.out] at this; exact this.setW w) (by rw [HB.out]; exact touch1 _ _ _ _), fun _ _ => rfl, (touch1 _ _ _ _).wider (fun k hk => by rw [hk, ← HB.out, HO.out]; simp)⟩
set_option maxRecDepth 100000 in
theorem weigh_ok (sb gb nb pb mb n : Nat) (cv : Value) (D : DataW Unit) (cbs : List Nat) (tb : Int → Nat) (own : Nat → Option Own) (s : Sy) (id w : Int) (t : Tk) (i : Nat) (W : World) (h : SysAt W sb gb nb pb mb n cv D cbs tb own s)
 (h1 : -9223372036854775808 ≤ id) (h2 : id ≤ 9223372036854775807) (ht : s.tasks id = some t) (hw : goodW w = true) (h5 : t.state = 2) (hi : t.core = (i : Int)) (hil : i < cbs.length) (hf : FitsY s) (hr : (coreWeigh s.cores[i]! id w).1 = 0) :
 Calls Tryz.prog 52 #[.pointer (some ⟨sb, 0, none⟩), .int .i64 id, .int .i64 w] W fun e w' => e = .returned (.int .i64 0) ∧ YP sb gb nb pb mb n cv D cbs tb own (setTk (setCo s i (coreWeigh s.cores[i]! id w).2) id (wT t w)) W w' := by
 have hl := h.look id h1 h2; rw [ht] at hl; simp only at hl; have c67 := h.c67; obtain ⟨hT, hown⟩ := h.task id t ht; have q4 := hT.state; rw [h5] at q4; have hgood := wgood_any w W; rw [hw] at hgood; obtain ⟨g, c, hcv⟩ := h.form (by omega); have hci := h.core i hil; have hfi := hf i (by rw [← h.num]; exact hil); obtain ⟨b, hb⟩ : ∃ b, tb id = b := ⟨_, rfl⟩
 obtain ⟨cb, hcb⟩ : ∃ cb, cbs[i]! = cb := ⟨_, rfl⟩
 rw [hb] at hl q4; rw [hcb] at hci; have hce : ∀ W', W'.heap = W.heap → Calls Tryz.prog 108 #[.pointer (some ⟨cb, 0, none⟩), .int .i64 id, .int .i64 w] W' (CEnterP cb (fun k => own k = some (.core i)) (coreWeigh s.cores[i]! id w) W') := fun W' hW' =>
  cweigh_any cb _ s.cores[i]! id w W' (hci.same (by rw [hW']; exact Nat.le_refl _) (fun k _ => by rw [hW'])) hfi
 obtain ⟨r, hrr⟩ : ∃ r, coreWeigh s.cores[i]! id w = r := ⟨_, rfl⟩
 rw [hrr] at hce hr ⊢; obtain ⟨m, hm⟩ : ∃ m, cbs.length = m := ⟨_, rfl⟩
 have hi1 : (i : Int) < (m : Int) := by omega
 have hi0 : 0 ≤ (i : Int) := by omega
 have k1 : W.cell? ⟨sb, 0, none⟩ = some (.slice (some ⟨g, 0, none⟩) m c) := h.head.trans (by rw [hcv, hm])
 have k2 : W.cell? ⟨g, i, none⟩ = some (.pointer (some ⟨cb, 0, none⟩)) := by
  have hcv' := hcv; subst hcv'; rw [← hcb]; exact h.coreCell i hil
 have k3 : W.cell? ⟨b, 3, none⟩ = some (.int .i64 i) := by rw [← hb, ← hi]; exact hT.core
 have hg : own g = some .row := h.rown g (by rw [hcv]; rfl); have HE : Hid (∀ W' : World, (∀ x, own x ≠ some (.core i) → x < W.heap.size → W'.heap[x]? = W.heap[x]?) →
  (W'.cell? ⟨sb, 0, none⟩ = some (.slice (some ⟨g, 0, none⟩) m c) ∧ W'.cell? ⟨g, i, none⟩ = some (.pointer (some ⟨cb, 0, none⟩))) ∧ W'.cell? ⟨b, 3, none⟩ = some (.int .i64 i)) := lH (fun W' hW' => by
  have e : ∀ y x, own y = some x → x ≠ .core i → W'.heap[y]? = W.heap[y]? := fun y x hy hx => hW' y (by rw [hy]; simpa using hx) (h.lt y (by rw [hy]; simp)); have e1 := e sb _ h.osb (by simp); have e2 := e g _ hg (by simp); have e3 := e b _ (by rw [← hb]; exact hown) (by simp); exact ⟨⟨(World.cell?_of_block (a := ⟨sb, 0, none⟩) e1).trans k1, (World.cell?_of_block (a := ⟨g, i, none⟩) e2).trans k2⟩, (World.cell?_of_block (a := ⟨b, 3, none⟩) e3).trans k3⟩)
 have HS := lH h; have HT := lH ht; have HB := lH hb; have HCB := lH hcb; have HIL := lH hil; have HTO := lH hown; have HR := lH hr; clear h ht hT hw h5 hown hb hi hil hf hci hfi hcb hm hg hcv hr hrr; go_enter Tryz.func52, Tryz.ntmps52; go_wp2_with fail
 refine hgood.mono ?_; rintro e w' ⟨rfl, rfl⟩; go_wp2_with fail
 go_region_held3 (fun W2 => (W2.cell? ⟨sb, 0, none⟩ = some (.slice (some ⟨g, 0, none⟩) m c) ∧ W2.cell? ⟨g, i, none⟩ = some (.pointer (some ⟨cb, 0, none⟩))) ∧ W2.cell? ⟨b, 3, none⟩ = some (.int .i64 i)) (first | exact ⟨⟨k1, k2⟩, k3⟩ | exact hE9) (first | (go_at_call 108; refine (hce W.drew rfl).mono ?_; rintro e w9 ⟨rfl, hC9⟩; have hE9 := HE.out w9 (fun j hj hjl => hC9.choose_spec.2.1.block j hjl hj)) | fail)
 obtain ⟨F', c1, c2, c3⟩ := hC9; have ht9 : Touch (fun k => own k = some (.core i)) W w9 := ((Touch.refl _ W).drew).self c2; obtain ⟨own', hS9, ho9⟩ := HS.out.setCore (i := i) HIL.out (by rw [HCB.out]; exact c1) ht9 (fun k hk => c3 k hk); have HS9 : Hid (SysAt w9 sb gb nb pb mb n cv D cbs tb own' (setCo s i r.2)) := lH hS9; have HO9 := lH ho9; have HT9 := lH ht9; have hT9 := HS9.out.task id t HT.out; have HTT := lH hT9; rw [HB.out] at hT9; have f1 := hT9.1.live 1; have q1 := hT9.1.w; have hr0 := HR.out; clear hE9 c1 c2 c3 ht9 hS9 ho9 k1 k2 k3 hT9 hce; obtain ⟨r1, rc⟩ := r; simp only at hr0; subst hr0; simp only at HS9 ⊢; go_wp2_with fail
 go_ret
 have hTT := HTT.out; rw [HB.out] at hTT; refine ⟨rfl, own', HS9.out.setTask HT.out (by rw [HB.out]; exact hTT.1.setW _) (by rw [HB.out]; exact touch1 _ _ _ _), HO9.out, ?_⟩; have e1 : Touch (fun k => own k ≠ none) W w9 := HT9.out.wider (fun k hk => by rw [hk]; simp); exact e1.self ((touch1 w9 b 1 (.int .i64 w)).wider (fun k hk => by rw [hk, ← HB.out, HTO.out]; simp))
end Go.Proofs.YtoiajjobecinpaaGreat
