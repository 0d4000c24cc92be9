/- swap.Try where there is none; Step. Abort. Force. Cut. Spoil. A blow befalls a try. One core, tasks that are all ready o -/
import Derived.Test.YtoiajjobecinpaaGreatTA27
set_option maxHeartbeats 4000000
namespace Go.Proofs.YtoiajjobecinpaaGreat
open Go.RowKit Go.Shelf Go.Lib Go.Proofs
set_option linter.unusedVariables false
set_option linter.unusedSimpArgs false
section
attribute [local go_sem] Oper.semAt_some
theorem try_none (wb sb mb sn : Nat) (av : Value) (DD : DataW Unit) (m : Nat) (tbs : List Nat) (ttb : Int → Nat) (L : Int → Option Tr) (ow : Nat → Option OwnW)
 (gb nb pb mb' n : Nat) (cv : Value) (D : DataW Unit) (cbs : List Nat) (tb : Int → Nat) (own : Nat → Option Own) (s : Sy) (i : Nat) (W : World)
 (hw : SwAt W wb sb mb sn av DD m tbs ttb cbs L ow) (h : SysAt W sb gb nb pb mb' n cv D cbs tb own s) (hi : i < cbs.length) (hi2 : i < 1000000) (ht : L i = none) :
 Calls Tryz.prog 123 #[.pointer (some ⟨wb, 0, none⟩), .int .i64 i] W fun e w' => e = .returned (.tuple #[.pointer none, .int .i64 14]) ∧ W = w' := by
 have hcore := ycore_any sb gb nb pb mb' n cv D cbs tb own s i _ h hi; have hl := hw.look i (by omega) (by omega); rw [ht] at hl; simp only at hl; have c0 := hw.c0; have c1 := hw.c1; generalize cbs[i]! = cb at hcore; clear hw h ht; go_enter Tryz.func123, Tryz.ntmps123; go_wp2_with fail
 refine hcore.mono ?_; rintro e w1 ⟨rfl, rfl⟩; go_wp2_with fail
 go_ret2
 exact ⟨rfl, rfl⟩
theorem try_bad (wb sb mb sn : Nat) (av : Value) (DD : DataW Unit) (m : Nat) (tbs : List Nat) (ttb : Int → Nat) (L : Int → Option Tr) (ow : Nat → Option OwnW)
 (gb nb pb mb' n : Nat) (cv : Value) (D : DataW Unit) (cbs : List Nat) (tb : Int → Nat) (own : Nat → Option Own) (s : Sy) (z : Int) (W : World)
 (hw : SwAt W wb sb mb sn av DD m tbs ttb cbs L ow) (h : SysAt W sb gb nb pb mb' n cv D cbs tb own s) (hi : z < 0 ∨ (cbs.length : Int) ≤ z) :
 Calls Tryz.prog 123 #[.pointer (some ⟨wb, 0, none⟩), .int .i64 z] W fun e w' => e = .returned (.tuple #[.pointer none, .int .i64 2]) ∧ W = w' := by
 have hcore := ycore_bad sb gb nb pb mb' n cv D cbs tb own s z _ h hi; have c0 := hw.c0; clear hw h hi; go_enter Tryz.func123, Tryz.ntmps123; go_wp2_with fail
 refine hcore.mono ?_; rintro e w1 ⟨rfl, rfl⟩; go_wp2_with fail
 go_ret2
 exact ⟨rfl, rfl⟩
theorem trystep_over (tb cb : Nat) (t : Tr) (W : World) (h : TryC W tb cb t) (h5 : 5 ≤ t.stg) :
 Calls Tryz.prog 124 #[.pointer (some ⟨tb, 0, none⟩)] W fun e w' => e = .returned (.tuple #[.int .i64 t.stg, .int .i64 t.why]) ∧ ∃ q, w' = W.drewN q := by
 have ho := over_any tb cb t W h; rw [decide_eq_true h5] at ho; have h3 := h.get 3 (.int .i64 t.stg) rfl; have h4 := h.get 4 (.int .i64 t.why) rfl; clear h h5; go_enter Tryz.func124, Tryz.ntmps124; go_wp2_with fail
 refine ho.mono ?_; rintro e w1 ⟨rfl, rfl⟩; go_wp2_with fail
 go_quiet (fail)
 go_wp2_with fail
 go_ret2
 exact ⟨rfl, _, rfl⟩
def SwStepP (wb sb m : Nat) (s : Sy) (cbs : List Nat) (L : Int → Option Tr) (own : Nat → Option Own) (ow : Nat → Option OwnW) (i : Nat) (t : Tr) (W : World) (e : Ending) (w' : World) : Prop :=
 ∃ (t' : Tr) (c' : Co) (own' : Nat → Option Own) (ow' : Nat → Option OwnW), e = .returned (.tuple #[.int .i64 t'.stg, .int .i64 t'.why]) ∧ Both w' wb sb (setCo s i c') m cbs (setL L i t') own' ow' ∧ (0 ≤ t'.stg ∧ t'.stg ≤ 6) ∧ (t'.stg ≠ 6 → t'.tag = t.tag ∧ t'.base = t.base) ∧
  ChR s.cores[i]! c' t.tag t.base ∧ Touch (fun k => own k ≠ none ∨ ow k ≠ none) W w' ∧ (∀ k, (own' k ≠ none ∨ ow' k ≠ none) → (own k ≠ none ∨ ow k ≠ none) ∨ W.heap.size ≤ k)
theorem setL_self {L : Int → Option Tr} {i : Int} {t : Tr} (h : L i = some t) : setL L i t = L := by
 funext x; unfold setL; split
 · rename_i e; rw [e, h]
 · rfl
theorem trystep_both (wb sb m mb' n' : Nat) (av : Value) (D' : DataW Unit) (tbs : List Nat) (ttb : Int → Nat) (s : Sy) (cbs : List Nat) (L : Int → Option Tr) (own : Nat → Option Own) (ow : Nat → Option OwnW) (i : Nat) (t : Tr) (W : World)
 (hy : ∃ gb nb pb mb n cv D tb, SysAt W sb gb nb pb mb n cv D cbs tb own s) (hW : SwAt W wb sb mb' n' av D' m tbs ttb cbs L ow) (hd : ∀ k, ow k ≠ none → own k = none) (hi : i < cbs.length) (ht : L i = some t) (hf : Fits s.cores[i]!.l) (h0 : 0 ≤ t.stg ∧ t.stg ≤ 6) :
 Calls Tryz.prog 124 #[.pointer (some ⟨ttb i, 0, none⟩)] W (SwStepP wb sb m s cbs L own ow i t W) := by
 obtain ⟨gb, nb, pb, mb, n, cv, D, tb, hS⟩ := hy; have hT := (hW.tries i t ht).2; simp only [Int.toNat_natCast] at hT; have hgl : i < s.cores.length := by rw [← hS.num]; exact hi
 by_cases h5 : 5 ≤ t.stg
 · refine (trystep_over _ _ t W hT.at_ h5).mono ?_; rintro e w' ⟨rfl, q, rfl⟩; have hb : Below W.heap.size W (W.drewN q) := below_drewN (Below.refl _ _) _; exact ⟨t, s.cores[i]!, own, ow, rfl, by rw [setCo_self s i hgl, setL_self ht]; exact ⟨⟨gb, nb, pb, mb, n, cv, D, tb, hS.below hb⟩, ⟨mb', n', av, D', tbs, ttb, hW.below hb⟩, hd⟩, h0, fun _ => ⟨rfl, rfl⟩, .inl rfl, Touch.of_below hb, fun k hk => .inl hk⟩
 · have hcore := hS.core i hi; have hdx : ∀ k, ow k = some (.attempt i) → own k = none := fun k hk => hd k (by rw [hk]; simp); have hcb : own cbs[i]! = some (.core i) := by
    obtain ⟨_, _, _, _, _, _, _, _, _, _, _, _, _, _, h9, _⟩ := hcore; exact h9
   refine (trystep_any (ttb i) cbs[i]! (fun k => own k = some (.core i)) (fun k => ow k = some (.attempt i)) s.cores[i]! t W hT hcore hf (fun k hk e => by rw [hdx k hk] at e; cases e) h0.1 (by omega)).mono ?_; rintro e w' ⟨t', c2, F', X', he, hT', hC', hXF, hst, htag, hc2, hto2, hF1, hF2, hX1⟩; obtain ⟨own', ow', hy', hw', hd', hall⟩ := Both.step (wb := wb) (i := i) ⟨gb, nb, pb, mb, n, cv, D, tb, hS⟩ hW hd hi ht hT' hC' hXF hto2 hF1 hX1; refine ⟨t', c2, own', ow', he, ⟨hy', ⟨mb', n', av, D', tbs, ttb, hw'⟩, hd'⟩, by omega, htag, hc2, hto2.wider (fun k hk => ?_), hall⟩; rcases hk with hk | hk
   · exact .inr (by rw [hk]; simp)
   · subst hk; exact .inl (by rw [hcb]; simp)
set_option maxRecDepth 100000 in
theorem swstep_any (wb sb m : Nat) (s : Sy) (cbs : List Nat) (L : Int → Option Tr) (own : Nat → Option Own) (ow : Nat → Option OwnW) (i : Nat) (t : Tr) (W : World) (h : Both W wb sb s m cbs L own ow) (hi : i < cbs.length) (hi2 : i < 1000000) (ht : L i = some t) (hf : Fits s.cores[i]!.l) (h0 : 0 ≤ t.stg ∧ t.stg ≤ 6) :
 Calls Tryz.prog 59 #[.pointer (some ⟨wb, 0, none⟩), .int .i64 i] W (SwStepP wb sb m s cbs L own ow i t W) := by
 obtain ⟨hy, ⟨mb', n', av, D', tbs, ttb, hW⟩, hd⟩ := h; have hst := trystep_both wb sb m mb' n' av D' tbs ttb s cbs L own ow i t W hy hW hd hi ht hf h0; obtain ⟨gb, nb, pb, mb, n, cv, D, tb, hS⟩ := hy; have htr := try_some wb sb mb' n' av D' m tbs ttb L ow gb nb pb mb n cv D cbs tb own s i t W hW hS hi hi2 ht; generalize ttb i = b at hst htr; generalize hP : SwStepP wb sb m s cbs L own ow i t W = P at hst ⊢; have HP : Hid (∀ e w', P e w' → ∃ x y : Int, e = .returned (.tuple #[.int .i64 x, .int .i64 y])) := lH (fun e w' h => by rw [← hP] at h; obtain ⟨t', _, _, _, he, _⟩ := h; exact ⟨_, _, he⟩); clear hS hW hd hi hi2 ht hf h0 hP; go_enter Tryz.func59, Tryz.ntmps59; go_wp2_with fail
 refine htr.mono ?_; rintro e w1 ⟨rfl, rfl⟩; go_wp2_with fail
 refine hst.mono ?_; rintro e w2 hp; obtain ⟨x, y, rfl⟩ := HP.out e w2 hp; have HPP := lH hp; clear hp; go_wp2_with fail
 (try go_ret2)
 exact HPP.out
end
section
attribute [local go_sem] Oper.semAt_some
theorem tabort_over (tb cb : Nat) (t : Tr) (W : World) (h : TryC W tb cb t) (h5 : 5 ≤ t.stg) :
 Calls Tryz.prog 125 #[.pointer (some ⟨tb, 0, none⟩)] W fun e w' => e = .returned (.bool false) ∧ W = w' := by
 have ho := over_any tb cb t W h; rw [decide_eq_true h5] at ho; clear h h5; go_enter Tryz.func125, Tryz.ntmps125; go_wp2_with fail
 refine ho.mono ?_; rintro e w1 ⟨rfl, rfl⟩; go_wp2_with fail
 go_ret
 exact ⟨rfl, rfl⟩
theorem tabort_open (tb cb : Nat) (t : Tr) (W : World) (h : TryC W tb cb t) (h5 : ¬ 5 ≤ t.stg) :
 Calls Tryz.prog 125 #[.pointer (some ⟨tb, 0, none⟩)] W fun e w' => e = .returned (.bool true) ∧ TryC w' tb cb { t with stg := 6, why := 13 } ∧ Touch (fun k => k = tb) W w' := by
 have ho := over_any tb cb t W h; rw [decide_eq_false h5] at ho; have hfl := fail_any tb cb t 13 W h; clear h h5; go_enter Tryz.func125, Tryz.ntmps125; go_wp2_with fail
 refine ho.mono ?_; rintro e w1 ⟨rfl, rfl⟩; go_wp2_with fail
 refine hfl.mono ?_; rintro e w2 ⟨rfl, h1, h2⟩; have H1 := lH h1; have H2 := lH h2; clear h1 h2; go_wp2_with fail
 go_ret
 exact ⟨rfl, H1.out, H2.out⟩
def SwLetP (wb sb m : Nat) (s : Sy) (cbs : List Nat) (L : Int → Option Tr) (own : Nat → Option Own) (ow : Nat → Option OwnW) (i : Nat) (t : Tr) (W w' : World) : Prop :=
 ∃ (t' : Tr) (own' : Nat → Option Own) (ow' : Nat → Option OwnW), Both w' wb sb s m cbs (setL L i t') own' ow' ∧ (0 ≤ t'.stg ∧ t'.stg ≤ 6) ∧ (t'.stg ≠ 6 → t'.tag = t.tag ∧ t'.base = t.base) ∧
  Touch (fun k => own k ≠ none ∨ ow k ≠ none) W w' ∧ (∀ k, (own' k ≠ none ∨ ow' k ≠ none) → (own k ≠ none ∨ ow k ≠ none) ∨ W.heap.size ≤ k)
set_option maxRecDepth 100000 in
theorem swabort_any (wb sb m : Nat) (s : Sy) (cbs : List Nat) (L : Int → Option Tr) (own : Nat → Option Own) (ow : Nat → Option OwnW) (i : Nat) (t : Tr) (W : World) (h : Both W wb sb s m cbs L own ow) (hi : i < cbs.length) (hi2 : i < 1000000) (ht : L i = some t) (h0 : 0 ≤ t.stg ∧ t.stg ≤ 6) :
 Calls Tryz.prog 60 #[.pointer (some ⟨wb, 0, none⟩), .int .i64 i] W fun e w' => (∃ er : Int, e = .returned (.int .i64 er)) ∧ SwLetP wb sb m s cbs L own ow i t W w' := by
 obtain ⟨hy, ⟨mb', n', av, D', tbs, ttb, hW⟩, hd⟩ := h; have hT := (hW.tries i t ht).2; simp only [Int.toNat_natCast] at hT; obtain ⟨gb, nb, pb, mb, n, cv, D, tb, hS⟩ := hy; have hgl : i < s.cores.length := by rw [← hS.num]; exact hi
 have htr := try_some wb sb mb' n' av D' m tbs ttb L ow gb nb pb mb n cv D cbs tb own s i t W hW hS hi hi2 ht; have hSelf : SwLetP wb sb m s cbs L own ow i t W W := ⟨t, own, ow, by rw [setL_self ht]; exact ⟨⟨gb, nb, pb, mb, n, cv, D, tb, hS⟩, ⟨mb', n', av, D', tbs, ttb, hW⟩, hd⟩, h0, fun _ => ⟨rfl, rfl⟩, Touch.refl _ _, fun k hk => .inl hk⟩
 have hX : ow (ttb i) = some (.attempt i) := hT.here; have hdx : ∀ k, ow k = some (.attempt i) → own k = none := fun k hk => hd k (by rw [hk]; simp); have hFail : ∀ w', TryC w' (ttb i) cbs[i]! { t with stg := 6, why := 13 } → Touch (fun k => k = ttb i) W w' → SwLetP wb sb m s cbs L own ow i t W w' := fun w' hc hto => by
  have hcore := hS.core i hi; have hC' : CoreIn w' cbs[i]! (fun k => own k = some (.core i)) s.cores[i]! := hcore.tb hto (fun e => by rw [hdx _ hX] at e; cases e); have hTI : TryIn w' (ttb i) cbs[i]! { t with stg := 6, why := 13 } (fun k => k = ttb i) := ⟨hc, rfl, fun k hk => hk ▸ hc.lt, fun h => absurd h (by simp), fun h => by rcases h with h | h <;> exact absurd h (by simp)⟩
  obtain ⟨own', ow', hy', hw', hd', hall⟩ := Both.step (wb := wb) (i := i) (c' := s.cores[i]!) ⟨gb, nb, pb, mb, n, cv, D, tb, hS⟩ hW hd hi ht hTI hC' (fun k hk e => by subst hk; rw [hdx _ hX] at e; cases e) (hto.wider (fun k hk => .inl (by rw [hk]; exact hX))) (fun k hk => .inl hk) (fun k hk => .inl (by rw [hk]; exact hX)); rw [setCo_self s i hgl] at hy'; exact ⟨_, own', ow', ⟨hy', ⟨mb', n', av, D', tbs, ttb, hw'⟩, hd'⟩, by simp, fun h => absurd rfl h, hto.wider (fun k hk => .inr (by rw [hk, hX]; simp)), hall⟩
 have HSelf := lH hSelf; have HFail := lH hFail; have ho := tabort_over (ttb i) cbs[i]! t W hT.at_; have ha := tabort_open (ttb i) cbs[i]! t W hT.at_; generalize ttb i = b at htr ho ha HFail; obtain ⟨P, hP⟩ : ∃ P, SwLetP wb sb m s cbs L own ow i t W = P := ⟨_, rfl⟩
 rw [hP] at HSelf HFail ⊢; clear hS hW hd hi hi2 ht h0 hSelf hFail hP hX hdx hT hgl; by_cases h5 : 5 ≤ t.stg
 · have hov := ho h5; clear ho ha h5; go_enter Tryz.func60, Tryz.ntmps60; go_wp2_with fail
   refine htr.mono ?_; rintro e w1 ⟨rfl, rfl⟩; go_wp2_with fail
   refine hov.mono ?_; rintro e w1 ⟨rfl, rfl⟩; go_wp2_with fail
   go_ret
   exact ⟨⟨_, rfl⟩, HSelf.out⟩
 · have hab := ha h5; clear ho ha h5; go_enter Tryz.func60, Tryz.ntmps60; go_wp2_with fail
   refine htr.mono ?_; rintro e w1 ⟨rfl, rfl⟩; go_wp2_with fail
   refine hab.mono ?_; rintro e w1 ⟨rfl, h1, h2⟩; have HR := lH (HFail.out w1 h1 h2); clear h1 h2; go_wp2_with fail
   go_ret
   exact ⟨⟨_, rfl⟩, HR.out⟩
end
section
attribute [local go_sem] Oper.semAt_some
def SameT (t t' : Tr) : Prop := t'.tag = t.tag ∧ t'.base = t.base ∧ t'.stg = t.stg ∧ t'.why = t.why ∧ t'.age = t.age ∧ t'.b = t.b ∧ t'.q = t.q
theorem TryC.setF {W : World} {tb cb : Nat} {t : Tr} (h : TryC W tb cb t) (k : Nat) (hk : k < 6) : ∃ t', TryC (W.setCell ⟨tb, 8 + k, none⟩ (.bool true)) tb cb t' ∧ SameT t t' := by
 have hh : ∀ t', (trC cb t').toList = (trC cb t).toList.set (8 + k) (.bool true) → TryC (W.setCell ⟨tb, 8 + k, none⟩ (.bool true)) tb cb t' := fun t' e => by
  unfold TryC at h ⊢; have e2 : trC cb t' = (trC cb t).set! (8 + k) (.bool true) := by
   apply Array.ext'
   simpa using e
  rw [e2]; simp [World.setCell, Array.getElem?_modify, h]
 obtain rfl | rfl | rfl | rfl | rfl | rfl : k = 0 ∨ k = 1 ∨ k = 2 ∨ k = 3 ∨ k = 4 ∨ k = 5 := by omega
 · exact ⟨{ t with f0 := true }, hh _ rfl, rfl, rfl, rfl, rfl, rfl, rfl, rfl⟩
 · exact ⟨{ t with f1 := true }, hh _ rfl, rfl, rfl, rfl, rfl, rfl, rfl, rfl⟩
 · exact ⟨{ t with f2 := true }, hh _ rfl, rfl, rfl, rfl, rfl, rfl, rfl, rfl⟩
 · exact ⟨{ t with f3 := true }, hh _ rfl, rfl, rfl, rfl, rfl, rfl, rfl, rfl⟩
 · exact ⟨{ t with f4 := true }, hh _ rfl, rfl, rfl, rfl, rfl, rfl, rfl, rfl⟩
 · exact ⟨{ t with f5 := true }, hh _ rfl, rfl, rfl, rfl, rfl, rfl, rfl, rfl⟩
set_option maxRecDepth 100000 in
theorem tforce_any (tb cb : Nat) (t : Tr) (x : Int) (W : World) (h : TryC W tb cb t) :
 Calls Tryz.prog 169 #[.pointer (some ⟨tb, 0, none⟩), .int .i64 x] W fun e w' => (∃ r : Bool, e = .returned (.bool r)) ∧ ∃ t', TryC w' tb cb t' ∧ SameT t t' ∧ Touch (fun k => k = tb) W w' := by
 have ho := over_any tb cb t W h; have h3 := h.get 3 (.int .i64 t.stg) rfl; have H := lH h; have HSelf : Hid (∃ t', TryC W tb cb t' ∧ SameT t t' ∧ Touch (fun k => k = tb) W W) := lH ⟨t, h, ⟨rfl, rfl, rfl, rfl, rfl, rfl, rfl⟩, Touch.refl _ _⟩; obtain ⟨sg, hsg⟩ : ∃ x, t.stg = x := ⟨_, rfl⟩
 rw [hsg] at ho h3; clear hsg; by_cases h5 : 5 ≤ sg
 · rw [decide_eq_true h5] at ho; clear h; go_enter Tryz.func169, Tryz.ntmps169; go_wp2_with fail
   refine ho.mono ?_; rintro e w1 ⟨rfl, rfl⟩; go_wp2_with fail
   go_ret
   exact ⟨⟨_, rfl⟩, HSelf.out⟩
 · rw [decide_eq_false h5] at ho; by_cases hx : 1 ≤ x ∧ x ≤ 5
   · by_cases hs : x ≤ sg
     · obtain ⟨x1, x2⟩ := hx; clear h; go_enter Tryz.func169, Tryz.ntmps169; go_wp2_with fail
       refine ho.mono ?_; rintro e w1 ⟨rfl, rfl⟩; go_wp2_with fail
       go_ret
       exact ⟨⟨_, rfl⟩, HSelf.out⟩
     · obtain ⟨x1, x2⟩ := hx; obtain ⟨k, rfl⟩ := Int.eq_ofNat_of_zero_le (show 0 ≤ x by omega); have hk : k < 6 := by omega
       have HF := lH (h.setF k hk); have hcell : ∃ v, W.cell? ⟨tb, 8 + k, none⟩ = some v := by
        have : ∃ v, (trC cb t)[8 + k]? = some v := by
         have hl : 8 + k < (trC cb t).size := by show 8 + k < 14; omega
         exact ⟨_, Array.getElem?_eq_getElem hl⟩
        obtain ⟨v, hv⟩ := this; exact ⟨v, h.get _ v hv⟩
       obtain ⟨v, hv⟩ := hcell; have hfr := h.frozen (8 + k); have k6 : (k : Int) < 6 := by omega
       clear h; go_enter Tryz.func169, Tryz.ntmps169; go_wp2_with fail
       refine ho.mono ?_; rintro e w1 ⟨rfl, rfl⟩; go_wp2_with fail
       go_ret
       obtain ⟨t', a, b⟩ := HF.out; exact ⟨⟨_, rfl⟩, t', a, b, touch1 _ _ _ _⟩
   · clear h; by_cases hx1 : x < 1
     · clear hx; go_enter Tryz.func169, Tryz.ntmps169; go_wp2_with fail
       refine ho.mono ?_; rintro e w1 ⟨rfl, rfl⟩; go_wp2_with fail
       go_ret
       exact ⟨⟨_, rfl⟩, HSelf.out⟩
     · have hx2 : 5 < x := by omega
       clear hx; go_enter Tryz.func169, Tryz.ntmps169; go_wp2_with fail
       refine ho.mono ?_; rintro e w1 ⟨rfl, rfl⟩; go_wp2_with fail
       go_ret
       exact ⟨⟨_, rfl⟩, HSelf.out⟩
end
section
attribute [local go_sem] Oper.semAt_some
def AnyB (e : Ending) : Prop := ∃ r : Bool, e = .returned (.bool r)
theorem tcut_not (tb cb : Nat) (t : Tr) (x : Int) (W : World) (h : TryC W tb cb t) (h2 : t.stg ≠ 2) :
 Calls Tryz.prog 168 #[.pointer (some ⟨tb, 0, none⟩), .int .i64 x] W fun e w' => e = .returned (.bool false) ∧ W = w' := by
 have h3 := h.get 3 (.int .i64 t.stg) rfl; clear h; go_enter Tryz.func168, Tryz.ntmps168; go_wp2_with fail
 go_ret
 exact ⟨rfl, rfl⟩
set_option maxRecDepth 100000 in
theorem tcut_any (tb cb : Nat) (t : Tr) (x : Int) (a : Option Addr) (n d : Nat) (W : World) (h : TryC W tb cb t) (h2 : t.stg = 2) (hb : t.b = .slice a n d) (hnd : n ≤ d) (hd : d ≤ 9223372036854775807) :
 Calls Tryz.prog 168 #[.pointer (some ⟨tb, 0, none⟩), .int .i64 x] W fun e w' => AnyB e ∧ ∃ k : Nat, k ≤ n ∧ TryC w' tb cb { t with b := .slice a k d } ∧ Touch (fun k => k = tb) W w' := by
 have h3 := h.get 3 (.int .i64 t.stg) rfl; have h6 := h.get 6 t.b rfl; rw [h2] at h3; rw [hb] at h6; have f6 := h.frozen 6; have HSelf : Hid (∃ k : Nat, k ≤ n ∧ TryC W tb cb { t with b := .slice a k d } ∧ Touch (fun k => k = tb) W W) := lH ⟨n, Nat.le_refl _, by rw [← hb]; exact h, Touch.refl _ _⟩; have HB : Hid (∀ k : Nat, TryC (W.setCell ⟨tb, 6, none⟩ (.slice a k d)) tb cb { t with b := .slice a k d }) := lH (fun k => h.setB _); clear h hb h2; by_cases hx : x < 1
 · go_enter Tryz.func168, Tryz.ntmps168; go_wp2_with fail
   go_ret
   exact ⟨⟨_, rfl⟩, HSelf.out⟩
 · obtain ⟨k, rfl⟩ := Int.eq_ofNat_of_zero_le (show 0 ≤ x by omega); by_cases hk : (n : Int) < (k : Int)
   · go_enter Tryz.func168, Tryz.ntmps168; go_wp2_with fail
     go_ret
     exact ⟨⟨_, rfl⟩, HSelf.out⟩
   · have hn : ∃ j : Nat, n = j + k := ⟨n - k, by omega⟩
     obtain ⟨j, rfl⟩ := hn; go_enter Tryz.func168, Tryz.ntmps168; have hw : IntKind.i64.wrap (j : Int) = (j : Int) := by rw [IntKind.wrap_i64]; omega
     have hjd : (j : Int) ≤ (d : Int) := by omega
     have hj0 : 0 ≤ (j : Int) := by omega
     go_wp2_with fail
     go_region_law (fail)
     all_goals
      go_wp2_with fail
      go_ret
      exact ⟨⟨_, rfl⟩, j, by omega, HB.out j, (touch1 _ _ _ _).drew⟩
end
section
attribute [local go_sem] Oper.semAt_some
theorem tspoil_not (tb cb : Nat) (t : Tr) (x y : Int) (W : World) (h : TryC W tb cb t) (h2 : t.stg ≠ 2) :
 Calls Tryz.prog 167 #[.pointer (some ⟨tb, 0, none⟩), .int .i64 x, .int .u8 y] W fun e w' => e = .returned (.bool false) ∧ W = w' := by
 have h3 := h.get 3 (.int .i64 t.stg) rfl; clear h; go_enter Tryz.func167, Tryz.ntmps167; go_wp2_with fail
 go_ret
 exact ⟨rfl, rfl⟩
theorem tspoil_out (tb cb : Nat) (t : Tr) (x y : Int) (a : Option Addr) (n d : Nat) (W : World) (h : TryC W tb cb t) (h2 : t.stg = 2) (hb : t.b = .slice a n d) (hx : x < 0 ∨ (n : Int) ≤ x) :
 Calls Tryz.prog 167 #[.pointer (some ⟨tb, 0, none⟩), .int .i64 x, .int .u8 y] W fun e w' => e = .returned (.bool false) ∧ W = w' := by
 have h3 := h.get 3 (.int .i64 t.stg) rfl; have h6 := h.get 6 t.b rfl; rw [h2] at h3; rw [hb] at h6; clear h hb h2; by_cases h0 : x < 0
 · clear hx; go_enter Tryz.func167, Tryz.ntmps167; go_wp2_with fail
   go_ret
   exact ⟨rfl, rfl⟩
 · have hx2 : (n : Int) ≤ x := by omega
   clear hx; go_enter Tryz.func167, Tryz.ntmps167; go_wp2_with fail
   go_ret
   exact ⟨rfl, rfl⟩
set_option maxRecDepth 100000 in
theorem tspoil_in (tb cb : Nat) (t : Tr) (k : Nat) (y : Int) (g i n d : Nat) (xs : List Int) (W : World) (h : TryC W tb cb t) (h2 : t.stg = 2) (hb : t.b = .slice (some ⟨g, i, none⟩) n d) (hk : k < n) (hc : W.cell? ⟨g, i + k, none⟩ = some (.int .u8 (xs.getD k 0))) (hf : W.frozen? ⟨g, i + k, none⟩ = false) :
 Calls Tryz.prog 167 #[.pointer (some ⟨tb, 0, none⟩), .int .i64 k, .int .u8 y] W fun e w' => e = .returned (.bool true) ∧ W.setCell ⟨g, i + k, none⟩ (.int .u8 (bits .xor .u8 (xs.getD k 0) y)) = w' := by
 have h3 := h.get 3 (.int .i64 t.stg) rfl; have h6 := h.get 6 t.b rfl; rw [h2] at h3; rw [hb] at h6; generalize xs.getD k 0 = z at hc ⊢; have k1 : (k : Int) < (n : Int) := by omega
 have k0 : 0 ≤ (k : Int) := by omega
 clear h hb h2; go_enter Tryz.func167, Tryz.ntmps167; go_wp2_with fail
 go_ret
 exact ⟨rfl, rfl⟩
end
section
attribute [local go_sem] Oper.semAt_some
def blowV (op st at_ by_ : Int) : Value := .agg #[.int .i64 op, .int .i64 st, .int .i64 at_, .int .u8 by_]
theorem blow_cells (W : World) (op st at_ by_ : Int) : (W.alloc (.cells #[.int .i64 op, .int .i64 st, .int .i64 at_, .int .u8 by_] 215)).cell? ⟨W.heap.size, 0, none⟩ = some (.int .i64 op) ∧ (W.alloc (.cells #[.int .i64 op, .int .i64 st, .int .i64 at_, .int .u8 by_] 215)).cell? ⟨W.heap.size, 1, none⟩ = some (.int .i64 st) ∧
 (W.alloc (.cells #[.int .i64 op, .int .i64 st, .int .i64 at_, .int .u8 by_] 215)).cell? ⟨W.heap.size, 2, none⟩ = some (.int .i64 at_) ∧ (W.alloc (.cells #[.int .i64 op, .int .i64 st, .int .i64 at_, .int .u8 by_] 215)).cell? ⟨W.heap.size, 3, none⟩ = some (.int .u8 by_) := by
 have hh := heap_alloc_new W (.cells #[.int .i64 op, .int .i64 st, .int .i64 at_, .int .u8 by_] 215); refine ⟨?_, ?_, ?_, ?_⟩; all_goals (simp only [World.cell?, hh]; rfl)
set_option maxRecDepth 100000 in
theorem strike_off (tb cb : Nat) (t : Tr) (op st at_ by_ : Int) (W : World) (h : TryC W tb cb t) (hne : t.stg ≠ st) :
 Calls Tryz.prog 127 #[.pointer (some ⟨tb, 0, none⟩), blowV op st at_ by_] W fun e w' => e = .returned (.bool false) ∧ Below W.heap.size W w' := by
 have hB : Below W.heap.size W (W.alloc (.cells #[.int .i64 op, .int .i64 st, .int .i64 at_, .int .u8 by_] 215)).drew := ((Below.refl _ W).alloc (Nat.le_refl _) _).drew; have hst := stage_any tb cb t _ (h.below hB); have hcell := blow_cells W op st at_ by_; unfold blowV; obtain ⟨sg, hsg⟩ : ∃ x, t.stg = x := ⟨_, rfl⟩
 rw [hsg] at hst hne; obtain ⟨b0, b1, b2, b3⟩ := hcell; have HB := lH hB; clear h hsg hB; go_enter Tryz.func127, Tryz.ntmps127; go_wp2_with fail
 go_region_held3 (fun W2 => W2.cell? ⟨W.heap.size, 1, none⟩ = some (.int .i64 st)) (first | exact b1) (first | (go_at_call 126; refine hst.mono ?_; rintro e w9 ⟨rfl, rfl⟩) | fail)
 all_goals
  go_wp2_with fail
  go_ret
  exact ⟨rfl, HB.out⟩
set_option maxRecDepth 100000 in
theorem strike_else (tb cb : Nat) (t : Tr) (op at_ by_ : Int) (W : World) (h : TryC W tb cb t) (h1 : op ≠ 1) (h2 : op ≠ 2) (h3 : op ≠ 3) (h4 : op ≠ 4) :
 Calls Tryz.prog 127 #[.pointer (some ⟨tb, 0, none⟩), blowV op t.stg at_ by_] W fun e w' => e = .returned (.bool false) ∧ Below W.heap.size W w' := by
 unfold blowV; obtain ⟨st, hsg⟩ : ∃ x, t.stg = x := ⟨_, rfl⟩
 rw [hsg]; have hB : Below W.heap.size W (W.alloc (.cells #[.int .i64 op, .int .i64 st, .int .i64 at_, .int .u8 by_] 215)).drew := ((Below.refl _ W).alloc (Nat.le_refl _) _).drew; have hst := stage_any tb cb t _ (h.below hB); obtain ⟨b0, b1, b2, b3⟩ := blow_cells W op st at_ by_; rw [hsg] at hst; have HB := lH hB; clear h hB hsg; go_enter Tryz.func127, Tryz.ntmps127; go_wp2_with fail
 go_region_held3 (fun W2 => W2.cell? ⟨W.heap.size, 1, none⟩ = some (.int .i64 st)) (first | exact b1) (first | (go_at_call 126; refine hst.mono ?_; rintro e w9 ⟨rfl, rfl⟩) | fail)
 all_goals
  go_wp2_with fail
  go_ret
  exact ⟨rfl, HB.out⟩
set_option maxRecDepth 100000 in
theorem strike_cut (tb cb : Nat) (t : Tr) (at_ by_ : Int) (W : World) (P : Ending → World → Prop) (h : TryC W tb cb t) (hP : ∀ e w', P e w' → AnyB e) (hc : ∀ W', Below W.heap.size W W' → Calls Tryz.prog 168 #[.pointer (some ⟨tb, 0, none⟩), .int .i64 at_] W' P) :
 Calls Tryz.prog 127 #[.pointer (some ⟨tb, 0, none⟩), blowV 2 t.stg at_ by_] W P := by
 unfold blowV; obtain ⟨st, hsg⟩ : ∃ x, t.stg = x := ⟨_, rfl⟩
 rw [hsg]; have hB : Below W.heap.size W (W.alloc (.cells #[.int .i64 2, .int .i64 st, .int .i64 at_, .int .u8 by_] 215)).drew := ((Below.refl _ W).alloc (Nat.le_refl _) _).drew; have hst := stage_any tb cb t _ (h.below hB); have hcall := hc _ hB; obtain ⟨b0, b1, b2, b3⟩ := blow_cells W 2 st at_ by_; rw [hsg] at hst; have HP := lH hP; clear h hB hsg hc hP; go_enter Tryz.func127, Tryz.ntmps127; go_wp2_with fail
 go_region_held3 (fun W2 => W2.cell? ⟨W.heap.size, 1, none⟩ = some (.int .i64 st)) (first | exact b1) (first | (go_at_call 126; refine hst.mono ?_; rintro e w9 ⟨rfl, rfl⟩) | fail)
 all_goals
  go_wp2_with fail
  refine hcall.mono ?_; rintro e w9 hp; obtain ⟨r9, rfl⟩ := HP.out _ _ hp; have HPP := lH hp; clear hp; go_wp2_with fail
  (try go_ret)
  exact HPP.out
set_option maxRecDepth 100000 in
theorem strike_spoil (tb cb : Nat) (t : Tr) (at_ by_ : Int) (W : World) (P : Ending → World → Prop) (h : TryC W tb cb t) (hP : ∀ e w', P e w' → AnyB e) (hc : ∀ W', Below W.heap.size W W' → Calls Tryz.prog 167 #[.pointer (some ⟨tb, 0, none⟩), .int .i64 at_, .int .u8 by_] W' P) :
 Calls Tryz.prog 127 #[.pointer (some ⟨tb, 0, none⟩), blowV 1 t.stg at_ by_] W P := by
 unfold blowV; obtain ⟨st, hsg⟩ : ∃ x, t.stg = x := ⟨_, rfl⟩
 rw [hsg]; have hB : Below W.heap.size W (W.alloc (.cells #[.int .i64 1, .int .i64 st, .int .i64 at_, .int .u8 by_] 215)).drew := ((Below.refl _ W).alloc (Nat.le_refl _) _).drew; have hst := stage_any tb cb t _ (h.below hB); have hcall := hc _ hB; obtain ⟨b0, b1, b2, b3⟩ := blow_cells W 1 st at_ by_; rw [hsg] at hst; have HP := lH hP; clear h hB hsg hc hP; go_enter Tryz.func127, Tryz.ntmps127; go_wp2_with fail
 go_region_held3 (fun W2 => W2.cell? ⟨W.heap.size, 1, none⟩ = some (.int .i64 st)) (first | exact b1) (first | (go_at_call 126; refine hst.mono ?_; rintro e w9 ⟨rfl, rfl⟩) | fail)
 all_goals
  go_wp2_with fail
  refine hcall.mono ?_; rintro e w9 hp; obtain ⟨r9, rfl⟩ := HP.out _ _ hp; have HPP := lH hp; clear hp; go_wp2_with fail
  (try go_ret)
  exact HPP.out
set_option maxRecDepth 100000 in
theorem strike_force (tb cb : Nat) (t : Tr) (at_ by_ : Int) (W : World) (P : Ending → World → Prop) (h : TryC W tb cb t) (h0 : 0 ≤ t.stg ∧ t.stg ≤ 6) (hP : ∀ e w', P e w' → AnyB e) (hc : ∀ W', Below W.heap.size W W' → Calls Tryz.prog 169 #[.pointer (some ⟨tb, 0, none⟩), .int .i64 (t.stg + 1)] W' P) :
 Calls Tryz.prog 127 #[.pointer (some ⟨tb, 0, none⟩), blowV 3 t.stg at_ by_] W P := by
 unfold blowV; obtain ⟨st, hsg⟩ : ∃ x, t.stg = x := ⟨_, rfl⟩
 rw [hsg]; rw [hsg] at hc h0; obtain ⟨q1, q2⟩ := h0; have hB : Below W.heap.size W (W.alloc (.cells #[.int .i64 3, .int .i64 st, .int .i64 at_, .int .u8 by_] 215)).drew := ((Below.refl _ W).alloc (Nat.le_refl _) _).drew; have hst := stage_any tb cb t _ (h.below hB); have hcall := hc _ hB; obtain ⟨b0, b1, b2, b3⟩ := blow_cells W 3 st at_ by_; rw [hsg] at hst; have HP := lH hP; clear h hB hsg hc hP; go_enter Tryz.func127, Tryz.ntmps127; go_wp2_with fail
 go_region_held3 (fun W2 => W2.cell? ⟨W.heap.size, 1, none⟩ = some (.int .i64 st)) (first | exact b1) (first | (go_at_call 126; refine hst.mono ?_; rintro e w9 ⟨rfl, rfl⟩) | fail)
 all_goals
  go_wp2_with fail
  refine hcall.mono ?_; rintro e w9 hp; obtain ⟨r9, rfl⟩ := HP.out _ _ hp; have HPP := lH hp; clear hp; go_wp2_with fail
  (try go_ret)
  exact HPP.out
set_option maxRecDepth 100000 in
theorem strike_abort (tb cb : Nat) (t : Tr) (at_ by_ : Int) (W : World) (P : Ending → World → Prop) (h : TryC W tb cb t) (hP : ∀ e w', P e w' → AnyB e) (hc : ∀ W', Below W.heap.size W W' → Calls Tryz.prog 125 #[.pointer (some ⟨tb, 0, none⟩)] W' P) :
 Calls Tryz.prog 127 #[.pointer (some ⟨tb, 0, none⟩), blowV 4 t.stg at_ by_] W P := by
 unfold blowV; obtain ⟨st, hsg⟩ : ∃ x, t.stg = x := ⟨_, rfl⟩
 rw [hsg]; have hB : Below W.heap.size W (W.alloc (.cells #[.int .i64 4, .int .i64 st, .int .i64 at_, .int .u8 by_] 215)).drew := ((Below.refl _ W).alloc (Nat.le_refl _) _).drew; have hst := stage_any tb cb t _ (h.below hB); have hcall := hc _ hB; obtain ⟨b0, b1, b2, b3⟩ := blow_cells W 4 st at_ by_; rw [hsg] at hst; have HP := lH hP; clear h hB hsg hc hP; go_enter Tryz.func127, Tryz.ntmps127; go_wp2_with fail
 go_region_held3 (fun W2 => W2.cell? ⟨W.heap.size, 1, none⟩ = some (.int .i64 st)) (first | exact b1) (first | (go_at_call 126; refine hst.mono ?_; rintro e w9 ⟨rfl, rfl⟩) | fail)
 all_goals
  go_wp2_with fail
  refine hcall.mono ?_; rintro e w9 hp; obtain ⟨r9, rfl⟩ := HP.out _ _ hp; have HPP := lH hp; clear hp; go_wp2_with fail
  (try go_ret)
  exact HPP.out
theorem bsl_set {W : World} {g i n : Nat} (h : BSl W (some ⟨g, i, none⟩) n) (k : Nat) (hk : k < n) (z : Int) (hz : 0 ≤ z ∧ z ≤ 255) : BSl (W.setCell ⟨g, i + k, none⟩ (.int .u8 z)) (some ⟨g, i, none⟩) n := by
 obtain ⟨xs, h1, h2, h3⟩ := h; refine ⟨xs.set k z, by simpa using h1, fun x hx => ?_, fun hn => ⟨g, i, rfl, fun j hj => ?_⟩⟩
 · rcases List.mem_or_eq_of_mem_set hx with hx | rfl
   · exact h2 x hx
   · exact hz
 · obtain ⟨g', i', e, h4⟩ := h3 hn; simp only [Option.some.injEq, Addr.mk.injEq] at e; obtain ⟨rfl, rfl, -⟩ := e; have hxs : (xs.set k z).getD j 0 = if k = j then z else xs.getD j 0 := by
    rw [List.getD_eq_getElem?_getD, List.getElem?_set, List.getD_eq_getElem?_getD]; by_cases e : k = j
    · subst e; simp [h1, hk]
    · simp [e]
   rw [hxs]; by_cases e : k = j
   · subst e; rw [if_pos rfl]; exact World.cell?_setCell_same _ _ _ (h4 k hk)
   · rw [if_neg e, cell_setCell_ne _ (by simp [e])]; exact h4 j hj
theorem xor8 (x y : Int) : 0 ≤ bits .xor .u8 x y ∧ bits .xor .u8 x y ≤ 255 := by
 unfold bits; simp only [IntKind.wrap_u8]; omega
def BlowP (tb cb : Nat) (t : Tr) (X : Nat → Prop) (W : World) (e : Ending) (w' : World) : Prop :=
 AnyB e ∧ ∃ t', TryIn w' tb cb t' X ∧ (t'.stg = t.stg ∨ t'.stg = 6) ∧ (t'.stg ≠ 6 → t'.tag = t.tag ∧ t'.base = t.base) ∧ Touch X W w'
theorem BlowP.of {tb cb : Nat} {t : Tr} {X : Nat → Prop} {W W' w' : World} {e : Ending} (h : BlowP tb cb t X W' e w') (hb : Below W.heap.size W W') : BlowP tb cb t X W e w' := by
 obtain ⟨he, t', h1, h2, h3, h4⟩ := h; exact ⟨he, t', h1, h2, h3, Touch.trans (Touch.of_below hb) (G := X) (fun k hk => .inl hk) h4⟩
theorem BlowP.self {tb cb : Nat} {t : Tr} {X : Nat → Prop} {W W' : World} {r : Bool} (h : TryIn W tb cb t X) (hb : Below W.heap.size W W') : BlowP tb cb t X W (.returned (.bool r)) W' :=
 ⟨⟨r, rfl⟩, t, h.same hb.size (fun k hk => hb.block k (h.lt k hk)), .inl rfl, fun _ => ⟨rfl, rfl⟩, Touch.of_below hb⟩
theorem TryIn.keep {tb cb : Nat} {t t' : Tr} {X : Nat → Prop} {W w' : World} (h : TryIn W tb cb t X) (hc : TryC w' tb cb t') (e1 : t'.stg = t.stg) (e2 : t'.tag = t.tag) (e3 : t'.base = t.base) (e4 : t'.q = t.q)
 (hby : t.stg = 2 → ∃ a n d, t'.b = .slice a n d ∧ BSl W a n ∧ n ≤ 50000 ∧ n ≤ d ∧ d ≤ 9223372036854775807 ∧ ∀ g i, 0 < n → a = some ⟨g, i, none⟩ → X g ∧ g ≠ tb ∧ ∀ j, W.frozen? ⟨g, j, none⟩ = false) (ht : Touch (fun k => k = tb) W w') {e : Ending} (he : AnyB e) :
 BlowP tb cb t X W e w' := by
 have hbk : ∀ k, X k → k ≠ tb → w'.heap[k]? = W.heap[k]? := fun k hk hne => ht.block k (h.lt k hk) hne; refine ⟨he, t', ⟨hc, h.here, fun k hk => Nat.lt_of_lt_of_le (h.lt k hk) ht.size, fun h2 => ?_, fun h3 => ?_⟩, .inl e1, fun _ => ⟨e2, e3⟩, ht.wider (fun k hk => hk ▸ h.here)⟩
 · obtain ⟨a, n, d, b1, b2, b3, b4, b5, b6⟩ := hby (by omega)
   by_cases hn : 0 < n
   · obtain ⟨xs, x1, x2, x3⟩ := b2; obtain ⟨g, i, rfl, x4⟩ := x3 hn; obtain ⟨c1, c2, c3⟩ := b6 g i hn rfl; refine ⟨_, n, d, b1, ⟨xs, x1, x2, fun _ => ⟨g, i, rfl, fun j hj => (World.cell?_of_block (a := ⟨g, i + j, none⟩) (hbk g c1 c2)).trans (x4 j hj)⟩⟩, b3, b4, b5, fun g' i' _ e => ?_⟩; simp only [Option.some.injEq, Addr.mk.injEq] at e; obtain ⟨rfl, rfl, -⟩ := e; exact ⟨c1, c2, fun j => (World.frozen?_of_block (a := ⟨g, j, none⟩) (hbk g c1 c2)).trans (c3 j)⟩
   · obtain rfl : n = 0 := by omega
     exact ⟨a, 0, d, b1, BSl.none _ _, b3, b4, b5, fun g i hh => absurd hh (by omega)⟩
 · obtain ⟨qb, G, cur, its, q1, q2, q3, q4, q5⟩ := h.queue (by omega); rw [e2, e3]; exact ⟨qb, G, cur, its, e4.trans q1, q2.same ht.size (fun k hk => hbk k (q5 k hk).1 (q5 k hk).2), q3, q4, q5⟩
theorem tspoil_blow (tb cb : Nat) (t : Tr) (X : Nat → Prop) (at_ by_ : Int) (W : World) (h : TryIn W tb cb t X) : Calls Tryz.prog 167 #[.pointer (some ⟨tb, 0, none⟩), .int .i64 at_, .int .u8 by_] W (BlowP tb cb t X W) := by
 by_cases h2 : t.stg = 2
 · obtain ⟨a, n, d, b1, b2, b3, b4, b5, b6⟩ := h.bytes h2; by_cases hx : at_ < 0 ∨ (n : Int) ≤ at_
   · refine (tspoil_out tb cb t at_ by_ a n d W h.at_ h2 b1 hx).mono ?_; rintro e w' ⟨rfl, rfl⟩; exact BlowP.self h (Below.refl _ _)
   · obtain ⟨k, rfl⟩ := Int.eq_ofNat_of_zero_le (show 0 ≤ at_ by omega); have hk : k < n := by omega
     obtain ⟨xs, x1, x2, x3⟩ := b2; obtain ⟨g, i, rfl, x4⟩ := x3 (by omega); obtain ⟨c1, c2, c3⟩ := b6 g i (by omega) rfl; refine (tspoil_in tb cb t k by_ g i n d xs W h.at_ h2 b1 hk (x4 k hk) (c3 _)).mono ?_; rintro e w' ⟨rfl, rfl⟩; refine ⟨⟨_, rfl⟩, t, ?_, .inl rfl, fun _ => ⟨rfl, rfl⟩, (touch1 _ _ _ _).wider (fun j hj => hj ▸ c1)⟩; have hB : BSl W (some ⟨g, i, none⟩) n := ⟨xs, x1, x2, x3⟩
     have hne : ∀ j, j ≠ g → (W.setCell ⟨g, i + k, none⟩ (.int .u8 (bits .xor .u8 (xs.getD k 0) by_))).heap[j]? = W.heap[j]? := fun j hj => Below.heap_setCell _ _ _ _ hj; refine ⟨h.at_.same (hne tb (fun e => c2 e.symm)), h.here, fun j hj => by simpa using h.lt j hj, fun _ => ⟨_, n, d, b1, bsl_set hB k hk _ (xor8 _ _), b3, b4, b5, fun g' i' _ e => ?_⟩, fun h3 => by omega⟩; simp only [Option.some.injEq, Addr.mk.injEq] at e; obtain ⟨rfl, rfl, -⟩ := e; exact ⟨c1, c2, fun j => by rw [World.frozen?_setCell]; exact c3 j⟩
 · refine (tspoil_not tb cb t at_ by_ W h.at_ h2).mono ?_; rintro e w' ⟨rfl, rfl⟩; exact BlowP.self h (Below.refl _ _)
theorem tcut_blow (tb cb : Nat) (t : Tr) (X : Nat → Prop) (at_ : Int) (W : World) (h : TryIn W tb cb t X) : Calls Tryz.prog 168 #[.pointer (some ⟨tb, 0, none⟩), .int .i64 at_] W (BlowP tb cb t X W) := by
 by_cases h2 : t.stg = 2
 · obtain ⟨a, n, d, b1, b2, b3, b4, b5, b6⟩ := h.bytes h2; refine (tcut_any tb cb t at_ a n d W h.at_ h2 b1 b4 b5).mono ?_; rintro e w' ⟨he, k, hk, hc, ht⟩; exact h.keep hc rfl rfl rfl rfl (fun _ => ⟨a, k, d, rfl, b2.head k hk, by omega, by omega, b5, fun g i hh e => b6 g i (by omega) e⟩) ht he
 · refine (tcut_not tb cb t at_ W h.at_ h2).mono ?_; rintro e w' ⟨rfl, rfl⟩; exact BlowP.self h (Below.refl _ _)
theorem tforce_blow (tb cb : Nat) (t : Tr) (X : Nat → Prop) (x : Int) (W : World) (h : TryIn W tb cb t X) : Calls Tryz.prog 169 #[.pointer (some ⟨tb, 0, none⟩), .int .i64 x] W (BlowP tb cb t X W) := by
 refine (tforce_any tb cb t x W h.at_).mono ?_; rintro e w' ⟨he, t', hc, ⟨s1, s2, s3, s4, s5, s6, s7⟩, ht⟩; exact h.keep hc s3 s1 s2 s7 (fun h2 => by rw [s6]; exact h.bytes h2) ht he
theorem tabort_blow (tb cb : Nat) (t : Tr) (X : Nat → Prop) (W : World) (h : TryIn W tb cb t X) : Calls Tryz.prog 125 #[.pointer (some ⟨tb, 0, none⟩)] W (BlowP tb cb t X W) := by
 by_cases h5 : 5 ≤ t.stg
 · refine (tabort_over tb cb t W h.at_ h5).mono ?_; rintro e w' ⟨rfl, rfl⟩; exact BlowP.self h (Below.refl _ _)
 · refine (tabort_open tb cb t W h.at_ h5).mono ?_; rintro e w' ⟨rfl, hc, ht⟩; exact ⟨⟨_, rfl⟩, _, ⟨hc, h.here, fun k hk => Nat.lt_of_lt_of_le (h.lt k hk) ht.size, fun h => absurd h (by simp), fun h => by rcases h with h | h <;> exact absurd h (by simp)⟩, .inr rfl, fun h => absurd rfl h, ht.wider (fun k hk => hk ▸ h.here)⟩
theorem strike_any (tb cb : Nat) (t : Tr) (X : Nat → Prop) (op st at_ by_ : Int) (W : World) (h : TryIn W tb cb t X) (h0 : 0 ≤ t.stg ∧ t.stg ≤ 6) :
 Calls Tryz.prog 127 #[.pointer (some ⟨tb, 0, none⟩), blowV op st at_ by_] W (BlowP tb cb t X W) := by
 have hb : ∀ W', Below W.heap.size W W' → TryIn W' tb cb t X := fun W' hb => h.same hb.size (fun k hk => hb.block k (h.lt k hk)); have hP : ∀ e w', BlowP tb cb t X W e w' → AnyB e := fun e w' hp => hp.1; by_cases hst : t.stg = st
 · subst hst; by_cases o1 : op = 1
   · subst o1; exact strike_spoil tb cb t at_ by_ W _ h.at_ hP (fun W' hw => (tspoil_blow tb cb t X at_ by_ W' (hb W' hw)).mono (fun e w' hp => hp.of hw))
   · by_cases o2 : op = 2
     · subst o2; exact strike_cut tb cb t at_ by_ W _ h.at_ hP (fun W' hw => (tcut_blow tb cb t X at_ W' (hb W' hw)).mono (fun e w' hp => hp.of hw))
     · by_cases o3 : op = 3
       · subst o3; exact strike_force tb cb t at_ by_ W _ h.at_ h0 hP (fun W' hw => (tforce_blow tb cb t X _ W' (hb W' hw)).mono (fun e w' hp => hp.of hw))
       · by_cases o4 : op = 4
         · subst o4; exact strike_abort tb cb t at_ by_ W _ h.at_ hP (fun W' hw => (tabort_blow tb cb t X W' (hb W' hw)).mono (fun e w' hp => hp.of hw))
         · refine (strike_else tb cb t op at_ by_ W h.at_ o1 o2 o3 o4).mono ?_; rintro e w' ⟨rfl, hw⟩; exact BlowP.self h hw
 · refine (strike_off tb cb t op st at_ by_ W h.at_ hst).mono ?_; rintro e w' ⟨rfl, hw⟩; exact BlowP.self h hw
end
theorem formL_ids (l : Ln) : (formL l).map (·.id) = l.ps.map (·.id) ∧ (formL l).map (·.w) = l.ps.map (·.w) ∧ (formL l).map (·.lag) = l.ps.map fun p => l.base - p.v := by
 unfold formL; refine ⟨?_, ?_, ?_⟩ <;> (rw [List.map_map]; rfl)
theorem ChR.ids {c c' : Co} {tag base : Int} (h : ChR c c' tag base) : c'.l.ps.map (·.id) = c.l.ps.map (·.id) ∧ c'.l.ps.map (·.w) = c.l.ps.map (·.w) ∧ (c'.l.ps.map fun p => c'.l.base - p.v) = c.l.ps.map fun p => c.l.base - p.v := by
 rcases h with rfl | ⟨a1, a2, a3, a4, a5, a6, a7⟩
 · exact ⟨rfl, rfl, rfl⟩
 · rw [← (formL_ids c.l).1, ← (formL_ids c.l).2.1, ← (formL_ids c.l).2.2, ← a6]; exact ⟨(formL_ids c'.l).1.symm, (formL_ids c'.l).2.1.symm, (formL_ids c'.l).2.2.symm⟩
end Go.Proofs.YtoiajjobecinpaaGreat
