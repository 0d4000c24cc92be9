/- Attempt, whatever befalls the try: what its rounds keep. Attempt, whatever befalls the try: the walk; Open, where it can -/
import Derived.Test.YtoiajjobecinpaaGreatTA32
set_option maxHeartbeats 4000000
namespace Go.Proofs.YtoiajjobecinpaaGreat
open Go.RowKit Go.Shelf Go.Lib Go.Proofs
set_option linter.unusedVariables false
set_option linter.unusedSimpArgs false
section
attribute [local go_sem] Oper.semAt_some
def AInvT (W : World) (wb sb m : Nat) (s : Sy) (cbs : List Nat) (L : Int → Option Tr) (own0 : Nat → Option Own) (ow0 : Nat → Option OwnW) (i : Nat) (c : Co) (tag base : Int) (tbk : Nat) (t : Tr) (k : Nat) (wr : World) : Prop :=
 ∃ (c' : Co) (own : Nat → Option Own) (ow : Nat → Option OwnW), (∃ gb nb pb mb n cv D tb, SysAt wr sb gb nb pb mb n cv D cbs tb own (setCo s i c')) ∧
  (∃ mb n av D tbs ttb, SwAt wr wb sb mb n av D m tbs ttb cbs (setL L i t) ow ∧ ttb i = tbk) ∧ (∀ k, ow k ≠ none → own k = none) ∧ (0 ≤ t.stg ∧ t.stg ≤ 6) ∧ (t.stg ≠ 6 → t.tag = tag ∧ t.base = base) ∧ ChR c c' tag base ∧ 6 ≤ k + t.stg.toNat ∧
  Touch (fun k => own0 k ≠ none ∨ ow0 k ≠ none) W wr ∧ (∀ k, (own k ≠ none ∨ ow k ≠ none) → (own0 k ≠ none ∨ ow0 k ≠ none) ∨ W.heap.size ≤ k)
theorem AInv.toT {W wr : World} {wb sb m : Nat} {s : Sy} {cbs : List Nat} {L : Int → Option Tr} {own0 : Nat → Option Own} {ow0 : Nat → Option OwnW} {i : Nat} {c : Co} {tag base : Int} {tbk k : Nat}
 (h : AInv W wb sb m s cbs L own0 ow0 i c tag base tbk k wr) : ∃ t, AInvT W wb sb m s cbs L own0 ow0 i c tag base tbk t k wr := by
 obtain ⟨t, c', own, ow, h⟩ := h; exact ⟨t, c', own, ow, h⟩
theorem AInvT.touch {W wr : World} {wb sb m : Nat} {s : Sy} {cbs : List Nat} {L : Int → Option Tr} {own0 : Nat → Option Own} {ow0 : Nat → Option OwnW} {i : Nat} {c : Co} {tag base : Int} {tbk k : Nat} {t : Tr}
 (h : AInvT W wb sb m s cbs L own0 ow0 i c tag base tbk t k wr) : Touch (fun k => own0 k ≠ none ∨ ow0 k ≠ none) W wr := by
 obtain ⟨c', own, ow, -, -, -, -, -, -, -, h, -⟩ := h; exact h
theorem AInvT.told {W wr : World} {wb sb m : Nat} {s : Sy} {cbs : List Nat} {L : Int → Option Tr} {own0 : Nat → Option Own} {ow0 : Nat → Option OwnW} {i : Nat} {c : Co} {tag base : Int} {tbk k : Nat} {t : Tr}
 (h : AInvT W wb sb m s cbs L own0 ow0 i c tag base tbk t k wr) :
 Calls Tryz.prog 126 #[.pointer (some ⟨tbk, 0, none⟩)] wr (fun e w' => e = .returned (.int .i64 t.stg) ∧ wr = w') ∧ Calls Tryz.prog 128 #[.pointer (some ⟨tbk, 0, none⟩)] wr (fun e w' => e = .returned (.int .i64 t.why) ∧ wr = w') ∧ (t.stg < 5 → 0 < k) := by
 obtain ⟨c', own, ow, ⟨gb, nb, pb, mb, n, cv, D, tb, hS⟩, ⟨mb', n', av, D', tbs, ttb, hW, htb⟩, hd, h0, h6, hch, hk, hto, hown⟩ := h; have ht : setL L i t i = some t := by simp [setL]
 have hT := (hW.tries i t ht).2; rw [htb] at hT; exact ⟨stage_any _ _ t _ hT.at_, why_any _ _ t _ hT.at_, fun h5 => by omega⟩
theorem AInvT.fin {W wr : World} {wb sb m : Nat} {s : Sy} {cbs : List Nat} {L : Int → Option Tr} {own0 : Nat → Option Own} {ow0 : Nat → Option OwnW} {i : Nat} {c : Co} {tag base : Int} {tbk k : Nat} {t : Tr}
 (h : AInvT W wb sb m s cbs L own0 ow0 i c tag base tbk t k wr) : ∃ (c' : Co) (own : Nat → Option Own) (ow : Nat → Option OwnW), Both wr wb sb (setCo s i c') m cbs (setL L i t) own ow ∧ (0 ≤ t.stg ∧ t.stg ≤ 6) ∧ (t.stg ≠ 6 → t.tag = tag ∧ t.base = base) ∧ ChR c c' tag base ∧
  Touch (fun k => own0 k ≠ none ∨ ow0 k ≠ none) W wr ∧ (∀ k, (own k ≠ none ∨ ow k ≠ none) → (own0 k ≠ none ∨ ow0 k ≠ none) ∨ W.heap.size ≤ k) := by
 obtain ⟨c', own, ow, ⟨gb, nb, pb, mb, n, cv, D, tb, hS⟩, ⟨mb', n', av, D', tbs, ttb, hW, htb⟩, hd, h0, h6, hch, hk, hto, hown⟩ := h; exact ⟨c', own, ow, ⟨⟨gb, nb, pb, mb, n, cv, D, tb, hS⟩, ⟨mb', n', av, D', tbs, ttb, hW⟩, hd⟩, h0, h6, hch, hto, hown⟩
theorem AInvT.below {W wr w' : World} {wb sb m : Nat} {s : Sy} {cbs : List Nat} {L : Int → Option Tr} {own0 : Nat → Option Own} {ow0 : Nat → Option OwnW} {i : Nat} {c : Co} {tag base : Int} {tbk k : Nat} {t : Tr}
 (h : AInvT W wb sb m s cbs L own0 ow0 i c tag base tbk t k wr) (hb : Below wr.heap.size wr w') : AInvT W wb sb m s cbs L own0 ow0 i c tag base tbk t k w' := by
 obtain ⟨c', own, ow, ⟨gb, nb, pb, mb, n, cv, D, tb, hS⟩, ⟨mb', n', av, D', tbs, ttb, hW, htb⟩, hd, h0, h6, hch, hk, hto, hown⟩ := h; exact ⟨c', own, ow, ⟨gb, nb, pb, mb, n, cv, D, tb, hS.below hb⟩, ⟨mb', n', av, D', tbs, ttb, hW.below hb, htb⟩, hd, h0, h6, hch, hk, hto.self (Touch.of_below hb), hown⟩
theorem AInvT.blow {W wr : World} {wb sb m : Nat} {s : Sy} {cbs : List Nat} {L : Int → Option Tr} {own0 : Nat → Option Own} {ow0 : Nat → Option OwnW} {i : Nat} {c : Co} {tag base : Int} {tbk k : Nat} {t : Tr}
 (h : AInvT W wb sb m s cbs L own0 ow0 i c tag base tbk t k wr) (hi : i < cbs.length) (op st at_ by_ : Int) :
 Calls Tryz.prog 127 #[.pointer (some ⟨tbk, 0, none⟩), blowV op st at_ by_] wr (fun e w' => AnyB e ∧ ∃ t', (t'.stg = t.stg ∨ t'.stg = 6) ∧ AInvT W wb sb m s cbs L own0 ow0 i c tag base tbk t' k w') := by
 obtain ⟨c', own, ow, ⟨gb, nb, pb, mb, n, cv, D, tb, hS⟩, ⟨mb', n', av, D', tbs, ttb, hW, htb⟩, hd, h0, h6, hch, hk, hto, hown⟩ := h; have ht : setL L i t i = some t := by simp [setL]
 have hT := (hW.tries i t ht).2; rw [htb] at hT; simp only [Int.toNat_natCast] at hT; have hcore := hS.core i hi; have hgl : i < (setCo s i c').cores.length := by rw [← hS.num]; exact hi
 have hcc : (setCo s i c').cores[i]! = c' := by
  simp only [setCo] at hgl ⊢; rw [getElem!_set_co _ _ _ _ (by simpa using hgl), if_pos rfl]
 rw [hcc] at hcore; have hdx : ∀ k, ow k = some (.attempt i) → own k = none := fun k hk => hd k (by rw [hk]; simp); refine (strike_any tbk cbs[i]! t _ op st at_ by_ wr hT h0).mono ?_; rintro e w' ⟨he, t', hT', hst, htg, hto2⟩; have hC' : CoreIn w' cbs[i]! (fun k => own k = some (.core i)) c' := hcore.same hto2.size (fun k hk => hto2.block k (hcore.lt k hk) (fun e => by rw [hdx k e] at hk; cases hk)); obtain ⟨own', ow', hy', hw', hd', hall⟩ := Both.step (wb := wb) (i := i) (c' := c') ⟨gb, nb, pb, mb, n, cv, D, tb, hS⟩ hW hd hi ht (by rw [htb]; exact hT') hC' (fun k hk e => by rw [hdx k hk] at e; cases e) (hto2.wider (fun k hk => .inl hk)) (fun k hk => .inl hk) (fun k hk => .inl hk); rw [setCo_setCo] at hy'; rw [setL_setL] at hw'; refine ⟨he, t', hst, c', own', ow', hy', ⟨mb', n', av, D', tbs, ttb, hw', htb⟩, hd', by omega, fun h => ?_, hch, by omega, ?_, fun k hk => ?_⟩
 · obtain ⟨a, b⟩ := htg h; have := h6 (by omega); exact ⟨a.trans this.1, b.trans this.2⟩
 · exact Touch.trans hto (G := fun k => ow k = some (.attempt i)) (fun k hk => hown k (.inr (by rw [hk]; simp))) hto2
 · rcases hall k hk with h | h
   · exact hown k h
   · exact .inr (Nat.le_trans hto.size h)
theorem AInvT.step {W wr : World} {wb sb m : Nat} {s : Sy} {cbs : List Nat} {L : Int → Option Tr} {own0 : Nat → Option Own} {ow0 : Nat → Option OwnW} {i : Nat} {c : Co} {tag base : Int} {tbk k : Nat} {t : Tr}
 (h : AInvT W wb sb m s cbs L own0 ow0 i c tag base tbk t k wr) (hi : i < cbs.length) (hf : Fits c.l) (hs : t.stg ≤ 4 ∨ t.stg = 6) :
 Calls Tryz.prog 124 #[.pointer (some ⟨tbk, 0, none⟩)] wr (fun e w' => (∃ x y : Int, e = .returned (.tuple #[.int .i64 x, .int .i64 y])) ∧ ∃ t', AInvT W wb sb m s cbs L own0 ow0 i c tag base tbk t' (k - 1) w') := by
 rcases hs with hs | hs
 · obtain ⟨c', own, ow, ⟨gb, nb, pb, mb, n, cv, D, tb, hS⟩, ⟨mb', n', av, D', tbs, ttb, hW, htb⟩, hd, h0, h6, hch, hk, hto, hown⟩ := h; have ht : setL L i t i = some t := by simp [setL]
   have hT := (hW.tries i t ht).2; rw [htb] at hT; simp only [Int.toNat_natCast] at hT; have hcore := hS.core i hi; have hgl : i < (setCo s i c').cores.length := by rw [← hS.num]; exact hi
   have hcc : (setCo s i c').cores[i]! = c' := by
    simp only [setCo] at hgl ⊢; rw [getElem!_set_co _ _ _ _ (by simpa using hgl), if_pos rfl]
   rw [hcc] at hcore; have hdx : ∀ k, ow k = some (.attempt i) → own k = none := fun k hk => hd k (by rw [hk]; simp); have hcb : own cbs[i]! = some (.core i) := by
    obtain ⟨_, _, _, _, _, _, _, _, _, _, _, _, _, _, h9, _⟩ := hcore; exact h9
   refine (trystep_any tbk cbs[i]! (fun k => own k = some (.core i)) (fun k => ow k = some (.attempt i)) c' t wr hT hcore (hch.fits hf) (fun k hk e => by rw [hdx k hk] at e; cases e) h0.1 (by omega)).mono ?_; rintro e w' ⟨t', c2, F', X', he, hT', hC', hXF, hst, htag, hc2, hto2, hF1, hF2, hX1⟩; refine ⟨⟨_, _, he⟩, ?_⟩; obtain ⟨own', ow', hy', hw', hd', hall⟩ := Both.step (wb := wb) (i := i) ⟨gb, nb, pb, mb, n, cv, D, tb, hS⟩ hW hd hi ht (by rw [htb]; exact hT') hC' hXF hto2 hF1 hX1; rw [setCo_setCo] at hy'; rw [setL_setL] at hw'; have htg := h6 (by omega); refine ⟨t', c2, own', ow', hy', ⟨mb', n', av, D', tbs, ttb, hw', htb⟩, hd', by omega, fun h => ?_, hch.trans ?_, by omega, ?_, fun k hk => ?_⟩
   · obtain ⟨a, b⟩ := htag h; exact ⟨a.trans htg.1, b.trans htg.2⟩
   · rcases hc2 with h | ⟨a1, a2, a3, a4, a5, a6, a7⟩
     · exact .inl h
     · exact .inr ⟨a1.trans htg.1, a2.trans htg.2, a3, a4, a5, a6, a7⟩
   · exact Touch.trans hto (G := fun k => ow k = some (.attempt i) ∨ k = cbs[i]!) (fun k hk => by
      rcases hk with hk | hk
      · exact hown k (.inr (by rw [hk]; simp))
      · subst hk; exact hown _ (.inl (by rw [hcb]; simp))) hto2
   · rcases hall k hk with h | h
     · exact hown k h
     · exact .inr (Nat.le_trans hto.size h)
 · obtain ⟨c', own, ow, ⟨gb, nb, pb, mb, n, cv, D, tb, hS⟩, ⟨mb', n', av, D', tbs, ttb, hW, htb⟩, hd, h0, h6, hch, hk, hto, hown⟩ := h; have ht : setL L i t i = some t := by simp [setL]
   have hT := (hW.tries i t ht).2; rw [htb] at hT; refine (trystep_over _ _ t wr hT.at_ (by omega)).mono ?_; rintro e w' ⟨rfl, q, rfl⟩; have hb : Below wr.heap.size wr (wr.drewN q) := below_drewN (Below.refl _ _) _; exact ⟨⟨_, _, rfl⟩, t, c', own, ow, ⟨gb, nb, pb, mb, n, cv, D, tb, hS.below hb⟩, ⟨mb', n', av, D', tbs, ttb, hW.below hb, htb⟩, hd, h0, h6, hch, by omega, hto.self (Touch.of_below hb), hown⟩
end
section
attribute [local go_sem] Oper.semAt_some
set_option maxRecDepth 100000 in
theorem swopen_bad (wb sb mb sn : Nat) (av : Value) (DD : DataW Unit) (m : Nat) (tbs : List Nat) (ttb : Int → Nat) (L : Int → Option Tr) (ow : Nat → Option OwnW)
 (gb nb pb mb' n : Nat) (cv : Value) (D : DataW Unit) (cbs : List Nat) (tb : Int → Nat) (own : Nat → Option Own) (s : Sy) (z : Int) (tag : Int) (W : World)
 (hw : SwAt W wb sb mb sn av DD m tbs ttb cbs L ow) (h : SysAt W sb gb nb pb mb' n cv D cbs tb own s) (hi : z < 0 ∨ (cbs.length : Int) ≤ z) :
 Calls Tryz.prog 58 #[.pointer (some ⟨wb, 0, none⟩), .int .i64 z, .int .i64 tag] W fun e w' => e = .returned (.int .i64 2) ∧ W = w' := by
 have hcore := ycore_bad sb gb nb pb mb' n cv D cbs tb own s z _ h hi; have c0 := hw.c0; clear hw h hi; go_enter Tryz.func58, Tryz.ntmps58; go_wp2_with fail
 refine hcore.mono ?_; rintro e w1 ⟨rfl, rfl⟩; go_wp2_with fail
 go_ret
 exact ⟨rfl, rfl⟩
set_option maxRecDepth 100000 in
theorem swopen_busy (wb sb mb sn : Nat) (av : Value) (DD : DataW Unit) (m : Nat) (tbs : List Nat) (ttb : Int → Nat) (L : Int → Option Tr) (ow : Nat → Option OwnW)
 (gb nb pb mb' n : Nat) (cv : Value) (D : DataW Unit) (cbs : List Nat) (tb : Int → Nat) (own : Nat → Option Own) (s : Sy) (i : Nat) (tag : Int) (t : Tr) (W : World)
 (hw : SwAt W wb sb mb sn av DD m tbs ttb cbs L ow) (h : SysAt W sb gb nb pb mb' n cv D cbs tb own s) (hi : i < cbs.length) (hi2 : i < 1000000) (ht : L i = some t) (h5 : t.stg < 5) :
 Calls Tryz.prog 58 #[.pointer (some ⟨wb, 0, none⟩), .int .i64 i, .int .i64 tag] W fun e w' => e = .returned (.int .i64 15) ∧ W = w' := by
 have hcore := ycore_any sb gb nb pb mb' n cv D cbs tb own s i _ h hi; have hl := hw.look i (by omega) (by omega); rw [ht] at hl; simp only at hl; have hop := open_some _ _ t W (hw.tries i t ht).2.at_; rw [decide_eq_true h5] at hop; have c0 := hw.c0; have c1 := hw.c1; generalize cbs[i]! = cb at hcore; clear hw h ht hi; go_enter Tryz.func58, Tryz.ntmps58; go_wp2_with fail
 refine hcore.mono ?_; rintro e w1 ⟨rfl, rfl⟩; go_wp2_with fail
 refine hop.mono ?_; rintro e w1 ⟨rfl, rfl⟩; go_wp2_with fail
 go_ret
 exact ⟨rfl, rfl⟩
set_option maxRecDepth 100000 in
theorem attempt_off (wb : Nat) (z tag er : Int) (bl : Value) (W : World) (P : World → Prop) (p : Option Addr) (n c : Nat) (hb : bl = .slice p n c) (he : er ≠ 0) (h : Calls Tryz.prog 58 #[.pointer (some ⟨wb, 0, none⟩), .int .i64 z, .int .i64 tag] W fun e w' => e = .returned (.int .i64 er) ∧ P w') :
 Calls Tryz.prog 61 #[.pointer (some ⟨wb, 0, none⟩), .int .i64 z, .int .i64 tag, bl] W fun e w' => e = .returned (.tuple #[.bool false, .int .i64 er]) ∧ P w' := by
 subst hb; go_enter Tryz.func61, Tryz.ntmps61; go_wp2_with fail
 refine h.mono ?_; rintro e w1 ⟨rfl, hp⟩; have HP := lH hp; clear hp h; go_wp2_with fail
 go_ret2
 exact ⟨rfl, HP.out⟩
def BlowsAt (W : World) (own : Nat → Option Own) (ow : Nat → Option OwnW) (v : Value) (n : Nat) : Prop :=
 ∃ p c, v = .slice p n c ∧ ∀ j, j < n → ∃ g o, p = some ⟨g, o, none⟩ ∧ (g < W.heap.size ∧ own g = none ∧ ow g = none) ∧ ∃ x0 x1 x2 x3 : Int, W.cell? ⟨g, o + j * 4, none⟩ = some (.int .i64 x0) ∧ W.cell? ⟨g, o + j * 4 + 1, none⟩ = some (.int .i64 x1) ∧
  W.cell? ⟨g, o + j * 4 + 2, none⟩ = some (.int .i64 x2) ∧ W.cell? ⟨g, o + j * 4 + 3, none⟩ = some (.int .u8 x3)
def AttB (wb sb m : Nat) (s : Sy) (cbs : List Nat) (L : Int → Option Tr) (own : Nat → Option Own) (ow : Nat → Option OwnW) (i : Nat) (tag : Int) (W : World) (e : Ending) (w' : World) : Prop :=
 ((tag ≠ 0 ∧ tag ≠ 1 ∧ tag ≠ 2) ∧ e = .returned (.tuple #[.bool false, .int .i64 1]) ∧ w' = W) ∨
 ((tag = 0 ∨ tag = 1 ∨ tag = 2) ∧ ∃ (x : Bool) (er : Int) (t : Tr) (c' : Co) (own' : Nat → Option Own) (ow' : Nat → Option OwnW), e = .returned (.tuple #[.bool x, .int .i64 er]) ∧ Both w' wb sb (setCo s i c') (m + 1) cbs (setL L i t) own' ow' ∧
   (0 ≤ t.stg ∧ t.stg ≤ 6) ∧ (t.stg ≠ 6 → t.tag = tag ∧ t.base = 1000 * m) ∧ ChR s.cores[i]! c' tag (1000 * m) ∧ Touch (fun k => own k ≠ none ∨ ow k ≠ none) W w' ∧ (∀ k, (own' k ≠ none ∨ ow' k ≠ none) → (own k ≠ none ∨ ow k ≠ none) ∨ W.heap.size ≤ k))
set_option maxRecDepth 100000 in
theorem attempt_blows (wb sb m : Nat) (s : Sy) (cbs : List Nat) (L : Int → Option Tr) (own : Nat → Option Own) (ow : Nat → Option OwnW) (i : Nat) (tag : Int) (bl : Value) (nb : Nat) (W : World)
 (h : Both W wb sb s m cbs L own ow) (hi : i < cbs.length) (hi2 : i < 1000000) (hm : m < 1000000) (ht : ∀ t, L i = some t → 5 ≤ t.stg) (hf : Fits s.cores[i]!.l) (hbl : BlowsAt W own ow bl nb) (hnb : nb ≤ 8) :
 Calls Tryz.prog 61 #[.pointer (some ⟨wb, 0, none⟩), .int .i64 i, .int .i64 tag, bl] W (AttB wb sb m s cbs L own ow i tag W) := by
 obtain ⟨hy, ⟨mb', n', av, D', tbs, ttb, hW⟩, hd⟩ := h; have hopen : Calls Tryz.prog 58 #[.pointer (some ⟨wb, 0, none⟩), .int .i64 i, .int .i64 tag] W (SwOpenP wb sb m cbs L ow i tag W) := by
  obtain ⟨gb, nb, pb, mb, n, cv, D, tb, hS⟩ := hy; exact swopen_any wb sb mb' n' av D' m tbs ttb L ow gb nb pb mb n cv D cbs tb own s i tag W hW hS hi hi2 hm ht
 obtain ⟨p, c, rfl, hcs⟩ := hbl; have HCS := lH hcs; have HY := lH hy; have HL := lH hW.lt; have HD := lH hd; have HI := lH hi; have HI2 := lH hi2; have HF := lH hf; have HNB := lH hnb; clear hy hW hd hi hi2 hm ht hf hcs hnb; go_enter Tryz.func61, Tryz.ntmps61; go_wp2_with fail
 refine hopen.mono ?_; rintro e w1 (⟨hb, rfl, rfl⟩ | ⟨hg, rfl, mb2, n2, av2, D2, tbs2, ttb2, ow', hw', how, hto⟩)
 · have HB := lH hb; clear hb; go_wp2_with fail
   go_ret2
   exact .inl ⟨HB.out, rfl, rfl⟩
 · obtain ⟨hy1, hA⟩ := Sw_ainv HY.out HL.out HD.out hw' how hto HI.out; have htry : Calls Tryz.prog 123 #[.pointer (some ⟨wb, 0, none⟩), .int .i64 i] w1 fun e w' => e = .returned (.tuple #[.pointer (some ⟨ttb2 i, 0, none⟩), .int .i64 0]) ∧ w1 = w' := by
    obtain ⟨gb, nb, pb, mb, n, cv, D, tb, hS⟩ := hy1; exact try_some wb sb mb2 n2 av2 D2 _ tbs2 ttb2 _ ow' gb nb pb mb n cv D cbs tb own s i (newTr tag (1000 * m)) w1 hw' hS HI.out HI2.out (by simp [openL])
   obtain ⟨tbk, htbk⟩ : ∃ x, ttb2 i = x := ⟨_, rfl⟩
   rw [htbk] at hA htry; have HA : Hid (∃ t, AInvT W wb sb (m + 1) s cbs L own ow i s.cores[i]! tag (1000 * m) tbk t 6 w1) := lH hA.toT; have HG := lH hg; clear hg hw' how hto hy1 hA htbk; go_wp2_with fail
   refine htry.mono ?_; rintro e w2 ⟨rfl, rfl⟩; go_wp2_with fail
   go_loopg [31] 6 (fun k _ wr => Hid (∃ t, AInvT W wb sb (m + 1) s cbs L own ow i s.cores[i]! tag (1000 * m) tbk t k wr))
   case atStart => exact HA
   case round =>
    obtain ⟨t, hA0⟩ := hrel.out; obtain ⟨hst, hwhy, hgt⟩ := hA0.told; have HA0 := lH hA0; have HGT := lH hgt; clear hA0 hgt; go_wp2_with fail
    refine hst.mono ?_; rintro e w3 ⟨rfl, rfl⟩; by_cases h5 : t.stg < 5
    · have hgk := HGT.out h5; have HST : Hid (∃ t', (t'.stg ≤ 4 ∨ t'.stg = 6) ∧ AInvT W wb sb (m + 1) s cbs L own ow i s.cores[i]! tag (1000 * m) tbk t' gk wr) := lH ⟨t, .inl (by omega), HA0.out⟩; clear hst hwhy; go_wp2_with fail
      obtain ⟨wA, rfl⟩ : ∃ x, x = wr := ⟨_, rfl⟩
      go_loopw [36] (fun x wq => ∃ j : Nat, j ≤ nb ∧ x = .int .i64 j ∧ Hid (∃ t', (t'.stg ≤ 4 ∨ t'.stg = 6) ∧ AInvT W wb sb (m + 1) s cbs L own ow i s.cores[i]! tag (1000 * m) tbk t' gk wq)) (fun x _ => nb - (intOf x).toNat)
      case atStart => exact ⟨0, Nat.zero_le _, rfl, HST⟩
      case round =>
       obtain ⟨j, hj, rfl, HR⟩ := hrel; obtain ⟨t', ht', hAT⟩ := HR.out; have hnb8 := HNB.out; by_cases hjn : j < nb
       · obtain ⟨g, o, rfl, ⟨hg1, hg2, hg3⟩, x0, x1, x2, x3, k0, k1, k2, k3⟩ := HCS.out j hjn; have hsame : wr.heap[g]? = W.heap[g]? := hAT.touch.block g hg1 (by rw [hg2, hg3]; simp); have d0 := (World.cell?_of_block (a := ⟨g, o + j * 4, none⟩) hsame).trans k0; have d1 := (World.cell?_of_block (a := ⟨g, o + j * 4 + 1, none⟩) hsame).trans k1; have d2 := (World.cell?_of_block (a := ⟨g, o + j * 4 + 2, none⟩) hsame).trans k2; have d3 := (World.cell?_of_block (a := ⟨g, o + j * 4 + 3, none⟩) hsame).trans k3; have hbw := (hAT.below ((Below.refl _ wr).alloc (Nat.le_refl _) (.cells #[.int .i64 x0, .int .i64 x1, .int .i64 x2, .int .u8 x3] 215))).blow HI.out x0 x1 x2 x3; unfold blowV at hbw; have HT' := lH ht'; have hj1 : (j : Int) < (nb : Int) := by omega
         have hj0 : 0 ≤ (j : Int) := by omega
         clear hAT hsame k0 k1 k2 k3 hg1 hg2 hg3 ht' HR; go_wp2_with fail
         refine hbw.mono ?_; rintro e w5 ⟨⟨r, rfl⟩, t2, h2, hA2⟩; have HA2 : Hid (∃ t', (t'.stg ≤ 4 ∨ t'.stg = 6) ∧ AInvT W wb sb (m + 1) s cbs L own ow i s.cores[i]! tag (1000 * m) tbk t' gk w5) := lH ⟨t2, by have := HT'.out; omega, hA2⟩; clear h2 hA2; go_wp2_with fail
         go_roundw
         case rel => exact ⟨j + 1, by omega, by go_num, HA2⟩
         case measure => simp [intOf]; omega
       · obtain rfl : j = nb := by omega
         have hstep := hAT.step HI.out HF.out ht'; clear hAT HR; go_wp2_with fail
         refine hstep.mono ?_; rintro e w5 ⟨⟨x, y, rfl⟩, hA5⟩; have HA5 := lH hA5; clear hA5; go_wp2_with fail
         go_roundg (gk - 1)
         case measure => omega
         case rel => exact HA5
    · obtain ⟨c', own', ow2, f1, f2, f3, f4, f5, f6⟩ := HA0.out.fin; have HFI := lH (And.intro f1 (And.intro f2 (And.intro f3 (And.intro f4 (And.intro f5 f6))))); clear f1 f2 f3 f4 f5 f6; go_wp2_with fail
      refine hst.mono ?_; rintro e w3 ⟨rfl, rfl⟩; go_wp2_with fail
      refine hwhy.mono ?_; rintro e w3 ⟨rfl, rfl⟩; go_wp2_with fail
      go_ret2
      obtain ⟨f1, f2, f3, f4, f5, f6⟩ := HFI.out; exact .inr ⟨HG.out, _, _, t, c', own', ow2, rfl, f1, f2, f3, f4, f5, f6⟩
end
section
attribute [local go_sem] Oper.semAt_some
set_option maxRecDepth 100000 in
theorem swstep_gen (wb b : Nat) (z : Int) (W : World) (P : Ending → World → Prop) (htr : Calls Tryz.prog 123 #[.pointer (some ⟨wb, 0, none⟩), .int .i64 z] W fun e w' => e = .returned (.tuple #[.pointer (some ⟨b, 0, none⟩), .int .i64 0]) ∧ W = w')
 (hP : ∀ e w', P e w' → ∃ x y : Int, e = .returned (.tuple #[.int .i64 x, .int .i64 y])) (hst : Calls Tryz.prog 124 #[.pointer (some ⟨b, 0, none⟩)] W P) :
 Calls Tryz.prog 59 #[.pointer (some ⟨wb, 0, none⟩), .int .i64 z] W P := by
 have HP := lH hP; clear hP; go_enter Tryz.func59, Tryz.ntmps59; go_wp2_with fail
 refine htr.mono ?_; rintro e w1 ⟨rfl, rfl⟩; go_wp2_with fail
 refine hst.mono ?_; rintro e w2 hp; obtain ⟨x, y, rfl⟩ := HP.out e w2 hp; have HPP := lH hp; clear hp; go_wp2_with fail
 (try go_ret2)
 exact HPP.out
set_option maxRecDepth 100000 in
theorem swstep_off (wb : Nat) (z er : Int) (W : World) (he : er ≠ 0) (htr : Calls Tryz.prog 123 #[.pointer (some ⟨wb, 0, none⟩), .int .i64 z] W fun e w' => e = .returned (.tuple #[.pointer none, .int .i64 er]) ∧ W = w') :
 Calls Tryz.prog 59 #[.pointer (some ⟨wb, 0, none⟩), .int .i64 z] W fun e w' => e = .returned (.tuple #[.int .i64 0, .int .i64 er]) ∧ W = w' := by
 go_enter Tryz.func59, Tryz.ntmps59; go_wp2_with fail
 refine htr.mono ?_; rintro e w1 ⟨rfl, rfl⟩; go_wp2_with fail
 go_ret2
 exact ⟨rfl, rfl⟩
set_option maxRecDepth 100000 in
theorem swabort_off (wb : Nat) (z er : Int) (W : World) (he : er ≠ 0) (htr : Calls Tryz.prog 123 #[.pointer (some ⟨wb, 0, none⟩), .int .i64 z] W fun e w' => e = .returned (.tuple #[.pointer none, .int .i64 er]) ∧ W = w') :
 Calls Tryz.prog 60 #[.pointer (some ⟨wb, 0, none⟩), .int .i64 z] W fun e w' => e = .returned (.int .i64 er) ∧ W = w' := by
 go_enter Tryz.func60, Tryz.ntmps60; go_wp2_with fail
 refine htr.mono ?_; rintro e w1 ⟨rfl, rfl⟩; go_wp2_with fail
 go_ret
 exact ⟨rfl, rfl⟩
set_option maxRecDepth 100000 in
theorem swabort_over (wb b : Nat) (z : Int) (W : World) (htr : Calls Tryz.prog 123 #[.pointer (some ⟨wb, 0, none⟩), .int .i64 z] W fun e w' => e = .returned (.tuple #[.pointer (some ⟨b, 0, none⟩), .int .i64 0]) ∧ W = w')
 (hab : Calls Tryz.prog 125 #[.pointer (some ⟨b, 0, none⟩)] W fun e w' => e = .returned (.bool false) ∧ W = w') :
 Calls Tryz.prog 60 #[.pointer (some ⟨wb, 0, none⟩), .int .i64 z] W fun e w' => e = .returned (.int .i64 14) ∧ W = w' := by
 go_enter Tryz.func60, Tryz.ntmps60; go_wp2_with fail
 refine htr.mono ?_; rintro e w1 ⟨rfl, rfl⟩; go_wp2_with fail
 refine hab.mono ?_; rintro e w1 ⟨rfl, rfl⟩; go_wp2_with fail
 go_ret
 exact ⟨rfl, rfl⟩
def TrOk (k : Nat) (L : Int → Option Tr) : Prop := ∀ c t, L c = some t → (0 ≤ t.stg ∧ t.stg ≤ 6) ∧ (t.stg ≠ 6 → ∃ mm : Nat, mm ≤ k ∧ t.base = 1000 * mm)
theorem TrOk.mono {k k' : Nat} {L : Int → Option Tr} (h : TrOk k L) (hk : k ≤ k') : TrOk k' L := fun c t hc => ⟨(h c t hc).1, fun h6 => by
 obtain ⟨mm, h1, h2⟩ := (h c t hc).2 h6; exact ⟨mm, by omega, h2⟩⟩
theorem TrOk.set {k : Nat} {L : Int → Option Tr} (h : TrOk k L) (c : Int) (t : Tr) (h0 : 0 ≤ t.stg ∧ t.stg ≤ 6) (hb : t.stg ≠ 6 → ∃ mm : Nat, mm ≤ k ∧ t.base = 1000 * mm) : TrOk k (setL L c t) := fun x u hu => by
 unfold setL at hu; split at hu
 · rw [Option.some.injEq] at hu; subst hu; exact ⟨h0, hb⟩
 · exact h x u hu
def TryQ (wb sb : Nat) (cbs : List Nat) (own : Nat → Option Own) (ow : Nat → Option OwnW) (Q : Sy → Nat → (Int → Option Tr) → Prop) (W w' : World) : Prop :=
 ∃ (s' : Sy) (m' : Nat) (L' : Int → Option Tr) (own' : Nat → Option Own) (ow' : Nat → Option OwnW), Both w' wb sb s' m' cbs L' own' ow' ∧ Q s' m' L' ∧ Touch (fun k => own k ≠ none ∨ ow k ≠ none) W w' ∧
  ∀ k, (own' k ≠ none ∨ ow' k ≠ none) → (own k ≠ none ∨ ow k ≠ none) ∨ W.heap.size ≤ k
section
variable {W : World} {wb sb m k n : Nat} {b : Int} {s : Sy} {cbs : List Nat} {L : Int → Option Tr} {own : Nat → Option Own} {ow : Nat → Option OwnW}
def TQ (k n : Nat) (b : Int) (s : Sy) (m : Nat) (s' : Sy) (m' : Nat) (L' : Int → Option Tr) : Prop := InvY k b n s' ∧ m' ≤ m + 1 ∧ TrOk (k + 1) L' ∧ s'.gs = s.gs
theorem tq_same (h : Both W wb sb s m cbs L own ow) (hI : InvY k b n s) (hL : TrOk k L) {w' : World} (hb : Below W.heap.size W w') : TryQ wb sb cbs own ow (TQ k n b s m) W w' :=
 ⟨s, m, L, own, ow, h.below hb, ⟨hI, by omega, hL.mono (Nat.le_succ k), rfl⟩, Touch.of_below hb, fun k hk => .inl hk⟩
theorem tq_opened (h : Both W wb sb s m cbs L own ow) (hI : InvY k b n s) (hL : TrOk k L) (hm : m ≤ k) {w' : World} {i : Nat} {tag : Int}
 (hw : ∃ mb n av D tbs tb ow', SwAt w' wb sb mb n av D (m + 1) tbs tb cbs (openL L i tag (1000 * m)) ow' ∧ (∀ k, k < W.heap.size → ow' k = ow k) ∧ Touch (fun k => ow k ≠ none) W w') : TryQ wb sb cbs own ow (TQ k n b s m) W w' := by
 obtain ⟨⟨gb, nb, pb, mb, nn, cv, D, tb, hS⟩, ⟨mb', n', av, D', tbs, ttb, hW⟩, hd⟩ := h; obtain ⟨mb2, n2, av2, D2, tbs2, tb2, ow', hw', how, hto⟩ := hw; have hS1 : SysAt w' sb gb nb pb mb nn cv D cbs tb own s := hS.same hto.size (fun k hk => hto.block k (hS.lt k hk) (fun e => hk (hd k e))); refine ⟨s, m + 1, _, own, ow', ⟨⟨gb, nb, pb, mb, nn, cv, D, tb, hS1⟩, ⟨mb2, n2, av2, D2, tbs2, tb2, hw'⟩, fun k hk => ?_⟩, ⟨hI, Nat.le_refl _, fun c t hc => ?_, rfl⟩, hto.wider (fun k hk => .inr hk), fun k hk => ?_⟩
 · by_cases hl : k < W.heap.size
   · rw [how k hl] at hk; exact hd k hk
   · by_cases e : own k = none
     · exact e
     · exact absurd (hS.lt k e) hl
 · unfold openL at hc; split at hc
   · rw [Option.some.injEq] at hc; subst hc; exact ⟨by simp [newTr], fun _ => ⟨m, by omega, rfl⟩⟩
   · exact hL.mono (Nat.le_succ k) c t hc
 · rcases hk with hk | hk
   · exact .inl (.inl hk)
   · by_cases hl : k < W.heap.size
     · rw [how k hl] at hk; exact .inl (.inr hk)
     · exact .inr (by omega)
theorem open_all (h : Both W wb sb s m cbs L own ow) (hI : InvY k b n s) (hL : TrOk k L) (hm : m ≤ k) (hk : k ≤ 400) (a tag : Int) :
 Calls Tryz.prog 58 #[.pointer (some ⟨wb, 0, none⟩), .int .i64 a, .int .i64 tag] W fun e w' => (∃ er : Int, e = .returned (.int .i64 er)) ∧ TryQ wb sb cbs own ow (TQ k n b s m) W w' := by
 have h' := h; obtain ⟨⟨gb, nb, pb, mb, nn, cv, D, tb, hS⟩, ⟨mb', n', av, D', tbs, ttb, hW⟩, hd⟩ := h; have hn := hS.num; have hl := hI.len; have h8 := hI.n8; by_cases hz : a < 0 ∨ (cbs.length : Int) ≤ a
 · exact (swopen_bad wb sb mb' n' av D' m tbs ttb L ow gb nb pb mb nn cv D cbs tb own s a tag W hW hS hz).mono (fun e w' ⟨he, hw⟩ => ⟨⟨2, he⟩, hw ▸ tq_same h' hI hL (Below.refl _ _)⟩)
 · obtain ⟨i, rfl⟩ := Int.eq_ofNat_of_zero_le (show 0 ≤ a by omega); by_cases hb : ∃ t, L i = some t ∧ t.stg < 5
   · obtain ⟨t, ht, h5⟩ := hb; exact (swopen_busy wb sb mb' n' av D' m tbs ttb L ow gb nb pb mb nn cv D cbs tb own s i tag t W hW hS (by omega) (by omega) ht h5).mono (fun e w' ⟨he, hw⟩ => ⟨⟨15, he⟩, hw ▸ tq_same h' hI hL (Below.refl _ _)⟩)
   · refine (swopen_any wb sb mb' n' av D' m tbs ttb L ow gb nb pb mb nn cv D cbs tb own s i tag W hW hS (by omega) (by omega) (by omega) (fun t ht => by
      by_cases e : t.stg < 5
      · exact absurd ⟨t, ht, e⟩ hb
      · omega)).mono ?_
     rintro e w' (⟨_, rfl, rfl⟩ | ⟨_, rfl, hw⟩)
     · exact ⟨⟨1, rfl⟩, tq_same h' hI hL (Below.refl _ _)⟩
     · exact ⟨⟨0, rfl⟩, tq_opened h' hI hL hm hw⟩
theorem step_all (h : Both W wb sb s m cbs L own ow) (hI : InvY k b n s) (hL : TrOk k L) (hm : m ≤ k) (hk : k ≤ 400) (hb : 1000000 ≤ b ∧ b ≤ 1000000000000000000) (a : Int) :
 Calls Tryz.prog 59 #[.pointer (some ⟨wb, 0, none⟩), .int .i64 a] W fun e w' => (∃ x er : Int, e = .returned (.tuple #[.int .i64 x, .int .i64 er])) ∧ TryQ wb sb cbs own ow (TQ k n b s m) W w' := by
 have h' := h; obtain ⟨⟨gb, nb, pb, mb, nn, cv, D, tb, hS⟩, ⟨mb', n', av, D', tbs, ttb, hW⟩, hd⟩ := h; have hn := hS.num; have hl := hI.len; have h8 := hI.n8; by_cases hz : a < 0 ∨ (cbs.length : Int) ≤ a
 · exact (swstep_off wb a 2 W (by decide) (try_bad wb sb mb' n' av D' m tbs ttb L ow gb nb pb mb nn cv D cbs tb own s a W hW hS hz)).mono (fun e w' ⟨he, hw⟩ => ⟨⟨0, 2, he⟩, hw ▸ tq_same h' hI hL (Below.refl _ _)⟩)
 · obtain ⟨i, rfl⟩ := Int.eq_ofNat_of_zero_le (show 0 ≤ a by omega); cases ht : L i with
   | none => exact (swstep_off wb i 14 W (by decide) (try_none wb sb mb' n' av D' m tbs ttb L ow gb nb pb mb nn cv D cbs tb own s i W hW hS (by omega) (by omega) ht)).mono (fun e w' ⟨he, hw⟩ => ⟨⟨0, 14, he⟩, hw ▸ tq_same h' hI hL (Below.refl _ _)⟩)
   | some t =>
    obtain ⟨t0, t6⟩ := hL i t ht; have htr := try_some wb sb mb' n' av D' m tbs ttb L ow gb nb pb mb nn cv D cbs tb own s i t W hW hS (by omega) (by omega) ht; by_cases h5 : 5 ≤ t.stg
    · have hT := (hW.tries i t ht).2; refine swstep_gen wb (ttb i) i W _ htr (fun e w' hp => hp.1) ((trystep_over _ _ t W hT.at_ h5).mono ?_); rintro e w' ⟨rfl, q, rfl⟩; exact ⟨⟨_, _, rfl⟩, tq_same h' hI hL (below_drewN (Below.refl _ _) _)⟩
    · have hfit := hI.fitsY hk hb.2 i (by omega); refine (swstep_any wb sb m s cbs L own ow i t W h' (by omega) (by omega) ht hfit t0).mono ?_; rintro e w' ⟨t', c', own', ow', rfl, hB, ht0, htg, hch, hto, hg⟩; obtain ⟨mm, hmm, hbs⟩ := t6 (by omega); rw [hbs] at hch; exact ⟨⟨_, _, rfl⟩, _, m, _, own', ow', hB, ⟨hI.chr (by omega) (by omega) hb.1 hch, by omega, (hL.mono (Nat.le_succ k)).set i t' ht0 (fun h6 => ⟨mm, by omega, by rw [(htg h6).2, hbs]⟩), rfl⟩, hto, hg⟩
theorem abort_all (h : Both W wb sb s m cbs L own ow) (hI : InvY k b n s) (hL : TrOk k L) (hm : m ≤ k) (hk : k ≤ 400) (a : Int) :
 Calls Tryz.prog 60 #[.pointer (some ⟨wb, 0, none⟩), .int .i64 a] W fun e w' => (∃ er : Int, e = .returned (.int .i64 er)) ∧ TryQ wb sb cbs own ow (TQ k n b s m) W w' := by
 have h' := h; obtain ⟨⟨gb, nb, pb, mb, nn, cv, D, tb, hS⟩, ⟨mb', n', av, D', tbs, ttb, hW⟩, hd⟩ := h; have hn := hS.num; have hl := hI.len; have h8 := hI.n8; by_cases hz : a < 0 ∨ (cbs.length : Int) ≤ a
 · exact (swabort_off wb a 2 W (by decide) (try_bad wb sb mb' n' av D' m tbs ttb L ow gb nb pb mb nn cv D cbs tb own s a W hW hS hz)).mono (fun e w' ⟨he, hw⟩ => ⟨⟨2, he⟩, hw ▸ tq_same h' hI hL (Below.refl _ _)⟩)
 · obtain ⟨i, rfl⟩ := Int.eq_ofNat_of_zero_le (show 0 ≤ a by omega); cases ht : L i with
   | none => exact (swabort_off wb i 14 W (by decide) (try_none wb sb mb' n' av D' m tbs ttb L ow gb nb pb mb nn cv D cbs tb own s i W hW hS (by omega) (by omega) ht)).mono (fun e w' ⟨he, hw⟩ => ⟨⟨14, he⟩, hw ▸ tq_same h' hI hL (Below.refl _ _)⟩)
   | some t =>
    obtain ⟨t0, t6⟩ := hL i t ht; by_cases h5 : 5 ≤ t.stg
    · have htr := try_some wb sb mb' n' av D' m tbs ttb L ow gb nb pb mb nn cv D cbs tb own s i t W hW hS (by omega) (by omega) ht; exact (swabort_over wb _ i W htr (tabort_over _ _ t W (hW.tries i t ht).2.at_ h5)).mono (fun e w' ⟨he, hw⟩ => ⟨⟨14, he⟩, hw ▸ tq_same h' hI hL (Below.refl _ _)⟩)
    · refine (swabort_any wb sb m s cbs L own ow i t W h' (by omega) (by omega) ht t0).mono ?_; rintro e w' ⟨he, t', own', ow', hB, ht0, htg, hto, hg⟩; refine ⟨he, s, m, _, own', ow', hB, ⟨hI, by omega, (hL.mono (Nat.le_succ k)).set i t' ht0 (fun h6 => ?_), rfl⟩, hto, hg⟩; obtain ⟨mm, hmm, hbs⟩ := t6 (by omega); exact ⟨mm, by omega, by rw [(htg h6).2, hbs]⟩
theorem attempt_all (h : Both W wb sb s m cbs L own ow) (hI : InvY k b n s) (hL : TrOk k L) (hm : m ≤ k) (hk : k ≤ 400) (hb : 1000000 ≤ b ∧ b ≤ 1000000000000000000) (a tag : Int) (bl : Value) (nb : Nat) (hbl : BlowsAt W own ow bl nb) (hnb : nb ≤ 8) :
 Calls Tryz.prog 61 #[.pointer (some ⟨wb, 0, none⟩), .int .i64 a, .int .i64 tag, bl] W fun e w' => (∃ (x : Bool) (er : Int), e = .returned (.tuple #[.bool x, .int .i64 er])) ∧ TryQ wb sb cbs own ow (TQ k n b s m) W w' := by
 have h' := h; obtain ⟨⟨gb, nb', pb, mb, nn, cv, D, tb, hS⟩, ⟨mb', n', av, D', tbs, ttb, hW⟩, hd⟩ := h; have hn := hS.num; have hl := hI.len; have h8 := hI.n8; obtain ⟨p, c, hv, -⟩ := id hbl; by_cases hz : a < 0 ∨ (cbs.length : Int) ≤ a
 · exact (attempt_off wb a tag 2 bl W (fun w' => W = w') p nb c hv (by decide) (swopen_bad wb sb mb' n' av D' m tbs ttb L ow gb nb' pb mb nn cv D cbs tb own s a tag W hW hS hz)).mono (fun e w' ⟨he, hw⟩ => ⟨⟨false, 2, he⟩, hw ▸ tq_same h' hI hL (Below.refl _ _)⟩)
 · obtain ⟨i, rfl⟩ := Int.eq_ofNat_of_zero_le (show 0 ≤ a by omega); by_cases hbu : ∃ t, L i = some t ∧ t.stg < 5
   · obtain ⟨t, ht, h5⟩ := hbu; exact (attempt_off wb i tag 15 bl W (fun w' => W = w') p nb c hv (by decide) (swopen_busy wb sb mb' n' av D' m tbs ttb L ow gb nb' pb mb nn cv D cbs tb own s i tag t W hW hS (by omega) (by omega) ht h5)).mono (fun e w' ⟨he, hw⟩ => ⟨⟨false, 15, he⟩, hw ▸ tq_same h' hI hL (Below.refl _ _)⟩)
   · have hfit := hI.fitsY hk hb.2 i (by omega); refine (attempt_blows wb sb m s cbs L own ow i tag bl nb W h' (by omega) (by omega) (by omega) (fun t ht => by
      by_cases e : t.stg < 5
      · exact absurd ⟨t, ht, e⟩ hbu
      · omega) hfit hbl hnb).mono ?_
     rintro e w' (⟨_, rfl, rfl⟩ | ⟨hg, x, er, t, c', own', ow', rfl, hB, ht0, htg, hch, hto, hgr⟩)
     · exact ⟨⟨_, _, rfl⟩, tq_same h' hI hL (Below.refl _ _)⟩
     · exact ⟨⟨_, _, rfl⟩, _, m + 1, _, own', ow', hB, ⟨hI.chr (by omega) (by omega) hb.1 hch, Nat.le_refl _, (hL.mono (Nat.le_succ k)).set i t ht0 (fun h6 => ⟨m, by omega, (htg h6).2⟩), rfl⟩, hto, hgr⟩
end
end
section
attribute [local go_sem] Oper.semAt_some
def TwoI (R : Int → Bool → World → Prop) (e : Ending) (w' : World) : Prop := ∃ (x : Int) (y : Bool), e = .returned (.tuple #[.int .i64 x, .bool y]) ∧ R x y w'
set_option maxRecDepth 100000 in
theorem system_even (W : World) (ob sb : Nat) (wv : Value) (a b c n m : Int) (bl : Value) (R : Int → Bool → World → Prop) (h0 : W.cell? ⟨ob, 0, none⟩ = some (.pointer (some ⟨sb, 0, none⟩))) (h1 : W.cell? ⟨ob, 1, none⟩ = some wv)
 (hcall : Calls Tryz.prog 57 #[.pointer (some ⟨sb, 0, none⟩)] (W.alloc (.cells #[.int .i64 12, .int .i64 a, .int .i64 b, .int .i64 c, .int .i64 n, .int .i64 m, bl] 35)) (TwoI R)) :
 Calls Tryz.prog 28 #[.pointer (some ⟨ob, 0, none⟩), actV 12 a b c n m bl] W (Two fun x y w' => y = 0 ∧ ∃ x0 ok, x = (if ok = true then x0 else -1) ∧ R x0 ok w') := by
 unfold actV; have hS := actS_alloc h0 h1 12 a b c n m bl; obtain ⟨⟨s0, -⟩, s1, -⟩ := hS; go_enter Tryz.func28, Tryz.ntmps28; go_wp2_with fail
 refine hcall.mono ?_; rintro e w9 ⟨x9, y9, rfl, hr9⟩; have HR := lH hr9; clear hr9; cases y9 with
 | true =>
  go_wp2_with fail
  go_ret2
  exact ⟨_, _, rfl, rfl, x9, true, rfl, HR.out⟩
 | false =>
  go_wp2_with fail
  go_ret2
  exact ⟨_, _, rfl, rfl, x9, false, rfl, HR.out⟩
set_option maxRecDepth 100000 in
theorem system_else (W : World) (ob sb : Nat) (wv : Value) (op a b c n m : Int) (bl : Value) (R : Int → Int → World → Prop) (hop : op < 1 ∨ 12 < op) (h0 : W.cell? ⟨ob, 0, none⟩ = some (.pointer (some ⟨sb, 0, none⟩))) (h1 : W.cell? ⟨ob, 1, none⟩ = some wv)
 (hr : R 0 1 (W.alloc (.cells #[.int .i64 op, .int .i64 a, .int .i64 b, .int .i64 c, .int .i64 n, .int .i64 m, bl] 35))) :
 Calls Tryz.prog 28 #[.pointer (some ⟨ob, 0, none⟩), actV op a b c n m bl] W (Two R) := by
 unfold actV; have hS := actS_alloc h0 h1 op a b c n m bl; have HR := lH hr; obtain ⟨⟨s0, -⟩, s1, -⟩ := hS; have e1 : op ≠ 1 := by omega
 have e2 : op ≠ 2 := by omega
 have e3 : op ≠ 3 := by omega
 have e4 : op ≠ 4 := by omega
 have e5 : op ≠ 5 := by omega
 have e6 : op ≠ 6 := by omega
 have e7 : op ≠ 7 := by omega
 have e8 : op ≠ 8 := by omega
 have e9 : op ≠ 9 := by omega
 have e10 : op ≠ 10 := by omega
 have e11 : op ≠ 11 := by omega
 have e12 : op ≠ 12 := by omega
 clear hop hr; go_enter Tryz.func28, Tryz.ntmps28; go_wp2_with fail
 go_ret2
 exact ⟨0, 1, rfl, HR.out⟩
set_option maxRecDepth 100000 in
theorem try_open (W : World) (ob wb : Nat) (sv : Value) (a b c n m : Int) (bl : Value) (R : Int → World → Prop) (h0 : W.cell? ⟨ob, 0, none⟩ = some sv) (h1 : W.cell? ⟨ob, 1, none⟩ = some (.pointer (some ⟨wb, 0, none⟩)))
 (hcall : Calls Tryz.prog 58 #[.pointer (some ⟨wb, 0, none⟩), .int .i64 a, .int .i64 b] (inAct W 13 a b c n m bl) (One' fun y w' => R y w' ∧ KeepA (inAct W 13 a b c n m bl) ob W.heap.size w')) :
 Calls Tryz.prog 29 #[.pointer (some ⟨ob, 0, none⟩), actV 13 a b c n m bl] W (Two fun x y w' => x = 0 ∧ R y w') := by
 unfold inAct at hcall; unfold actV; have hS := actS_alloc h0 h1 13 a b c n m bl; generalize hB : W.heap.size = B at hS hcall; have hSk : ∀ w', KeepA ((W.alloc (.cells #[.int .i64 13, .int .i64 a, .int .i64 b, .int .i64 c, .int .i64 n, .int .i64 m, bl] 35)).drew) ob B w' → ActS w' ob B sv (.pointer (some ⟨wb, 0, none⟩)) 13 a b c n m bl := fun w' hk => hS.kept hk.1 hk.2; go_enter Tryz.func29, Tryz.ntmps29; go_wp2_with fail
 go_region_held3 (fun W2 => W2.cell? ⟨ob, 1, none⟩ = some (.pointer (some ⟨wb, 0, none⟩)) ∧ W2.cell? ⟨B, 1, none⟩ = some (.int .i64 a) ∧ W2.cell? ⟨B, 2, none⟩ = some (.int .i64 b)) (first | exact ⟨hS.1.2, hS.2.2.1, hS.2.2.2.1⟩ | exact ⟨hS9.1.2, hS9.2.2.1, hS9.2.2.2.1⟩) (first | (go_at_call 58; refine hcall.mono ?_; rintro e w9 ⟨y9, rfl, hr9, hk9⟩; have hS9 := hSk w9 hk9) | fail)
 all_goals
  go_wp2_with fail
  go_ret2
  exact ⟨0, y9, rfl, rfl, hr9⟩
set_option maxRecDepth 100000 in
theorem try_step (W : World) (ob wb : Nat) (sv : Value) (a b c n m : Int) (bl : Value) (R : Int → Int → World → Prop) (h0 : W.cell? ⟨ob, 0, none⟩ = some sv) (h1 : W.cell? ⟨ob, 1, none⟩ = some (.pointer (some ⟨wb, 0, none⟩)))
 (hcall : Calls Tryz.prog 59 #[.pointer (some ⟨wb, 0, none⟩), .int .i64 a] (inAct W 14 a b c n m bl) (Two fun x y w' => R x y w' ∧ KeepA (inAct W 14 a b c n m bl) ob W.heap.size w')) :
 Calls Tryz.prog 29 #[.pointer (some ⟨ob, 0, none⟩), actV 14 a b c n m bl] W (Two R) := by
 unfold inAct at hcall; unfold actV; have hS := actS_alloc h0 h1 14 a b c n m bl; generalize hB : W.heap.size = B at hS hcall; have hSk : ∀ w', KeepA ((W.alloc (.cells #[.int .i64 14, .int .i64 a, .int .i64 b, .int .i64 c, .int .i64 n, .int .i64 m, bl] 35)).drew) ob B w' → ActS w' ob B sv (.pointer (some ⟨wb, 0, none⟩)) 14 a b c n m bl := fun w' hk => hS.kept hk.1 hk.2; go_enter Tryz.func29, Tryz.ntmps29; go_wp2_with fail
 go_region_held3 (fun W2 => W2.cell? ⟨ob, 1, none⟩ = some (.pointer (some ⟨wb, 0, none⟩)) ∧ W2.cell? ⟨B, 1, none⟩ = some (.int .i64 a)) (first | exact ⟨hS.1.2, hS.2.2.1⟩ | exact ⟨hS9.1.2, hS9.2.2.1⟩) (first | (go_at_call 59; refine hcall.mono ?_; rintro e w9 ⟨x9, y9, rfl, hr9, hk9⟩; have hS9 := hSk w9 hk9) | fail)
 all_goals
  go_wp2_with fail
  go_ret2
  exact ⟨x9, y9, rfl, hr9⟩
set_option maxRecDepth 100000 in
theorem try_abort (W : World) (ob wb : Nat) (sv : Value) (a b c n m : Int) (bl : Value) (R : Int → World → Prop) (h0 : W.cell? ⟨ob, 0, none⟩ = some sv) (h1 : W.cell? ⟨ob, 1, none⟩ = some (.pointer (some ⟨wb, 0, none⟩)))
 (hcall : Calls Tryz.prog 60 #[.pointer (some ⟨wb, 0, none⟩), .int .i64 a] (inAct W 15 a b c n m bl) (One' fun y w' => R y w' ∧ KeepA (inAct W 15 a b c n m bl) ob W.heap.size w')) :
 Calls Tryz.prog 29 #[.pointer (some ⟨ob, 0, none⟩), actV 15 a b c n m bl] W (Two fun x y w' => x = 0 ∧ R y w') := by
 unfold inAct at hcall; unfold actV; have hS := actS_alloc h0 h1 15 a b c n m bl; generalize hB : W.heap.size = B at hS hcall; have hSk : ∀ w', KeepA ((W.alloc (.cells #[.int .i64 15, .int .i64 a, .int .i64 b, .int .i64 c, .int .i64 n, .int .i64 m, bl] 35)).drew) ob B w' → ActS w' ob B sv (.pointer (some ⟨wb, 0, none⟩)) 15 a b c n m bl := fun w' hk => hS.kept hk.1 hk.2; go_enter Tryz.func29, Tryz.ntmps29; go_wp2_with fail
 go_region_held3 (fun W2 => W2.cell? ⟨ob, 1, none⟩ = some (.pointer (some ⟨wb, 0, none⟩)) ∧ W2.cell? ⟨B, 1, none⟩ = some (.int .i64 a)) (first | exact ⟨hS.1.2, hS.2.2.1⟩ | exact ⟨hS9.1.2, hS9.2.2.1⟩) (first | (go_at_call 60; refine hcall.mono ?_; rintro e w9 ⟨y9, rfl, hr9, hk9⟩; have hS9 := hSk w9 hk9) | fail)
 all_goals
  go_wp2_with fail
  go_ret2
  exact ⟨0, y9, rfl, rfl, hr9⟩
end
end Go.Proofs.YtoiajjobecinpaaGreat
