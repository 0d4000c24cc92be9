/- The three policies' own methods: Held, Enter, Put, Charge, Form. A queue runs: policy.Run, Tag. A core in memory: of, Ne -/
import Derived.Maps.Views
import Derived.Maps.OwnSet
import Derived.Test.YtoiajjobecinpaaGreatTA04
set_option maxHeartbeats 4000000
namespace Go.Proofs.YtoiajjobecinpaaGreat
open Go.RowKit Go.Shelf Go.Lib Go.Proofs
set_option linter.unusedVariables false
set_option linter.unusedSimpArgs false
def heldS (lag : Int) : Int := min lag 0
def heldF (lag : Int) : Int := min lag 698377680
def heldD (lag : Int) : Int := if lag < -698377680 then -698377680 else if 698377680 < lag then 698377680 else lag
theorem held_stride (lag : Int) (W : World) : Calls Tryz.prog 270 #[.int .i64 lag] W fun e w' => e = .returned (.int .i64 (heldS lag)) ∧ W = w' := by
 unfold heldS; go_enter Tryz.func270, Tryz.ntmps270; go_wp2
 go_ret
 exact ⟨rfl, rfl⟩
theorem held_fair (lag : Int) (W : World) : Calls Tryz.prog 308 #[.int .i64 lag] W fun e w' => e = .returned (.int .i64 (heldF lag)) ∧ W = w' := by
 unfold heldF; go_enter Tryz.func308, Tryz.ntmps308; go_wp2
 go_ret
 exact ⟨rfl, rfl⟩
theorem held_due (lag : Int) (W : World) : Calls Tryz.prog 318 #[.int .i64 lag] W fun e w' => e = .returned (.int .i64 (heldD lag)) ∧ W = w' := by
 unfold heldD; by_cases h1 : lag < -698377680
 · rw [if_pos h1]; go_enter Tryz.func318, Tryz.ntmps318; go_wp2
   go_ret
   exact ⟨rfl, rfl⟩
 · rw [if_neg h1]; by_cases h2 : 698377680 < lag
   · rw [if_pos h2]; go_enter Tryz.func318, Tryz.ntmps318; go_wp2
     go_ret
     exact ⟨rfl, rfl⟩
   · rw [if_neg h2]; go_enter Tryz.func318, Tryz.ntmps318; go_wp2
     go_ret
     exact ⟨rfl, rfl⟩
def PutP (b : Nat) (v : Value) (l : Ln) (id w lag r : Int) (W : World) (e : Ending) (w' : World) : Prop :=
 (r ≠ 0 → e = .returned (.int .i64 r) ∧ Below W.heap.size W w') ∧
 (r = 0 → e = .returned (.int .i64 0) ∧ ∃ v', LineAt w' b v' (putL l id w lag) ∧ Touch (lfp b v) W w' ∧ (∀ k, v'.ownBlock = some k → v.ownBlock = some k ∨ W.heap.size ≤ k))
def Fits (l : Ln) : Prop := l.ps.length ≤ 64 ∧ ById l.ps ∧ (-2305843009213693952 ≤ l.base ∧ l.base ≤ 2305843009213693952) ∧ ∀ p ∈ l.ps, (-2305843009213693952 ≤ p.v ∧ p.v ≤ 4611686018427387904) ∧ (0 ≤ p.w ∧ p.w ≤ 20)
theorem put_any (b : Nat) (v : Value) (l : Ln) (id w lag : Int) (W : World) (h : LineAt W b v l) (hf : Fits l) :
 Calls Tryz.prog 269 #[.pointer (some ⟨b, 0, none⟩), .int .i64 id, .int .i64 w, .int .i64 lag] W (PutP b v l id w lag (mayE l id w lag) W) := by
 by_cases hm : mayE l id w lag = 0
 · exact (put_ok b v l id w lag W h hf.1 hm hf.2.1 hf.2.2.1).mono (fun _ _ hp => ⟨fun hn => absurd hm hn, fun _ => hp⟩)
 · exact (put_err b v l id w lag W h hm).mono (fun _ _ hp => ⟨fun _ => hp, fun hz => absurd hz hm⟩)
theorem mayE_held {l : Ln} {id w lag lag' : Int} (h : mayE l id w lag = 0) (h1 : -1125899906842624 ≤ lag') (h2 : lag' ≤ 1125899906842624) : mayE l id w lag' = 0 := by
 unfold mayE mayI at h ⊢; split at h
 · rename_i hc; simp only [Bool.and_eq_true, decide_eq_true_eq] at hc; rw [if_pos (by simp only [Bool.and_eq_true, decide_eq_true_eq]; exact ⟨hc.1, hc.2.1, hc.2.2.1, h1, h2⟩)]; exact h
 · omega
theorem mayE_lag {l : Ln} {id w lag : Int} (h : mayE l id w lag = 0) : -1125899906842624 ≤ lag ∧ lag ≤ 1125899906842624 := by
 unfold mayE mayI at h; split at h
 · rename_i hc; simp only [Bool.and_eq_true, decide_eq_true_eq] at hc; exact hc.2.2.2
 · omega
theorem qput_stride (b : Nat) (v : Value) (l : Ln) (id w lag : Int) (W : World) (h : LineAt W b v l) (hf : Fits l) :
 Calls Tryz.prog 265 #[.pointer (some ⟨b, 0, none⟩), .int .i64 id, .int .i64 w, .int .i64 lag] W (PutP b v l id w lag (mayE l id w lag) W) := by
 have hp := put_any b v l id w lag W h hf; generalize mayE l id w lag = r at hp ⊢; clear h hf; go_enter Tryz.func265, Tryz.ntmps265; go_wp2_with fail
 refine hp.mono ?_; rintro e w' ⟨h1, h2⟩; by_cases hr : r = 0
 · obtain ⟨rfl, h3⟩ := h2 hr; have H3 := lH h3; clear h1 h2 h3; go_wp2_with fail
   go_ret
   exact ⟨fun hn => absurd hr hn, fun _ => ⟨rfl, H3.out⟩⟩
 · obtain ⟨rfl, h3⟩ := h1 hr; have H3 := lH h3; clear h1 h2 h3; go_wp2_with fail
   go_ret
   exact ⟨fun _ => ⟨rfl, H3.out⟩, fun hz => absurd hz hr⟩
theorem qenter_stride (b : Nat) (v : Value) (l : Ln) (id w lag : Int) (W : World) (h : LineAt W b v l) (hf : Fits l) :
 Calls Tryz.prog 261 #[.pointer (some ⟨b, 0, none⟩), .int .i64 id, .int .i64 w, .int .i64 lag] W (PutP b v l id w (heldS lag) (mayE l id w lag) W) := by
 have hmay := may_any b v l id w lag W h; have hheld := fun W' => held_stride lag W'; by_cases hm : mayE l id w lag = 0
 · have hlg := mayE_lag hm; have hm2 : mayE l id w (heldS lag) = 0 := mayE_held hm (by unfold heldS; (repeat' split) <;> omega) (by unfold heldS; (repeat' split) <;> omega); have hput := fun W' h' => put_any b v l id w (heldS lag) W' h' hf; rw [hm2] at hput; rw [hm] at hmay; generalize heldS lag = lag' at hheld hput; have HL := lH h; have HM := lH hm; clear h hf hm hm2; go_enter Tryz.func261, Tryz.ntmps261; go_wp2_with fail
   refine hmay.mono ?_; rintro e w0 ⟨rfl, hb0⟩; have hL := (HL.out.below hb0).drew; have hT : Touch (lfp b v) W w0.drew := (Touch.of_below hb0).drew; have hp := hput _ hL; clear hput; go_wp2_with fail
   go_region_with (first | (go_at_call 270; refine (hheld _).mono ?_; rintro e w' ⟨rfl, rfl⟩) | (go_at_call 269; refine hp.mono ?_; rintro e w' ⟨-, h2⟩; obtain ⟨rfl, h3⟩ := h2 rfl; have H3 := lH h3; clear h2 h3))
   all_goals
    go_wp2_with fail
    go_ret
    obtain ⟨v', k1, k2, k3⟩ := H3.out; refine ⟨fun hn => absurd HM.out hn, fun _ => ⟨rfl, v', k1, hT.self k2, fun k hk => (k3 k hk).imp (fun hh => hh) (fun hh => ?_)⟩⟩; have := hT.size; omega
 · have hr : (mayE l id w lag != 0) = true := by simp [hm]
   have hr2 : (mayE l id w lag == 0) = false := by simp [hm]
   generalize mayE l id w lag = r at hm hmay hr hr2 ⊢; clear h hf; go_enter Tryz.func261, Tryz.ntmps261; go_wp2_with fail
   refine hmay.mono ?_; rintro e w0 ⟨rfl, hb0⟩; have HB := lH hb0; clear hb0; go_wp2_with fail
   go_ret
   exact ⟨fun _ => ⟨rfl, HB.out⟩, fun hz => absurd hz hm⟩
theorem qcharge_none_stride (b : Nat) (v : Value) (l : Ln) (W : World) (h : LineAt W b v l) (hp : posP l.ps l.cur < 0) :
 Calls Tryz.prog 260 #[.pointer (some ⟨b, 0, none⟩)] W fun e w' => e = .returned (.tuple #[.int .i64 0, .int .i64 14]) ∧ Below W.heap.size W w' := by
 have hc := charge_none b v l W h hp; clear h hp; go_enter Tryz.func260, Tryz.ntmps260; go_wp2_with fail
 refine hc.mono ?_; rintro e w' ⟨rfl, hb⟩; go_wp2_with fail
 go_ret2
 exact ⟨rfl, hb⟩
theorem qcharge_hit_stride (b : Nat) (v : Value) (l : Ln) (W : World) (h : LineAt W b v l) (hf : Fits l) (k : Nat) (hk : k < l.ps.length) (hp : posP l.ps l.cur = k) (p : Pt) (hpk : l.ps[k]! = p) :
 Calls Tryz.prog 260 #[.pointer (some ⟨b, 0, none⟩)] W (ChargeP b v l k p (stepI p.w) W) := by
 have hmem : p ∈ l.ps := by rw [← hpk, getElem!_list hk]; exact List.getElem_mem hk
 have hc := charge_hit b v l W h hf.1 k hk hp p hpk (hf.2.2.2 p hmem).1; generalize stepI p.w = s at hc ⊢; clear h hp hf hmem; go_enter Tryz.func260, Tryz.ntmps260; go_wp2_with fail
 refine hc.mono ?_; rintro e w' ⟨h1, h2⟩; by_cases hover : 2305843009213693952 < p.v + s
 · obtain ⟨rfl, h3⟩ := h1 hover; have H3 := lH h3; clear h1 h2 h3; go_wp2_with fail
   go_ret2
   exact ⟨fun _ => ⟨rfl, H3.out⟩, fun hz => absurd hover hz⟩
 · obtain ⟨rfl, h3⟩ := h2 hover; have H3 := lH h3; clear h1 h2 h3; go_wp2_with fail
   go_ret2
   exact ⟨fun hz => absurd hz (by omega), fun _ => ⟨rfl, H3.out⟩⟩
theorem qform_stride (b : Nat) (v : Value) (l : Ln) (W : World) (h : LineAt W b v l) (hf : Fits l) :
 Calls Tryz.prog 262 #[.pointer (some ⟨b, 0, none⟩)] W (FormP W l.cur (formL l)) := by
 have hform := form_any b v l (W.alloc (.cells #[.int .i64 0, .slice none 0 0] 70)) (h.alloc _) hf.1 (by have := hf.2.2.1; omega) (fun p hp => (hf.2.2.2 p hp).1); have hlt := h.lt b (.inl rfl); generalize formL l = its at hform ⊢; generalize l.cur = cur at hform ⊢; clear h hf; go_enter Tryz.func262, Tryz.ntmps262; go_wp2_with fail
 refine hform.mono ?_; rintro e w' ⟨v', rfl, hrow, hb⟩; obtain ⟨sa, sn, sc, rfl⟩ : ∃ a n c, v' = .slice a n c := by
  rcases hrow.2 with ⟨rfl, _⟩ | ⟨g, cap, cur, rfl, _⟩
  · exact ⟨_, _, _, rfl⟩
  · exact ⟨_, _, _, rfl⟩
 have hres : w'.heap[W.heap.size]? = some (.cells #[.int .i64 0, .slice none 0 0] 70 (0, 0)) := (hb.block _ (by simp)).trans (heap_alloc_new W _)
 have g0 : w'.cell? ⟨W.heap.size, 0, none⟩ = some (.int .i64 0) := by simp only [World.cell?, hres]; rfl
 have g1 : w'.cell? ⟨W.heap.size, 1, none⟩ = some (.slice none 0 0) := by simp only [World.cell?, hres]; rfl
 have f0 : w'.frozen? ⟨W.heap.size, 0, none⟩ = false := by simp only [World.frozen?, hres]; simp
 have f1 : w'.frozen? ⟨W.heap.size, 1, none⟩ = false := by simp only [World.frozen?, hres]; simp
 have HG0 : Hid (((w'.setCell ⟨W.heap.size, 0, none⟩ (.int .i64 cur)).setCell ⟨W.heap.size, 1, none⟩ (.slice sa sn sc)).cell? ⟨W.heap.size, 0, none⟩ = some (.int .i64 cur)) :=
  lH (by rw [cell_setCell_ne _ (by simp)]; exact World.cell?_setCell_same _ _ _ g0)
 have HG1 : Hid (((w'.setCell ⟨W.heap.size, 0, none⟩ (.int .i64 cur)).setCell ⟨W.heap.size, 1, none⟩ (.slice sa sn sc)).cell? ⟨W.heap.size, 1, none⟩ = some (.slice sa sn sc)) :=
  lH (World.cell?_setCell_same _ _ _ (by rw [cell_setCell_ne _ (by simp)]; exact g1))
 have HROW : Hid (((w'.setCell ⟨W.heap.size, 0, none⟩ (.int .i64 cur)).setCell ⟨W.heap.size, 1, none⟩ (.slice sa sn sc)).ownsRow W.heap.size 77 3 (.slice sa sn sc) its.length (flatI its)) := by
  refine lH (ownsRow_base (ownsRow_same hrow (fun j hj => ?_)) (by simp)); have := (hrow.lt j hj).1; simp at this; rw [Below.heap_setCell _ _ _ _ (by simp; omega), Below.heap_setCell _ _ _ _ (by simp; omega)]
 have HB := lH hb; clear hrow hb hres; go_wp2
 exact bodyPost_ret (v := .agg #[.int .i64 cur, .slice sa sn sc]) (by simp [results, Tryz.results262, go_sem, HG0.out, HG1.out]) rfl ⟨_, rfl, HROW.out, ((((Below.refl _ _).alloc (Nat.le_refl _) _).trans (HB.out.mono (by simp))).setCell (by simp) _).setCell (by simp) _⟩
theorem qput_fair (b : Nat) (v : Value) (l : Ln) (id w lag : Int) (W : World) (h : LineAt W b v l) (hf : Fits l) :
 Calls Tryz.prog 306 #[.pointer (some ⟨b, 0, none⟩), .int .i64 id, .int .i64 w, .int .i64 lag] W (PutP b v l id w lag (mayE l id w lag) W) := by
 have hp := put_any b v l id w lag W h hf; generalize mayE l id w lag = r at hp ⊢; clear h hf; go_enter Tryz.func306, Tryz.ntmps306; go_wp2_with fail
 refine hp.mono ?_; rintro e w' ⟨h1, h2⟩; by_cases hr : r = 0
 · obtain ⟨rfl, h3⟩ := h2 hr; have H3 := lH h3; clear h1 h2 h3; go_wp2_with fail
   go_ret
   exact ⟨fun hn => absurd hr hn, fun _ => ⟨rfl, H3.out⟩⟩
 · obtain ⟨rfl, h3⟩ := h1 hr; have H3 := lH h3; clear h1 h2 h3; go_wp2_with fail
   go_ret
   exact ⟨fun _ => ⟨rfl, H3.out⟩, fun hz => absurd hz hr⟩
theorem qenter_fair (b : Nat) (v : Value) (l : Ln) (id w lag : Int) (W : World) (h : LineAt W b v l) (hf : Fits l) :
 Calls Tryz.prog 302 #[.pointer (some ⟨b, 0, none⟩), .int .i64 id, .int .i64 w, .int .i64 lag] W (PutP b v l id w (heldF lag) (mayE l id w lag) W) := by
 have hmay := may_any b v l id w lag W h; have hheld := fun W' => held_fair lag W'; by_cases hm : mayE l id w lag = 0
 · have hlg := mayE_lag hm; have hm2 : mayE l id w (heldF lag) = 0 := mayE_held hm (by unfold heldF; (repeat' split) <;> omega) (by unfold heldF; (repeat' split) <;> omega); have hput := fun W' h' => put_any b v l id w (heldF lag) W' h' hf; rw [hm2] at hput; rw [hm] at hmay; generalize heldF lag = lag' at hheld hput; have HL := lH h; have HM := lH hm; clear h hf hm hm2; go_enter Tryz.func302, Tryz.ntmps302; go_wp2_with fail
   refine hmay.mono ?_; rintro e w0 ⟨rfl, hb0⟩; have hL := (HL.out.below hb0).drew; have hT : Touch (lfp b v) W w0.drew := (Touch.of_below hb0).drew; have hp := hput _ hL; clear hput; go_wp2_with fail
   go_region_with (first | (go_at_call 308; refine (hheld _).mono ?_; rintro e w' ⟨rfl, rfl⟩) | (go_at_call 269; refine hp.mono ?_; rintro e w' ⟨-, h2⟩; obtain ⟨rfl, h3⟩ := h2 rfl; have H3 := lH h3; clear h2 h3))
   all_goals
    go_wp2_with fail
    go_ret
    obtain ⟨v', k1, k2, k3⟩ := H3.out; refine ⟨fun hn => absurd HM.out hn, fun _ => ⟨rfl, v', k1, hT.self k2, fun k hk => (k3 k hk).imp (fun hh => hh) (fun hh => ?_)⟩⟩; have := hT.size; omega
 · have hr : (mayE l id w lag != 0) = true := by simp [hm]
   have hr2 : (mayE l id w lag == 0) = false := by simp [hm]
   generalize mayE l id w lag = r at hm hmay hr hr2 ⊢; clear h hf; go_enter Tryz.func302, Tryz.ntmps302; go_wp2_with fail
   refine hmay.mono ?_; rintro e w0 ⟨rfl, hb0⟩; have HB := lH hb0; clear hb0; go_wp2_with fail
   go_ret
   exact ⟨fun _ => ⟨rfl, HB.out⟩, fun hz => absurd hz hm⟩
theorem qcharge_none_fair (b : Nat) (v : Value) (l : Ln) (W : World) (h : LineAt W b v l) (hp : posP l.ps l.cur < 0) :
 Calls Tryz.prog 301 #[.pointer (some ⟨b, 0, none⟩)] W fun e w' => e = .returned (.tuple #[.int .i64 0, .int .i64 14]) ∧ Below W.heap.size W w' := by
 have hc := charge_none b v l W h hp; clear h hp; go_enter Tryz.func301, Tryz.ntmps301; go_wp2_with fail
 refine hc.mono ?_; rintro e w' ⟨rfl, hb⟩; go_wp2_with fail
 go_ret2
 exact ⟨rfl, hb⟩
theorem qcharge_hit_fair (b : Nat) (v : Value) (l : Ln) (W : World) (h : LineAt W b v l) (hf : Fits l) (k : Nat) (hk : k < l.ps.length) (hp : posP l.ps l.cur = k) (p : Pt) (hpk : l.ps[k]! = p) :
 Calls Tryz.prog 301 #[.pointer (some ⟨b, 0, none⟩)] W (ChargeP b v l k p (stepI p.w) W) := by
 have hmem : p ∈ l.ps := by rw [← hpk, getElem!_list hk]; exact List.getElem_mem hk
 have hc := charge_hit b v l W h hf.1 k hk hp p hpk (hf.2.2.2 p hmem).1; generalize stepI p.w = s at hc ⊢; clear h hp hf hmem; go_enter Tryz.func301, Tryz.ntmps301; go_wp2_with fail
 refine hc.mono ?_; rintro e w' ⟨h1, h2⟩; by_cases hover : 2305843009213693952 < p.v + s
 · obtain ⟨rfl, h3⟩ := h1 hover; have H3 := lH h3; clear h1 h2 h3; go_wp2_with fail
   go_ret2
   exact ⟨fun _ => ⟨rfl, H3.out⟩, fun hz => absurd hover hz⟩
 · obtain ⟨rfl, h3⟩ := h2 hover; have H3 := lH h3; clear h1 h2 h3; go_wp2_with fail
   go_ret2
   exact ⟨fun hz => absurd hz (by omega), fun _ => ⟨rfl, H3.out⟩⟩
theorem qform_fair (b : Nat) (v : Value) (l : Ln) (W : World) (h : LineAt W b v l) (hf : Fits l) :
 Calls Tryz.prog 303 #[.pointer (some ⟨b, 0, none⟩)] W (FormP W l.cur (formL l)) := by
 have hform := form_any b v l (W.alloc (.cells #[.int .i64 0, .slice none 0 0] 70)) (h.alloc _) hf.1 (by have := hf.2.2.1; omega) (fun p hp => (hf.2.2.2 p hp).1); have hlt := h.lt b (.inl rfl); generalize formL l = its at hform ⊢; generalize l.cur = cur at hform ⊢; clear h hf; go_enter Tryz.func303, Tryz.ntmps303; go_wp2_with fail
 refine hform.mono ?_; rintro e w' ⟨v', rfl, hrow, hb⟩; obtain ⟨sa, sn, sc, rfl⟩ : ∃ a n c, v' = .slice a n c := by
  rcases hrow.2 with ⟨rfl, _⟩ | ⟨g, cap, cur, rfl, _⟩
  · exact ⟨_, _, _, rfl⟩
  · exact ⟨_, _, _, rfl⟩
 have hres : w'.heap[W.heap.size]? = some (.cells #[.int .i64 0, .slice none 0 0] 70 (0, 0)) := (hb.block _ (by simp)).trans (heap_alloc_new W _)
 have g0 : w'.cell? ⟨W.heap.size, 0, none⟩ = some (.int .i64 0) := by simp only [World.cell?, hres]; rfl
 have g1 : w'.cell? ⟨W.heap.size, 1, none⟩ = some (.slice none 0 0) := by simp only [World.cell?, hres]; rfl
 have f0 : w'.frozen? ⟨W.heap.size, 0, none⟩ = false := by simp only [World.frozen?, hres]; simp
 have f1 : w'.frozen? ⟨W.heap.size, 1, none⟩ = false := by simp only [World.frozen?, hres]; simp
 have HG0 : Hid (((w'.setCell ⟨W.heap.size, 0, none⟩ (.int .i64 cur)).setCell ⟨W.heap.size, 1, none⟩ (.slice sa sn sc)).cell? ⟨W.heap.size, 0, none⟩ = some (.int .i64 cur)) :=
  lH (by rw [cell_setCell_ne _ (by simp)]; exact World.cell?_setCell_same _ _ _ g0)
 have HG1 : Hid (((w'.setCell ⟨W.heap.size, 0, none⟩ (.int .i64 cur)).setCell ⟨W.heap.size, 1, none⟩ (.slice sa sn sc)).cell? ⟨W.heap.size, 1, none⟩ = some (.slice sa sn sc)) :=
  lH (World.cell?_setCell_same _ _ _ (by rw [cell_setCell_ne _ (by simp)]; exact g1))
 have HROW : Hid (((w'.setCell ⟨W.heap.size, 0, none⟩ (.int .i64 cur)).setCell ⟨W.heap.size, 1, none⟩ (.slice sa sn sc)).ownsRow W.heap.size 77 3 (.slice sa sn sc) its.length (flatI its)) := by
  refine lH (ownsRow_base (ownsRow_same hrow (fun j hj => ?_)) (by simp)); have := (hrow.lt j hj).1; simp at this; rw [Below.heap_setCell _ _ _ _ (by simp; omega), Below.heap_setCell _ _ _ _ (by simp; omega)]
 have HB := lH hb; clear hrow hb hres; go_wp2
 exact bodyPost_ret (v := .agg #[.int .i64 cur, .slice sa sn sc]) (by simp [results, Tryz.results303, go_sem, HG0.out, HG1.out]) rfl ⟨_, rfl, HROW.out, ((((Below.refl _ _).alloc (Nat.le_refl _) _).trans (HB.out.mono (by simp))).setCell (by simp) _).setCell (by simp) _⟩
theorem qput_due (b : Nat) (v : Value) (l : Ln) (id w lag : Int) (W : World) (h : LineAt W b v l) (hf : Fits l) :
 Calls Tryz.prog 316 #[.pointer (some ⟨b, 0, none⟩), .int .i64 id, .int .i64 w, .int .i64 lag] W (PutP b v l id w lag (mayE l id w lag) W) := by
 have hp := put_any b v l id w lag W h hf; generalize mayE l id w lag = r at hp ⊢; clear h hf; go_enter Tryz.func316, Tryz.ntmps316; go_wp2_with fail
 refine hp.mono ?_; rintro e w' ⟨h1, h2⟩; by_cases hr : r = 0
 · obtain ⟨rfl, h3⟩ := h2 hr; have H3 := lH h3; clear h1 h2 h3; go_wp2_with fail
   go_ret
   exact ⟨fun hn => absurd hr hn, fun _ => ⟨rfl, H3.out⟩⟩
 · obtain ⟨rfl, h3⟩ := h1 hr; have H3 := lH h3; clear h1 h2 h3; go_wp2_with fail
   go_ret
   exact ⟨fun _ => ⟨rfl, H3.out⟩, fun hz => absurd hz hr⟩
theorem qenter_due (b : Nat) (v : Value) (l : Ln) (id w lag : Int) (W : World) (h : LineAt W b v l) (hf : Fits l) :
 Calls Tryz.prog 312 #[.pointer (some ⟨b, 0, none⟩), .int .i64 id, .int .i64 w, .int .i64 lag] W (PutP b v l id w (heldD lag) (mayE l id w lag) W) := by
 have hmay := may_any b v l id w lag W h; have hheld := fun W' => held_due lag W'; by_cases hm : mayE l id w lag = 0
 · have hlg := mayE_lag hm; have hm2 : mayE l id w (heldD lag) = 0 := mayE_held hm (by unfold heldD; (repeat' split) <;> omega) (by unfold heldD; (repeat' split) <;> omega); have hput := fun W' h' => put_any b v l id w (heldD lag) W' h' hf; rw [hm2] at hput; rw [hm] at hmay; generalize heldD lag = lag' at hheld hput; have HL := lH h; have HM := lH hm; clear h hf hm hm2; go_enter Tryz.func312, Tryz.ntmps312; go_wp2_with fail
   refine hmay.mono ?_; rintro e w0 ⟨rfl, hb0⟩; have hL := (HL.out.below hb0).drew; have hT : Touch (lfp b v) W w0.drew := (Touch.of_below hb0).drew; have hp := hput _ hL; clear hput; go_wp2_with fail
   go_region_with (first | (go_at_call 318; refine (hheld _).mono ?_; rintro e w' ⟨rfl, rfl⟩) | (go_at_call 269; refine hp.mono ?_; rintro e w' ⟨-, h2⟩; obtain ⟨rfl, h3⟩ := h2 rfl; have H3 := lH h3; clear h2 h3))
   all_goals
    go_wp2_with fail
    go_ret
    obtain ⟨v', k1, k2, k3⟩ := H3.out; refine ⟨fun hn => absurd HM.out hn, fun _ => ⟨rfl, v', k1, hT.self k2, fun k hk => (k3 k hk).imp (fun hh => hh) (fun hh => ?_)⟩⟩; have := hT.size; omega
 · have hr : (mayE l id w lag != 0) = true := by simp [hm]
   have hr2 : (mayE l id w lag == 0) = false := by simp [hm]
   generalize mayE l id w lag = r at hm hmay hr hr2 ⊢; clear h hf; go_enter Tryz.func312, Tryz.ntmps312; go_wp2_with fail
   refine hmay.mono ?_; rintro e w0 ⟨rfl, hb0⟩; have HB := lH hb0; clear hb0; go_wp2_with fail
   go_ret
   exact ⟨fun _ => ⟨rfl, HB.out⟩, fun hz => absurd hz hm⟩
theorem qcharge_none_due (b : Nat) (v : Value) (l : Ln) (W : World) (h : LineAt W b v l) (hp : posP l.ps l.cur < 0) :
 Calls Tryz.prog 311 #[.pointer (some ⟨b, 0, none⟩)] W fun e w' => e = .returned (.tuple #[.int .i64 0, .int .i64 14]) ∧ Below W.heap.size W w' := by
 have hc := charge_none b v l W h hp; clear h hp; go_enter Tryz.func311, Tryz.ntmps311; go_wp2_with fail
 refine hc.mono ?_; rintro e w' ⟨rfl, hb⟩; go_wp2_with fail
 go_ret2
 exact ⟨rfl, hb⟩
theorem qcharge_hit_due (b : Nat) (v : Value) (l : Ln) (W : World) (h : LineAt W b v l) (hf : Fits l) (k : Nat) (hk : k < l.ps.length) (hp : posP l.ps l.cur = k) (p : Pt) (hpk : l.ps[k]! = p) :
 Calls Tryz.prog 311 #[.pointer (some ⟨b, 0, none⟩)] W (ChargeP b v l k p (stepI p.w) W) := by
 have hmem : p ∈ l.ps := by rw [← hpk, getElem!_list hk]; exact List.getElem_mem hk
 have hc := charge_hit b v l W h hf.1 k hk hp p hpk (hf.2.2.2 p hmem).1; generalize stepI p.w = s at hc ⊢; clear h hp hf hmem; go_enter Tryz.func311, Tryz.ntmps311; go_wp2_with fail
 refine hc.mono ?_; rintro e w' ⟨h1, h2⟩; by_cases hover : 2305843009213693952 < p.v + s
 · obtain ⟨rfl, h3⟩ := h1 hover; have H3 := lH h3; clear h1 h2 h3; go_wp2_with fail
   go_ret2
   exact ⟨fun _ => ⟨rfl, H3.out⟩, fun hz => absurd hover hz⟩
 · obtain ⟨rfl, h3⟩ := h2 hover; have H3 := lH h3; clear h1 h2 h3; go_wp2_with fail
   go_ret2
   exact ⟨fun hz => absurd hz (by omega), fun _ => ⟨rfl, H3.out⟩⟩
theorem qform_due (b : Nat) (v : Value) (l : Ln) (W : World) (h : LineAt W b v l) (hf : Fits l) :
 Calls Tryz.prog 313 #[.pointer (some ⟨b, 0, none⟩)] W (FormP W l.cur (formL l)) := by
 have hform := form_any b v l (W.alloc (.cells #[.int .i64 0, .slice none 0 0] 70)) (h.alloc _) hf.1 (by have := hf.2.2.1; omega) (fun p hp => (hf.2.2.2 p hp).1); have hlt := h.lt b (.inl rfl); generalize formL l = its at hform ⊢; generalize l.cur = cur at hform ⊢; clear h hf; go_enter Tryz.func313, Tryz.ntmps313; go_wp2_with fail
 refine hform.mono ?_; rintro e w' ⟨v', rfl, hrow, hb⟩; obtain ⟨sa, sn, sc, rfl⟩ : ∃ a n c, v' = .slice a n c := by
  rcases hrow.2 with ⟨rfl, _⟩ | ⟨g, cap, cur, rfl, _⟩
  · exact ⟨_, _, _, rfl⟩
  · exact ⟨_, _, _, rfl⟩
 have hres : w'.heap[W.heap.size]? = some (.cells #[.int .i64 0, .slice none 0 0] 70 (0, 0)) := (hb.block _ (by simp)).trans (heap_alloc_new W _)
 have g0 : w'.cell? ⟨W.heap.size, 0, none⟩ = some (.int .i64 0) := by simp only [World.cell?, hres]; rfl
 have g1 : w'.cell? ⟨W.heap.size, 1, none⟩ = some (.slice none 0 0) := by simp only [World.cell?, hres]; rfl
 have f0 : w'.frozen? ⟨W.heap.size, 0, none⟩ = false := by simp only [World.frozen?, hres]; simp
 have f1 : w'.frozen? ⟨W.heap.size, 1, none⟩ = false := by simp only [World.frozen?, hres]; simp
 have HG0 : Hid (((w'.setCell ⟨W.heap.size, 0, none⟩ (.int .i64 cur)).setCell ⟨W.heap.size, 1, none⟩ (.slice sa sn sc)).cell? ⟨W.heap.size, 0, none⟩ = some (.int .i64 cur)) :=
  lH (by rw [cell_setCell_ne _ (by simp)]; exact World.cell?_setCell_same _ _ _ g0)
 have HG1 : Hid (((w'.setCell ⟨W.heap.size, 0, none⟩ (.int .i64 cur)).setCell ⟨W.heap.size, 1, none⟩ (.slice sa sn sc)).cell? ⟨W.heap.size, 1, none⟩ = some (.slice sa sn sc)) :=
  lH (World.cell?_setCell_same _ _ _ (by rw [cell_setCell_ne _ (by simp)]; exact g1))
 have HROW : Hid (((w'.setCell ⟨W.heap.size, 0, none⟩ (.int .i64 cur)).setCell ⟨W.heap.size, 1, none⟩ (.slice sa sn sc)).ownsRow W.heap.size 77 3 (.slice sa sn sc) its.length (flatI its)) := by
  refine lH (ownsRow_base (ownsRow_same hrow (fun j hj => ?_)) (by simp)); have := (hrow.lt j hj).1; simp at this; rw [Below.heap_setCell _ _ _ _ (by simp; omega), Below.heap_setCell _ _ _ _ (by simp; omega)]
 have HB := lH hb; clear hrow hb hres; go_wp2
 exact bodyPost_ret (v := .agg #[.int .i64 cur, .slice sa sn sc]) (by simp [results, Tryz.results313, go_sem, HG0.out, HG1.out]) rfl ⟨_, rfl, HROW.out, ((((Below.refl _ _).alloc (Nat.le_refl _) _).trans (HB.out.mono (by simp))).setCell (by simp) _).setCell (by simp) _⟩
def pickT (tag : Int) (l : Ln) : Ln := if tag = 0 then takeL l else if tag = 1 then pickF l else pickD l
def heldT (tag lag : Int) : Int := if tag = 0 then heldS lag else if tag = 1 then heldF lag else heldD lag
def runL (tag : Int) (l : Ln) : Int × Int × Ln := chargeL (pickT tag l)
theorem takeL_ps (l : Ln) : (takeL l).ps = l.ps ∧ (takeL l).base = l.base := ⟨rfl, rfl⟩
theorem pickF_ps (l : Ln) : (pickF l).ps = l.ps ∧ (pickF l).base = l.base := by
 unfold pickF; split
 · exact ⟨rfl, rfl⟩
 · split <;> exact ⟨rfl, rfl⟩
theorem pickD_ps (l : Ln) : (pickD l).ps = l.ps ∧ (pickD l).base = l.base := ⟨rfl, rfl⟩
theorem Fits.of {l l' : Ln} (h : Fits l) (h1 : l'.ps = l.ps) (h2 : l'.base = l.base) : Fits l' := by
 unfold Fits at *; rw [h1, h2]; exact h
def ChargeQ (b : Nat) (v : Value) (r : Int × Int × Ln) (W : World) (e : Ending) (w' : World) : Prop :=
 e = .returned (.tuple #[.int .i64 r.1, .int .i64 r.2.1]) ∧ LineAt w' b v r.2.2 ∧ Touch (lfp b v) W w'
theorem chargeQ_of {b : Nat} {v : Value} {l : Ln} {k : Nat} {p : Pt} {W w' : World} {e : Ending} (hL : LineAt W b v l) (hp : posP l.ps l.cur = k) (hpk : l.ps[k]! = p) (h : ChargeP b v l k p (stepI p.w) W e w') :
 ChargeQ b v (chargeL l) W e w' := by
 unfold chargeL; rw [hp]; rw [if_neg (by omega)]; simp only [Int.toNat_natCast, hpk]; split
 · rename_i hov; obtain ⟨he, hb⟩ := h.1 hov; exact ⟨he, hL.below hb, Touch.of_below hb⟩
 · rename_i hov; obtain ⟨he, hl, ht⟩ := h.2 hov; exact ⟨he, hl, ht⟩
theorem qcharge_stride (b : Nat) (v : Value) (l : Ln) (W : World) (h : LineAt W b v l) (hf : Fits l) :
 Calls Tryz.prog 260 #[.pointer (some ⟨b, 0, none⟩)] W (ChargeQ b v (chargeL l) W) := by
 rcases posP_cases l.ps l.cur with ⟨hp, _⟩ | ⟨k, hk, hp, _⟩
 · refine (qcharge_none_stride b v l W h (by omega)).mono ?_; rintro e w' ⟨rfl, hb⟩; unfold chargeL; rw [if_pos (by omega)]; exact ⟨rfl, h.below hb, Touch.of_below hb⟩
 · exact (qcharge_hit_stride b v l W h hf k hk hp _ rfl).mono (fun e w' hc => chargeQ_of h hp rfl hc)
theorem qcharge_fair (b : Nat) (v : Value) (l : Ln) (W : World) (h : LineAt W b v l) (hf : Fits l) :
 Calls Tryz.prog 301 #[.pointer (some ⟨b, 0, none⟩)] W (ChargeQ b v (chargeL l) W) := by
 rcases posP_cases l.ps l.cur with ⟨hp, _⟩ | ⟨k, hk, hp, _⟩
 · refine (qcharge_none_fair b v l W h (by omega)).mono ?_; rintro e w' ⟨rfl, hb⟩; unfold chargeL; rw [if_pos (by omega)]; exact ⟨rfl, h.below hb, Touch.of_below hb⟩
 · exact (qcharge_hit_fair b v l W h hf k hk hp _ rfl).mono (fun e w' hc => chargeQ_of h hp rfl hc)
theorem qcharge_due (b : Nat) (v : Value) (l : Ln) (W : World) (h : LineAt W b v l) (hf : Fits l) :
 Calls Tryz.prog 311 #[.pointer (some ⟨b, 0, none⟩)] W (ChargeQ b v (chargeL l) W) := by
 rcases posP_cases l.ps l.cur with ⟨hp, _⟩ | ⟨k, hk, hp, _⟩
 · refine (qcharge_none_due b v l W h (by omega)).mono ?_; rintro e w' ⟨rfl, hb⟩; unfold chargeL; rw [if_pos (by omega)]; exact ⟨rfl, h.below hb, Touch.of_below hb⟩
 · exact (qcharge_hit_due b v l W h hf k hk hp _ rfl).mono (fun e w' hc => chargeQ_of h hp rfl hc)
def RunQ (qb : Nat) (F : Nat → Prop) (tag : Int) (r : Int × Int × Ln) (W : World) (e : Ending) (w' : World) : Prop :=
 e = .returned (.tuple #[.int .i64 r.1, .int .i64 r.2.1]) ∧ QIn w' qb F tag r.2.2 ∧ Touch F W w'
set_option maxRecDepth 100000 in
theorem prun_stride (qb : Nat) (F : Nat → Prop) (l : Ln) (W : World) (h : QIn W qb F 0 l) (hf : Fits l) :
 Calls Tryz.prog 154 #[.pointer (some ⟨qb, 0, none⟩)] W (RunQ qb F 0 (runL 0 l) W) := by
 obtain ⟨lb, v, h1, h2, h3, h4, h5, h6, h7, h8⟩ := h; have HQT : Hid (qty 0 = 235) := lH (by unfold qty; simp); rw [HQT.out] at h1; have hpick := pick_stride lb v l W h4 hf.1; have hlb := h6 lb (.inl rfl); have hch : ∀ W', LineAt W' lb v (takeL l) → Calls Tryz.prog 260 #[.pointer (some ⟨lb, 0, none⟩)] W' (ChargeQ lb v (chargeL (takeL l)) W') := fun W' h' => qcharge_stride lb v (takeL l) W' h' (hf.of (takeL_ps l).1 (takeL_ps l).2); have e : runL 0 l = chargeL (takeL l) := rfl; rw [e]; generalize chargeL (takeL l) = r at hch ⊢; generalize takeL l = l1 at hpick hch; have H2 := lH h2; have H3 := lH h3; have H6 := lH h6; have H8 := lH h8; clear h2 h3 h4 h6 h8 e; go_enter Tryz.func154, Tryz.ntmps154; go_wp2_with fail
 refine hpick.mono ?_; rintro e w1 ⟨⟨i, c, rfl⟩, hL1, hT1⟩; have hq1 : w1.heap[qb]? = W.heap[qb]? := hT1.block qb (H8.out qb h5) (fun e => hlb.2 e.symm); have g1 : w1.cell? ⟨qb, 0, none⟩ = some (.iface 235 (.pointer (some ⟨lb, 0, none⟩))) := (World.cell?_of_block (a := ⟨qb, 0, none⟩) hq1).trans h1; have hch1 := hch w1 hL1; have HT1 := lH hT1; have HQ1 := lH hq1; clear hL1 hT1 hq1 hch; go_wp2_with fail
 refine hch1.mono ?_; rintro e w2 ⟨rfl, hL2, hT2⟩; have HL2 := lH hL2; have HT2 := lH hT2; clear hL2 hT2; go_wp2_with fail
 go_ret2
 have hT : Touch F W w2 := (HT1.out.wider (fun k hk => by rw [hk]; exact hlb.1)).self (HT2.out.wider (fun k hk => (H6.out k hk).1)); have hq2 : w2.heap[qb]? = W.heap[qb]? := (HT2.out.block qb (Nat.lt_of_lt_of_le (H8.out qb h5) HT1.out.size) (fun hk => (H6.out qb hk).2 rfl)).trans HQ1.out; refine ⟨?_, ?_, hT⟩
 · rfl
 refine ⟨lb, v, ?_, (World.cell?_of_block (a := ⟨qb, 1, none⟩) hq2).trans H2.out, fun i => (World.frozen?_of_block (a := ⟨qb, i, none⟩) hq2).trans (H3.out i), HL2.out, h5, H6.out, (by omega), fun k hk => Nat.lt_of_lt_of_le (H8.out k hk) hT.size⟩; rw [HQT.out]; exact (World.cell?_of_block (a := ⟨qb, 0, none⟩) hq2).trans h1
set_option maxRecDepth 100000 in
theorem prun_fair (qb : Nat) (F : Nat → Prop) (l : Ln) (W : World) (h : QIn W qb F 1 l) (hf : Fits l) :
 Calls Tryz.prog 154 #[.pointer (some ⟨qb, 0, none⟩)] W (RunQ qb F 1 (runL 1 l) W) := by
 obtain ⟨lb, v, h1, h2, h3, h4, h5, h6, h7, h8⟩ := h; have HQT : Hid (qty 1 = 239) := lH (by unfold qty; simp); rw [HQT.out] at h1; have hpick := pick_fair lb v l W h4 hf.1 (fun p hp => (hf.2.2.2 p hp).1); have hlb := h6 lb (.inl rfl); have hch : ∀ W', LineAt W' lb v (pickF l) → Calls Tryz.prog 301 #[.pointer (some ⟨lb, 0, none⟩)] W' (ChargeQ lb v (chargeL (pickF l)) W') := fun W' h' => qcharge_fair lb v (pickF l) W' h' (hf.of (pickF_ps l).1 (pickF_ps l).2); have e : runL 1 l = chargeL (pickF l) := rfl; rw [e]; generalize chargeL (pickF l) = r at hch ⊢; generalize pickF l = l1 at hpick hch; have H2 := lH h2; have H3 := lH h3; have H6 := lH h6; have H8 := lH h8; clear h2 h3 h4 h6 h8 e; go_enter Tryz.func154, Tryz.ntmps154; go_wp2_with fail
 refine hpick.mono ?_; rintro e w1 ⟨⟨i, c, rfl⟩, hL1, hT1⟩; have hq1 : w1.heap[qb]? = W.heap[qb]? := hT1.block qb (H8.out qb h5) (fun e => hlb.2 e.symm); have g1 : w1.cell? ⟨qb, 0, none⟩ = some (.iface 239 (.pointer (some ⟨lb, 0, none⟩))) := (World.cell?_of_block (a := ⟨qb, 0, none⟩) hq1).trans h1; have hch1 := hch w1 hL1; have HT1 := lH hT1; have HQ1 := lH hq1; clear hL1 hT1 hq1 hch; go_wp2_with fail
 refine hch1.mono ?_; rintro e w2 ⟨rfl, hL2, hT2⟩; have HL2 := lH hL2; have HT2 := lH hT2; clear hL2 hT2; go_wp2_with fail
 go_ret2
 have hT : Touch F W w2 := (HT1.out.wider (fun k hk => by rw [hk]; exact hlb.1)).self (HT2.out.wider (fun k hk => (H6.out k hk).1)); have hq2 : w2.heap[qb]? = W.heap[qb]? := (HT2.out.block qb (Nat.lt_of_lt_of_le (H8.out qb h5) HT1.out.size) (fun hk => (H6.out qb hk).2 rfl)).trans HQ1.out; refine ⟨?_, ?_, hT⟩
 · rfl
 refine ⟨lb, v, ?_, (World.cell?_of_block (a := ⟨qb, 1, none⟩) hq2).trans H2.out, fun i => (World.frozen?_of_block (a := ⟨qb, i, none⟩) hq2).trans (H3.out i), HL2.out, h5, H6.out, (by omega), fun k hk => Nat.lt_of_lt_of_le (H8.out k hk) hT.size⟩; rw [HQT.out]; exact (World.cell?_of_block (a := ⟨qb, 0, none⟩) hq2).trans h1
set_option maxRecDepth 100000 in
theorem prun_due (qb : Nat) (F : Nat → Prop) (l : Ln) (W : World) (h : QIn W qb F 2 l) (hf : Fits l) :
 Calls Tryz.prog 154 #[.pointer (some ⟨qb, 0, none⟩)] W (RunQ qb F 2 (runL 2 l) W) := by
 obtain ⟨lb, v, h1, h2, h3, h4, h5, h6, h7, h8⟩ := h; have HQT : Hid (qty 2 = 242) := lH (by unfold qty; simp); rw [HQT.out] at h1; have hpick := pick_due lb v l W h4 hf.1 hf.2.2.2; have hlb := h6 lb (.inl rfl); have hch : ∀ W', LineAt W' lb v (pickD l) → Calls Tryz.prog 311 #[.pointer (some ⟨lb, 0, none⟩)] W' (ChargeQ lb v (chargeL (pickD l)) W') := fun W' h' => qcharge_due lb v (pickD l) W' h' (hf.of (pickD_ps l).1 (pickD_ps l).2); have e : runL 2 l = chargeL (pickD l) := rfl; rw [e]; generalize chargeL (pickD l) = r at hch ⊢; generalize pickD l = l1 at hpick hch; have H2 := lH h2; have H3 := lH h3; have H6 := lH h6; have H8 := lH h8; clear h2 h3 h4 h6 h8 e; go_enter Tryz.func154, Tryz.ntmps154; go_wp2_with fail
 refine hpick.mono ?_; rintro e w1 ⟨⟨i, c, rfl⟩, hL1, hT1⟩; have hq1 : w1.heap[qb]? = W.heap[qb]? := hT1.block qb (H8.out qb h5) (fun e => hlb.2 e.symm); have g1 : w1.cell? ⟨qb, 0, none⟩ = some (.iface 242 (.pointer (some ⟨lb, 0, none⟩))) := (World.cell?_of_block (a := ⟨qb, 0, none⟩) hq1).trans h1; have hch1 := hch w1 hL1; have HT1 := lH hT1; have HQ1 := lH hq1; clear hL1 hT1 hq1 hch; go_wp2_with fail
 refine hch1.mono ?_; rintro e w2 ⟨rfl, hL2, hT2⟩; have HL2 := lH hL2; have HT2 := lH hT2; clear hL2 hT2; go_wp2_with fail
 go_ret2
 have hT : Touch F W w2 := (HT1.out.wider (fun k hk => by rw [hk]; exact hlb.1)).self (HT2.out.wider (fun k hk => (H6.out k hk).1)); have hq2 : w2.heap[qb]? = W.heap[qb]? := (HT2.out.block qb (Nat.lt_of_lt_of_le (H8.out qb h5) HT1.out.size) (fun hk => (H6.out qb hk).2 rfl)).trans HQ1.out; refine ⟨?_, ?_, hT⟩
 · rfl
 refine ⟨lb, v, ?_, (World.cell?_of_block (a := ⟨qb, 1, none⟩) hq2).trans H2.out, fun i => (World.frozen?_of_block (a := ⟨qb, i, none⟩) hq2).trans (H3.out i), HL2.out, h5, H6.out, (by omega), fun k hk => Nat.lt_of_lt_of_le (H8.out k hk) hT.size⟩; rw [HQT.out]; exact (World.cell?_of_block (a := ⟨qb, 0, none⟩) hq2).trans h1
theorem prun_any (qb : Nat) (F : Nat → Prop) (tag : Int) (l : Ln) (W : World) (h : QIn W qb F tag l) (hf : Fits l) :
 Calls Tryz.prog 154 #[.pointer (some ⟨qb, 0, none⟩)] W (RunQ qb F tag (runL tag l) W) := by
 have h' := h; obtain ⟨lb, v, h1, h2, h3, h4, h5, h6, h7, h8⟩ := h'; rcases h7 with rfl | rfl | rfl
 · exact prun_stride qb F l W h hf
 · exact prun_fair qb F l W h hf
 · exact prun_due qb F l W h hf
theorem ptag_any (qb : Nat) (F : Nat → Prop) (tag : Int) (l : Ln) (W : World) (h : QIn W qb F tag l) :
 Calls Tryz.prog 140 #[.pointer (some ⟨qb, 0, none⟩)] W fun e w' => e = .returned (.int .i64 tag) ∧ W = w' := by
 obtain ⟨lb, v, h1, h2, h3, h4, h5, h6, h7, h8⟩ := h; clear h1 h3 h4 h6 h7 h8; go_enter Tryz.func140, Tryz.ntmps140; go_wp2
 go_ret
 exact ⟨rfl, rfl⟩
structure Co where
 tag : Int
 l : Ln
 age : Int
 srv : Nat
def CoreIn (W : World) (cb : Nat) (F : Nat → Prop) (c : Co) : Prop :=
 ∃ (qb mb n : Nat) (idle : Int) (G : Nat → Prop) (D : DataW Unit), W.cell? ⟨cb, 0, none⟩ = some (.pointer (some ⟨qb, 0, none⟩)) ∧ W.cell? ⟨cb, 1, none⟩ = some (.map (some mb)) ∧ W.cell? ⟨cb, 2, none⟩ = some (.int .i64 idle) ∧
  W.cell? ⟨cb, 3, none⟩ = some (.int .i64 c.age) ∧ (∀ i, W.frozen? ⟨cb, i, none⟩ = false) ∧ QIn W qb G c.tag c.l ∧ W.ownsMap Tryz.prog 3 (plainElem (H := Unit) Tryz.prog 2) mb n D ∧ n ≤ c.srv ∧
  F cb ∧ F mb ∧ cb ≠ mb ∧ (∀ k, G k → F k ∧ k ≠ cb ∧ k ≠ mb) ∧ ∀ k, F k → k < W.heap.size
theorem ownsMap_same {H : Type} {P : Program} {k : TypeId} {R : Value → Option (DataW H × List MemPlace)} {w w' : World} {b n : Nat} {D : DataW H} (h : w.ownsMap P k R b n D) (hb : w'.heap[b]? = w.heap[b]?) : w'.ownsMap P k R b n D := by
 obtain ⟨es, clock, h1, F, hs, hD⟩ := h; exact ⟨es, clock, hb.trans h1, F, hs, hD⟩
theorem CoreIn.lt {W : World} {cb : Nat} {F : Nat → Prop} {c : Co} (h : CoreIn W cb F c) : ∀ k, F k → k < W.heap.size := by
 obtain ⟨qb, mb, n, idle, G, D, h1, h2, h3, h4, h5, h6, h7, h8, h9, h10, h11, h12, h13⟩ := h; exact h13
theorem CoreIn.same {W W' : World} {cb : Nat} {F : Nat → Prop} {c : Co} (h : CoreIn W cb F c) (hs : W.heap.size ≤ W'.heap.size) (hb : ∀ k, F k → W'.heap[k]? = W.heap[k]?) : CoreIn W' cb F c := by
 obtain ⟨qb, mb, n, idle, G, D, h1, h2, h3, h4, h5, h6, h7, h8, h9, h10, h11, h12, h13⟩ := h; have h0 : ∀ i, W'.cell? ⟨cb, i, none⟩ = W.cell? ⟨cb, i, none⟩ := fun i => World.cell?_of_block (hb cb h9); have h0' : ∀ i, W'.frozen? ⟨cb, i, none⟩ = W.frozen? ⟨cb, i, none⟩ := fun i => World.frozen?_of_block (hb cb h9); exact ⟨qb, mb, n, idle, G, D, (h0 0).trans h1, (h0 1).trans h2, (h0 2).trans h3, (h0 3).trans h4, fun i => (h0' i).trans (h5 i), h6.same hs (fun k hk => hb k (h12 k hk).1), ownsMap_same h7 (hb mb h10), h8, h9, h10, h11, h12, fun k hk => Nat.lt_of_lt_of_le (h13 k hk) hs⟩
theorem CoreIn.below {W W' : World} {cb : Nat} {F : Nat → Prop} {c : Co} (h : CoreIn W cb F c) (hb : Below W.heap.size W W') : CoreIn W' cb F c :=
 h.same hb.size (fun k hk => hb.block k (h.lt k hk))
theorem CoreIn.touch {W W' : World} {cb : Nat} {F G : Nat → Prop} {c : Co} (h : CoreIn W cb F c) (ht : Touch G W W') (hF : ∀ k, F k → ¬ G k) : CoreIn W' cb F c :=
 h.same ht.size (fun k hk => ht.block k (h.lt k hk) (hF k hk))
def MadeC (W : World) (c : Co) (e : Ending) (w' : World) : Prop :=
 ∃ cb F, e = .returned (.tuple #[.pointer (some ⟨cb, 0, none⟩), .int .i64 0]) ∧ CoreIn w' cb F c ∧ Below W.heap.size W w' ∧ ∀ k, F k → W.heap.size ≤ k
theorem cof_ok (qb : Nat) (G : Nat → Prop) (tag : Int) (l : Ln) (B : Nat) (W : World) (h : QIn W qb G tag l) (hG : ∀ k, G k → B ≤ k) (hB : B ≤ W.heap.size) :
 Calls Tryz.prog 95 #[.pointer (some ⟨qb, 0, none⟩), .int .i64 0] W fun e w' => ∃ cb F, e = .returned (.tuple #[.pointer (some ⟨cb, 0, none⟩), .int .i64 0]) ∧ CoreIn w' cb F ⟨tag, l, 0, 0⟩ ∧ Below W.heap.size W w' ∧ ∀ k, F k → B ≤ k := by
 have hmk := run_makeMap (P := Tryz.prog) 225 W; have hmp : (W.alloc (.map #[] 0)).ownsMap Tryz.prog 3 (plainElem (H := Unit) Tryz.prog 2) W.heap.size 0 (.map []) := World.ownsMap_made W _ _ _; have hlt := h.lt; have HQ := lH h; have HG := lH hG; have HMP := lH hmp; have HLT := lH hlt; clear h hG hmp hlt; go_enter Tryz.func95, Tryz.ntmps95; go_wp2
 go_ret2
 have hh := heap_alloc_new (W.alloc (.map #[] 0)) (.cells #[.pointer (some ⟨qb, 0, none⟩), .map (some W.heap.size), .int .i64 0, .int .i64 0] 227); rw [size_alloc1] at hh; have hb : Below W.heap.size W ((W.alloc (.map #[] 0)).alloc (.cells #[.pointer (some ⟨qb, 0, none⟩), .map (some W.heap.size), .int .i64 0, .int .i64 0] 227)) := ((Below.refl _ _).alloc (Nat.le_refl _) _).alloc (by simp) _; refine ⟨W.heap.size + 1, fun k => k = W.heap.size + 1 ∨ k = W.heap.size ∨ G k, rfl, ⟨qb, W.heap.size, 0, 0, G, .map [], ?_, ?_, ?_, ?_, fun i => ?_, HQ.out.below hb, HMP.out.alloc _, Nat.le_refl _, .inl rfl, .inr (.inl rfl), by omega, fun k hk => ⟨.inr (.inr hk), ?_, ?_⟩, ?_⟩, hb, ?_⟩
 · simp only [World.cell?, hh]; rfl
 · simp only [World.cell?, hh]; rfl
 · simp only [World.cell?, hh]; rfl
 · simp only [World.cell?, hh]; rfl
 · simp only [World.frozen?, hh]; simp
 · have := HLT.out k hk; omega
 · have := HLT.out k hk; omega
 · intro k hk; rcases hk with rfl | rfl | hk
   · simp
   · simp; omega
   · have := HLT.out k hk; simp; omega
 · intro k hk; rcases hk with rfl | rfl | hk
   · omega
   · exact hB
   · exact HG.out k hk
theorem cof_err (r : Int) (hr : r ≠ 0) (W : World) :
 Calls Tryz.prog 95 #[.pointer none, .int .i64 r] W fun e w' => e = .returned (.tuple #[.pointer none, .int .i64 r]) ∧ W = w' := by
 have h1 : (r != 0) = true := by simp [hr]
 have h2 : (r == 0) = false := by simp [hr]
 go_enter Tryz.func95, Tryz.ntmps95; go_wp2
 go_ret2
 exact ⟨rfl, rfl⟩
theorem cnew_any (tag base : Int) (W : World) (ht : tag = 0 ∨ tag = 1 ∨ tag = 2) (h : -1152921504606846976 ≤ base ∧ base ≤ 1152921504606846976) :
 Calls Tryz.prog 45 #[.int .i64 tag, .int .i64 base] W (MadeC W ⟨tag, ⟨base, -1, []⟩, 0, 0⟩) := by
 have h1 := pnew_any tag base W ht h; clear h ht; go_enter Tryz.func45, Tryz.ntmps45; go_wp2_with fail
 refine h1.mono ?_; rintro e w1 ⟨qb, F, rfl, hQ, hb1, hF⟩; have hof := cof_ok qb F tag _ W.heap.size w1 hQ hF hb1.size; have HB1 := lH hb1; clear hQ hb1 hF; go_wp2_with fail
 refine hof.mono ?_; rintro e w2 ⟨cb, F2, rfl, hC, hb2, hF2⟩; have HC := lH hC; have HF2 := lH hF2; clear hC hF2; go_wp2_with fail
 go_ret2
 exact ⟨cb, F2, rfl, HC.out, HB1.out.trans (hb2.mono HB1.out.size), HF2.out⟩
theorem cnew_bad (tag base : Int) (W : World) (h0 : tag ≠ 0) (h1 : tag ≠ 1) (h2 : tag ≠ 2) :
 Calls Tryz.prog 45 #[.int .i64 tag, .int .i64 base] W fun e w' => e = .returned (.tuple #[.pointer none, .int .i64 1]) ∧ W = w' := by
 have hn := pnew_bad tag base W h0 h1 h2; have hof := cof_err 1 (by omega) W; clear h0 h1 h2; go_enter Tryz.func45, Tryz.ntmps45; go_wp2_with fail
 refine hn.mono ?_; rintro e w1 ⟨rfl, rfl⟩; go_wp2_with fail
 refine hof.mono ?_; rintro e w1 ⟨rfl, rfl⟩; go_wp2_with fail
 go_ret2
 exact ⟨rfl, rfl⟩
theorem ctag_any (cb : Nat) (F : Nat → Prop) (c : Co) (W : World) (h : CoreIn W cb F c) :
 Calls Tryz.prog 88 #[.pointer (some ⟨cb, 0, none⟩)] W fun e w' => e = .returned (.int .i64 c.tag) ∧ W = w' := by
 obtain ⟨qb, mb, n, idle, G, D, h1, h2, h3, h4, h5, h6, h7, h8, h9, h10, h11, h12, h13⟩ := h; have ht := ptag_any qb G c.tag c.l W h6; clear h2 h3 h4 h5 h6 h7 h8 h9 h10 h11 h12 h13; go_enter Tryz.func88, Tryz.ntmps88; go_wp2_with fail
 refine ht.mono ?_; rintro e w1 ⟨rfl, rfl⟩; go_wp2_with fail
 go_ret
 exact ⟨rfl, rfl⟩
def ageE (r age : Int) : Int := if r = 0 then wrap64 (age + 1) else age
theorem CoreIn.setAge {W : World} {cb : Nat} {F : Nat → Prop} {c : Co} (h : CoreIn W cb F c) (a : Int) : CoreIn (W.setCell ⟨cb, 3, none⟩ (.int .i64 a)) cb F ⟨c.tag, c.l, a, c.srv⟩ := by
 obtain ⟨qb, mb, n, idle, G, D, h1, h2, h3, h4, h5, h6, h7, h8, h9, h10, h11, h12, h13⟩ := h; refine ⟨qb, mb, n, idle, G, D, ?_, ?_, ?_, World.cell?_setCell_same _ _ _ h4, fun i => ?_, h6.same (by simp) (fun k hk => Below.heap_setCell _ _ _ _ (h12 k hk).2.1), ownsMap_same h7 (Below.heap_setCell _ _ _ _ (fun e => h11 e.symm)), h8, h9, h10, h11, h12, fun k hk => by simpa using h13 k hk⟩
 · rw [cell_setCell_ne _ (by simp)]; exact h1
 · rw [cell_setCell_ne _ (by simp)]; exact h2
 · rw [cell_setCell_ne _ (by simp)]; exact h3
 · rw [World.frozen?_setCell]; exact h5 i
theorem CoreIn.setIdle {W : World} {cb : Nat} {F : Nat → Prop} {c : Co} (h : CoreIn W cb F c) (a : Int) : CoreIn (W.setCell ⟨cb, 2, none⟩ (.int .i64 a)) cb F c := by
 obtain ⟨qb, mb, n, idle, G, D, h1, h2, h3, h4, h5, h6, h7, h8, h9, h10, h11, h12, h13⟩ := h; refine ⟨qb, mb, n, a, G, D, ?_, ?_, World.cell?_setCell_same _ _ _ h3, ?_, fun i => ?_, h6.same (by simp) (fun k hk => Below.heap_setCell _ _ _ _ (h12 k hk).2.1), ownsMap_same h7 (Below.heap_setCell _ _ _ _ (fun e => h11 e.symm)), h8, h9, h10, h11, h12, fun k hk => by simpa using h13 k hk⟩
 · rw [cell_setCell_ne _ (by simp)]; exact h1
 · rw [cell_setCell_ne _ (by simp)]; exact h2
 · rw [cell_setCell_ne _ (by simp)]; exact h4
 · rw [World.frozen?_setCell]; exact h5 i
theorem CoreIn.here {W : World} {cb : Nat} {F : Nat → Prop} {c : Co} (h : CoreIn W cb F c) : F cb := by
 obtain ⟨qb, mb, n, idle, G, D, h1, h2, h3, h4, h5, h6, h7, h8, h9, h10, h11, h12, h13⟩ := h; exact h9
def DoneP (cb : Nat) (F : Nat → Prop) (c : Co) (r : Int) (W : World) (e : Ending) (w' : World) : Prop :=
 e = .returned (.int .i64 r) ∧ CoreIn w' cb F ⟨c.tag, c.l, ageE r c.age, c.srv⟩ ∧ Touch F W w'
theorem done_any (cb : Nat) (F : Nat → Prop) (c : Co) (r : Int) (W : World) (h : CoreIn W cb F c) :
 Calls Tryz.prog 153 #[.pointer (some ⟨cb, 0, none⟩), .int .i64 r] W (DoneP cb F c r W) := by
 have hF := h.here; have HC := lH h; obtain ⟨qb, mb, n, idle, G, D, h1, h2, h3, h4, h5, h6, h7, h8, h9, h10, h11, h12, h13⟩ := h; have f3 := h5 3; clear h1 h2 h3 h5 h6 h7 h8 h9 h10 h11 h12 h13; by_cases hr : r = 0
 · have e : ageE r c.age = wrap64 (c.age + 1) := by unfold ageE; rw [if_pos hr]
   have hb : (r == 0) = true := by simp [hr]
   have HE := lH e; have HR := lH hr; clear e hr; go_enter Tryz.func153, Tryz.ntmps153; go_wp2
   go_ret
   exact ⟨rfl, by rw [HE.out]; exact HC.out.setAge _, (Touch.refl _ _).setCell (t := none) (.inl hF) _⟩
 · have e : ageE r c.age = c.age := by unfold ageE; rw [if_neg hr]
   have hb : (r == 0) = false := by simp [hr]
   have HE := lH e; have HR := lH hr; clear e hr; go_enter Tryz.func153, Tryz.ntmps153; go_wp2
   go_ret
   exact ⟨rfl, by rw [HE.out]; exact HC.out, Touch.refl _ _⟩
theorem CoreIn.q {W : World} {cb : Nat} {F : Nat → Prop} {c : Co} (h : CoreIn W cb F c) : ∃ qb G, W.cell? ⟨cb, 0, none⟩ = some (.pointer (some ⟨qb, 0, none⟩)) ∧ QIn W qb G c.tag c.l ∧ (∀ k, G k → F k) ∧
 ∀ (W' : World) (G' : Nat → Prop) (tag' : Int) (l' : Ln), QIn W' qb G' tag' l' → Touch G W W' → (∀ k, G' k → G k ∨ W.heap.size ≤ k) → CoreIn W' cb (fun k => F k ∨ G' k) ⟨tag', l', c.age, c.srv⟩ := by
 obtain ⟨qb, mb, n, idle, G, D, h1, h2, h3, h4, h5, h6, h7, h8, h9, h10, h11, h12, h13⟩ := h; refine ⟨qb, G, h1, h6, fun k hk => (h12 k hk).1, fun W' G' tag' l' hq ht hg => ?_⟩; have hcb : W'.heap[cb]? = W.heap[cb]? := ht.block cb (h13 cb h9) (fun hk => (h12 cb hk).2.1 rfl); have hmb : W'.heap[mb]? = W.heap[mb]? := ht.block mb (h13 mb h10) (fun hk => (h12 mb hk).2.2 rfl); have h0 : ∀ i, W'.cell? ⟨cb, i, none⟩ = W.cell? ⟨cb, i, none⟩ := fun i => World.cell?_of_block hcb; have h0' : ∀ i, W'.frozen? ⟨cb, i, none⟩ = W.frozen? ⟨cb, i, none⟩ := fun i => World.frozen?_of_block hcb; refine ⟨qb, mb, n, idle, G', D, (h0 0).trans h1, (h0 1).trans h2, (h0 2).trans h3, (h0 3).trans h4, fun i => (h0' i).trans (h5 i), hq, ownsMap_same h7 hmb, h8, .inl h9, .inl h10, h11, fun k hk => ⟨.inr hk, ?_, ?_⟩, ?_⟩
 · rcases hg k hk with h | h
   · exact (h12 k h).2.1
   · have := h13 cb h9; omega
 · rcases hg k hk with h | h
   · exact (h12 k h).2.2
   · have := h13 mb h10; omega
 · intro k hk; rcases hk with hk | hk
   · exact Nat.lt_of_lt_of_le (h13 k hk) ht.size
   · exact hq.lt k hk
theorem CoreIn.wider {W : World} {cb : Nat} {F F' : Nat → Prop} {c : Co} (h : CoreIn W cb F c) (h1 : ∀ k, F k → F' k) (h2 : ∀ k, F' k → k < W.heap.size) : CoreIn W cb F' c := by
 obtain ⟨qb, mb, n, idle, G, D, a1, a2, a3, a4, a5, a6, a7, a8, a9, a10, a11, a12, a13⟩ := h; exact ⟨qb, mb, n, idle, G, D, a1, a2, a3, a4, a5, a6, a7, a8, h1 _ a9, h1 _ a10, a11, fun k hk => ⟨h1 k (a12 k hk).1, (a12 k hk).2⟩, h2⟩
end Go.Proofs.YtoiajjobecinpaaGreat
