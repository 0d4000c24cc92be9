/- A world does an act, whatever it is: what holds behind it. A world does an act of a try: what holds behind it; any act.  -/
import Derived.Test.YtoiajjobecinpaaGreatTA33
import Derived.Test.YtoiajjobecinpaaGreatTA34
set_option maxHeartbeats 4000000
namespace Go.Proofs.YtoiajjobecinpaaGreat
open Go.RowKit Go.Shelf Go.Lib Go.Proofs
set_option linter.unusedVariables false
set_option linter.unusedSimpArgs false
def SysR (s : Sy) (op a b c n m x y : Int) (s' : Sy) : Prop :=
 (op = 1 ∧ ∃ xs : List G16, IsPath s.gs a xs ∧ x = (groupY s a n m xs.length).1 ∧ y = (groupY s a n m xs.length).2.1 ∧ s' = (groupY s a n m xs.length).2.2) ∨
 (op = 2 ∧ x = (spawnF s a (IntKind.u16.wrap b) c).1 ∧ y = (spawnF s a (IntKind.u16.wrap b) c).2.1 ∧ s' = (spawnF s a (IntKind.u16.wrap b) c).2.2) ∨
 (op = 3 ∧ x = 0 ∧ y = (startF s a).1 ∧ s' = (startF s a).2) ∨
 (op = 4 ∧ x = 0 ∧ y = (sleepF s a).1 ∧ s' = (sleepF s a).2) ∨
 (op = 5 ∧ x = 0 ∧ y = (wakeF s a).1 ∧ s' = (wakeF s a).2) ∨
 (op = 6 ∧ x = 0 ∧ y = (endF s a).1 ∧ s' = (endF s a).2) ∨
 (op = 7 ∧ x = 0 ∧ y = (weighF s a b).1 ∧ s' = (weighF s a b).2) ∨
 (op = 8 ∧ x = 0 ∧ y = (bindF s a (IntKind.u16.wrap b)).1 ∧ s' = (bindF s a (IntKind.u16.wrap b)).2) ∨
 (op = 9 ∧ x = 0 ∧ y = (moveF s a b).1 ∧ s' = (moveF s a b).2) ∨
 (op = 10 ∧ RunR s a x y s') ∨
 (op = 11 ∧ x = 0 ∧ TickR s n y s') ∨
 (op = 12 ∧ y = 0 ∧ ∃ x0 ok, EvenR s x0 ok s' ∧ x = (if ok = true then x0 else -1)) ∨
 ((op < 1 ∨ 12 < op) ∧ x = 0 ∧ y = 1 ∧ s' = s)
def GsR (s : Sy) (op a y : Int) (s' : Sy) : Prop :=
 (op = 1 ∧ y = 0 → ∃ j : Nat, j < 16 ∧ hasG s.gs j = false ∧ s'.gs = s.gs.set j (true, a)) ∧ (¬ (op = 1 ∧ y = 0) → s'.gs = s.gs)
theorem GsR.same {s s' : Sy} {op a y : Int} (h : s'.gs = s.gs) (ho : op ≠ 1) : GsR s op a y s' := ⟨fun hh => absurd hh.1 ho, fun _ => h⟩
structure WInv (k : Nat) (W : World) (ob wb sb : Nat) (s : Sy) (m : Nat) (cbs : List Nat) (L : Int → Option Tr) (own : Nat → Option Own) (ow : Nat → Option OwnW) (n : Nat) : Prop where
 wo : WoIn W ob wb sb s m cbs L own ow
 inv : InvY k (1000000 + k * 10000000000000) n s
 m : m ≤ k
 tr : TrOk k L
theorem do_of_system2 (W : World) (ob wb sb : Nat) (s : Sy) (mm : Nat) (cbs : List Nat) (L : Int → Option Tr) (own : Nat → Option Own) (ow : Nat → Option OwnW) (op a b c n m : Int) (bl : Value) (P : Int → Int → Sy → Prop) (h : WoIn W ob wb sb s mm cbs L own ow) (hop : ¬ (13 ≤ op ∧ op ≤ 16))
 (hsys : ∀ (R : Int → Int → World → Prop), (∀ x y s' w1, P x y s' → YQ sb cbs own s' (actW W op a b c n m bl) w1 → R x y w1) →
   Calls Tryz.prog 28 #[.pointer (some ⟨ob, 0, none⟩), actV op a b c n m bl] (inDo W op a b c n m bl) (Two R)) :
 Calls Tryz.prog 13 #[.pointer (some ⟨ob, 0, none⟩), actV op a b c n m bl] W (fun e w' => ∃ x y s', P x y s' ∧ DoQ ob wb sb s' mm cbs L own ow x y W e w') := by
 obtain ⟨h1, h2, h3, h4, h5, h6⟩ := actW_below W op a b c n m bl; have hlt : ∀ k, own k ≠ none → k < W.heap.size := by
  obtain ⟨_, ⟨⟨gb, nb, pb, mb, n, cv, D, tb, hS⟩, _⟩, _⟩ := h; exact hS.lt
 refine (do_system W ob op a b c n m bl (fun x' y' w1 => ∃ s', P x' y' s' ∧ YQ sb cbs own s' (actW W op a b c n m bl) w1) hop (hsys _ (fun x y s' w1 hP hY => ⟨⟨s', hP, hY⟩, ?_⟩))).mono ?_
 · obtain ⟨own', _, _, hto⟩ := hY; rw [hto.block _ h2 (fun e => by have := hlt _ e; omega), h5 _ (by omega), h4]
 · rintro e w' ⟨x', y', w1, ⟨s', hP, hY⟩, rfl, hT⟩; exact ⟨x', y', s', hP, rfl, do_fin h h1 hY hT h2⟩
theorem YQ.drewn {sb : Nat} {cbs : List Nat} {own : Nat → Option Own} {s' : Sy} {W w' : World} (h : YQ sb cbs own s' W w') : YQ sb cbs own s' W.drew w' := by
 obtain ⟨own', h1, h2, h3⟩ := h; exact ⟨own', h1, h2, ⟨h3.os, h3.tape, h3.output, h3.size, h3.block⟩⟩
def DoAny (k : Nat) (ob wb sb : Nat) (s : Sy) (cbs : List Nat) (own : Nat → Option Own) (ow : Nat → Option OwnW) (n : Nat) (R : Int → Int → Sy → Prop) (W : World) (e : Ending) (w' : World) : Prop :=
 ∃ (x y : Int) (s' : Sy) (m' : Nat) (L' : Int → Option Tr) (own' : Nat → Option Own) (ow' : Nat → Option OwnW), e = .returned (.agg #[.int .i64 (if y = 0 then x else 0), .int .i64 y]) ∧ WInv (k + 1) w' ob wb sb s' m' cbs L' own' ow' n ∧ R x y s' ∧
  Touch (fun k => own k ≠ none ∨ ow k ≠ none) W w' ∧ ∀ k, (own' k ≠ none ∨ ow' k ≠ none) → (own k ≠ none ∨ ow k ≠ none) ∨ W.heap.size ≤ k
theorem kB (k : Nat) : (1000000 : Int) + ((k + 1 : Nat) : Int) * 10000000000000 = 1000000 + (k : Int) * 10000000000000 + 10000000000000 := by omega
theorem do_sys (k : Nat) (W : World) (ob wb sb : Nat) (s : Sy) (mm : Nat) (cbs : List Nat) (L : Int → Option Tr) (own : Nat → Option Own) (ow : Nat → Option OwnW) (nn : Nat) (op a b c n m : Int) (bl : Value) (h : WInv k W ob wb sb s mm cbs L own ow nn) (hk : k ≤ 200) (hop : ¬ (13 ≤ op ∧ op ≤ 16))
 (h1 : -9223372036854775808 ≤ a) (h2 : a ≤ 9223372036854775807) (hn : n ≤ 9223372036854775807) :
 Calls Tryz.prog 13 #[.pointer (some ⟨ob, 0, none⟩), actV op a b c n m bl] W (DoAny k ob wb sb s cbs own ow nn (fun x y s' => SysR s op a b c n m x y s' ∧ GsR s op a y s') W) := by
 obtain ⟨hwo, hI, hm, hL⟩ := h; obtain ⟨hS, c0, c1⟩ := hwo.act op a b c n m bl; have hks := kS k (by omega); have hkb := kB k; have hu16 : 0 ≤ IntKind.u16.wrap b ∧ IntKind.u16.wrap b < 65536 := by rw [IntKind.wrap_u16]; omega
 have hbk : (1000000 : Int) + (k : Int) * 10000000000000 ≤ 900000000000000000 := by omega
 refine (do_of_system2 W ob wb sb s mm cbs L own ow op a b c n m bl (fun x y s' => InvY (k + 1) (1000000 + ((k + 1 : Nat) : Int) * 10000000000000) nn s' ∧ SysR s op a b c n m x y s' ∧ GsR s op a y s') hwo hop (fun R hR => ?_)).mono ?_
 · have hcases : op = 1 ∨ op = 2 ∨ op = 3 ∨ op = 4 ∨ op = 5 ∨ op = 6 ∨ op = 7 ∨ op = 8 ∨ op = 9 ∨ op = 10 ∨ op = 11 ∨ op = 12 ∨ (op < 1 ∨ 12 < op) := by omega
   rcases hcases with rfl | rfl | rfl | rfl | rfl | rfl | rfl | rfl | rfl | rfl | rfl | rfl | hop'
   · obtain ⟨xs, hx, hx4⟩ := hI.gs.path a; obtain ⟨g1, g2, g3⟩ := hI.group (q := n) (p := m) hx; refine system_group _ ob sb _ a b c n m bl R c0 c1 ((group_any sb cbs own s a n m xs _ hS hx (by omega) hI.acc.1 hI.gs.len).mono ?_); rintro e w' ⟨he, hY⟩; refine ⟨_, _, he, hR _ _ _ w' ⟨g1.mono (by omega) (by omega), .inl ⟨rfl, xs, hx, rfl, rfl, rfl⟩, fun hh => g3 hh.2, fun hh => ?_⟩ hY, hY.keepA hwo⟩; rw [g2 (fun e => hh ⟨rfl, e⟩)]
   · obtain ⟨g1, g2, g3⟩ := sys_spawn (k := k) (n := nn) (b := 1000000 + (k : Int) * 10000000000000) hS hI (by omega) a (IntKind.u16.wrap b) c hu16; refine system_spawn _ ob sb _ a b c n m bl R c0 c1 (g3.mono ?_); rintro e w' ⟨he, hY⟩; exact ⟨_, _, he, hR _ _ _ w' ⟨g1.mono (by omega) (by omega), .inr (.inl ⟨rfl, rfl, rfl, rfl⟩), GsR.same g2 (by decide)⟩ hY, hY.keepA hwo⟩
   · obtain ⟨g1, g2, g3⟩ := sys_start hS hI (by omega) (by omega) a h1 h2; refine (system_start _ ob sb _ a b c n m bl (fun y w' => R 0 y w') c0 c1 (g3.mono ?_)).mono (fun e w' ⟨x, y, he, hx, hr⟩ => ⟨x, y, he, by rw [hx]; exact hr⟩); rintro e w' ⟨he, hY⟩; exact ⟨_, he, hR _ _ _ w' ⟨g1.mono (by omega) (by omega), .inr (.inr (.inl ⟨rfl, rfl, rfl, rfl⟩)), GsR.same g2 (by decide)⟩ hY, hY.keepA hwo⟩
   · obtain ⟨g1, g2, g3⟩ := sys_sleep hS hI (by omega) (by omega) a h1 h2; refine (system_sleep _ ob sb _ a b c n m bl (fun y w' => R 0 y w') c0 c1 (g3.mono ?_)).mono (fun e w' ⟨x, y, he, hx, hr⟩ => ⟨x, y, he, by rw [hx]; exact hr⟩); rintro e w' ⟨he, hY⟩; exact ⟨_, he, hR _ _ _ w' ⟨g1.mono (by omega) (by omega), .inr (.inr (.inr (.inl ⟨rfl, rfl, rfl, rfl⟩))), GsR.same g2 (by decide)⟩ hY, hY.keepA hwo⟩
   · obtain ⟨g1, g2, g3⟩ := sys_wake hS hI (by omega) (by omega) a h1 h2; refine (system_wake _ ob sb _ a b c n m bl (fun y w' => R 0 y w') c0 c1 (g3.mono ?_)).mono (fun e w' ⟨x, y, he, hx, hr⟩ => ⟨x, y, he, by rw [hx]; exact hr⟩); rintro e w' ⟨he, hY⟩; exact ⟨_, he, hR _ _ _ w' ⟨g1.mono (by omega) (by omega), .inr (.inr (.inr (.inr (.inl ⟨rfl, rfl, rfl, rfl⟩)))), GsR.same g2 (by decide)⟩ hY, hY.keepA hwo⟩
   · obtain ⟨g1, g2, g3⟩ := sys_end hS hI (by omega) (by omega) a h1 h2; refine (system_end _ ob sb _ a b c n m bl (fun y w' => R 0 y w') c0 c1 (g3.mono ?_)).mono (fun e w' ⟨x, y, he, hx, hr⟩ => ⟨x, y, he, by rw [hx]; exact hr⟩); rintro e w' ⟨he, hY⟩; exact ⟨_, he, hR _ _ _ w' ⟨g1.mono (by omega) (by omega), .inr (.inr (.inr (.inr (.inr (.inl ⟨rfl, rfl, rfl, rfl⟩))))), GsR.same g2 (by decide)⟩ hY, hY.keepA hwo⟩
   · obtain ⟨g1, g2, g3⟩ := sys_weigh hS hI (by omega) (by omega) a b h1 h2; refine (system_weigh _ ob sb _ a b c n m bl (fun y w' => R 0 y w') c0 c1 (g3.mono ?_)).mono (fun e w' ⟨x, y, he, hx, hr⟩ => ⟨x, y, he, by rw [hx]; exact hr⟩); rintro e w' ⟨he, hY⟩; exact ⟨_, he, hR _ _ _ w' ⟨g1.mono (by omega) (by omega), .inr (.inr (.inr (.inr (.inr (.inr (.inl ⟨rfl, rfl, rfl, rfl⟩)))))), GsR.same g2 (by decide)⟩ hY, hY.keepA hwo⟩
   · obtain ⟨g1, g2, g3⟩ := sys_bind hS hI (by omega) (by omega) a (IntKind.u16.wrap b) h1 h2 hu16; refine (system_bind _ ob sb _ a b c n m bl (fun y w' => R 0 y w') c0 c1 (g3.mono ?_)).mono (fun e w' ⟨x, y, he, hx, hr⟩ => ⟨x, y, he, by rw [hx]; exact hr⟩); rintro e w' ⟨he, hY⟩; exact ⟨_, he, hR _ _ _ w' ⟨g1.mono (by omega) (by omega), .inr (.inr (.inr (.inr (.inr (.inr (.inr (.inl ⟨rfl, rfl, rfl, rfl⟩))))))), GsR.same g2 (by decide)⟩ hY, hY.keepA hwo⟩
   · obtain ⟨g1, g2, g3⟩ := sys_move hS hI (by omega) (by omega) a b h1 h2; refine (system_move _ ob sb _ a b c n m bl (fun y w' => R 0 y w') c0 c1 (g3.mono ?_)).mono (fun e w' ⟨x, y, he, hx, hr⟩ => ⟨x, y, he, by rw [hx]; exact hr⟩); rintro e w' ⟨he, hY⟩; exact ⟨_, he, hR _ _ _ w' ⟨g1.mono (by omega) (by omega), .inr (.inr (.inr (.inr (.inr (.inr (.inr (.inr (.inl ⟨rfl, rfl, rfl, rfl⟩)))))))), GsR.same g2 (by decide)⟩ hY, hY.keepA hwo⟩
   · refine system_run _ ob sb _ a b c n m bl R c0 c1 ((sys_run hS hI (by omega) hbk a).mono ?_); rintro e w' ⟨x, y, s', he, hr, hY, hI', hg⟩; exact ⟨_, _, he, hR _ _ s' w' ⟨hI'.mono (by omega) (by omega), .inr (.inr (.inr (.inr (.inr (.inr (.inr (.inr (.inr (.inl ⟨rfl, hr⟩))))))))), GsR.same hg (by decide)⟩ hY, hY.keepA hwo⟩
   · refine (system_tick _ ob sb _ a b c n m bl (fun y w' => R 0 y w') c0 c1 ((sys_tick hS hI (by omega) hbk n hn).mono ?_)).mono (fun e w' ⟨x, y, he, hx, hr⟩ => ⟨x, y, he, by rw [hx]; exact hr⟩); rintro e w' ⟨y, s', he, hr, hY, hI', hg⟩; exact ⟨_, he, hR _ _ s' w' ⟨hI'.mono (by omega) (by omega), .inr (.inr (.inr (.inr (.inr (.inr (.inr (.inr (.inr (.inr (.inl ⟨rfl, rfl, hr⟩)))))))))), GsR.same hg (by decide)⟩ hY, hY.keepA hwo⟩
   · refine (system_even _ ob sb _ a b c n m bl (fun x0 ok w' => R (if ok = true then x0 else -1) 0 w') c0 c1 ?_).mono (fun e w' ⟨x, y, he, hy, x0, ok, hx, hr⟩ => ⟨x, y, he, by rw [hy, hx]; exact hr⟩); obtain ⟨gb, nb, pb, mb, nq, cv, D, tb, hS'⟩ := hS; have hS2 : SysAt ((inDo W 12 a b c n m bl).alloc (.cells #[.int .i64 12, .int .i64 a, .int .i64 b, .int .i64 c, .int .i64 n, .int .i64 m, bl] 35)) sb gb nb pb mb nq cv D cbs tb own s := hS'.same (Nat.le_refl _) (fun _ _ => rfl); refine (sys_even (k := k) (n := nn) (b := 1000000 + (k : Int) * 10000000000000) ⟨gb, nb, pb, mb, nq, cv, D, tb, hS2⟩ hI (by omega) (by omega)).mono ?_; rintro e w' ⟨x, ok, s', he, hr, hY, hI', hg⟩; exact ⟨x, ok, he, hR _ _ s' w' ⟨hI'.mono (by omega) (by omega), .inr (.inr (.inr (.inr (.inr (.inr (.inr (.inr (.inr (.inr (.inr (.inl ⟨rfl, rfl, x, ok, hr, rfl⟩))))))))))), GsR.same hg (by decide)⟩ hY.drewn⟩
   · refine system_else _ ob sb _ op a b c n m bl R hop' c0 c1 ?_; obtain ⟨gb, nb, pb, mb, nq, cv, D, tb, hS'⟩ := hS; refine hR _ _ s _ ⟨hI.mono (by omega) (by omega), .inr (.inr (.inr (.inr (.inr (.inr (.inr (.inr (.inr (.inr (.inr (.inr ⟨hop', rfl, rfl, rfl⟩))))))))))), GsR.same rfl (by omega)⟩ ⟨own, ⟨gb, nb, pb, mb, nq, cv, D, tb, hS'.same (Nat.le_refl _) (fun _ _ => rfl)⟩, fun k hk => .inl hk, ⟨rfl, rfl, rfl, Nat.le_refl _, fun _ _ _ => rfl⟩⟩
 · rintro e w' ⟨x, y, s', ⟨hI', hr, hg⟩, he, own', hwo', hto, hgr⟩; refine ⟨x, y, s', mm, L, own', ow, he, ⟨hwo', hI', by omega, hL.mono (Nat.le_succ k)⟩, ⟨hr, hg⟩, hto.wider (fun k hk => .inl hk), fun k hk => ?_⟩; rcases hk with hk | hk
   · exact (hgr k hk).imp .inl id
   · exact .inl (.inr hk)
theorem do_finT {W W2 w1 w' : World} {ob wb sb : Nat} {s : Sy} {m : Nat} {cbs : List Nat} {L : Int → Option Tr} {own : Nat → Option Own} {ow : Nat → Option OwnW} {Q : Sy → Nat → (Int → Option Tr) → Prop} (h : WoIn W ob wb sb s m cbs L own ow) (hB : Below W.heap.size W W2) (hY : TryQ wb sb cbs own ow Q W2 w1)
 (hT : Touch (fun k => k = W.heap.size + 1) w1 w') (hz : W.heap.size + 1 < W2.heap.size) :
 ∃ (s' : Sy) (m' : Nat) (L' : Int → Option Tr) (own' : Nat → Option Own) (ow' : Nat → Option OwnW), WoIn w' ob wb sb s' m' cbs L' own' ow' ∧ Q s' m' L' ∧ Touch (fun k => own k ≠ none ∨ ow k ≠ none) W w' ∧ ∀ k, (own' k ≠ none ∨ ow' k ≠ none) → (own k ≠ none ∨ ow k ≠ none) ∨ W.heap.size ≤ k := by
 obtain ⟨hob, hBo, hno, hnw⟩ := h; have hlt := hBo.lt; obtain ⟨s', m', L', own', ow', hB', hQ, hto, hg⟩ := hY; have hlt' := hB'.lt; have hobl : ob < W.heap.size := (Array.getElem?_eq_some_iff.1 hob).1; have hz2 := hto.size; have hBs := hB.size; have hkeep : ∀ k, k < W.heap.size → own k = none → ow k = none → w'.heap[k]? = W.heap[k]? := fun k hk hn hn2 => by
  rw [hT.block k (by omega) (by omega), hto.block k (by omega) (by simp [hn, hn2]), hB.block k hk]
 have hg2 : ∀ k, (own' k ≠ none ∨ ow' k ≠ none) → (own k ≠ none ∨ ow k ≠ none) ∨ W.heap.size ≤ k := fun k hk => (hg k hk).imp id (fun h => by omega); have hne : ∀ k, (own' k ≠ none ∨ ow' k ≠ none) → k ≠ W.heap.size + 1 := fun k hk e => by
  rcases hg k hk with h1 | h1
  · have := hlt k h1; omega
  · omega
 obtain ⟨⟨gb', nb', pb', mb', n', cv', D', tb', hS'⟩, ⟨mb2, n2, av, D2, tbs, ttb, hW'⟩, hd'⟩ := hB'; refine ⟨s', m', L', own', ow', ⟨(hkeep ob hobl hno hnw).trans hob, ⟨⟨gb', nb', pb', mb', n', cv', D', tb', hS'.same hT.size (fun k hk => hT.block k (hlt' k (.inl hk)) (hne k (.inl hk)))⟩, ⟨mb2, n2, av, D2, tbs, ttb, hW'.same hT.size (fun k hk => hT.block k (hlt' k (.inr hk)) (hne k (.inr hk)))⟩, hd'⟩, ?_, ?_⟩, hQ, ?_, hg2⟩
 · by_cases e : own' ob = none
   · exact e
   · rcases hg2 ob (.inl e) with h1 | h1
     · simp [hno, hnw] at h1
     · omega
 · by_cases e : ow' ob = none
   · exact e
   · rcases hg2 ob (.inr e) with h1 | h1
     · simp [hno, hnw] at h1
     · omega
 · refine ⟨?_, ?_, ?_, by have := hT.size; omega, fun k hk hn => hkeep k hk (by by_cases e : own k = none; exact e; exact absurd (.inl e) hn) (by by_cases e : ow k = none; exact e; exact absurd (.inr e) hn)⟩
   · rw [hT.os, hto.os, hB.os]
   · rw [hT.tape, hto.tape, hB.tape]
   · rw [hT.output, hto.output, hB.output]
theorem TryQ.keepA {W w1 : World} {ob wb sb : Nat} {s : Sy} {mm : Nat} {cbs : List Nat} {L : Int → Option Tr} {own : Nat → Option Own} {ow : Nat → Option OwnW} {op a b c n m : Int} {bl : Value} {Q : Sy → Nat → (Int → Option Tr) → Prop} (h : WoIn W ob wb sb s mm cbs L own ow) (hY : TryQ wb sb cbs own ow Q (actW W op a b c n m bl) w1) :
 KeepA (inAct (inDo W op a b c n m bl) op a b c n m bl) ob (inDo W op a b c n m bl).heap.size w1 ∧ w1.heap[W.heap.size + 1]? = some (.cells #[.int .i64 0, .int .i64 0] 37 (0, 0)) := by
 obtain ⟨h1, h2, h3, h4, h5, h6⟩ := actW_below W op a b c n m bl; have hlt := h.2.1.lt; have hobl : ob < W.heap.size := (Array.getElem?_eq_some_iff.1 h.1).1; have hzz : (actW W op a b c n m bl).heap.size = W.heap.size + 3 := by
  show ((inDo W op a b c n m bl).alloc _).heap.size = _; rw [World.size_alloc, h3]
 obtain ⟨s', m', L', own', ow', _, _, hto, _⟩ := hY; exact ⟨⟨hto.block ob (by omega) (by simp [h.2.2.1, h.2.2.2]), hto.block _ (by rw [h3, hzz]; omega) (fun e => by have := hlt _ e; omega)⟩, by
  rw [hto.block _ h2 (fun e => by have := hlt _ e; omega), h5 _ (by omega), h4]⟩
theorem BlowsAt.below {W W' : World} {own : Nat → Option Own} {ow : Nat → Option OwnW} {v : Value} {n : Nat} (h : BlowsAt W own ow v n) (hb : Below W.heap.size W W') : BlowsAt W' own ow v n := by
 obtain ⟨p, c, hv, hj⟩ := h; refine ⟨p, c, hv, fun j hjn => ?_⟩; obtain ⟨g, o, hp, ⟨g1, g2, g3⟩, x0, x1, x2, x3, k0, k1, k2, k3⟩ := hj j hjn; have hg := hb.block g g1; exact ⟨g, o, hp, ⟨Nat.lt_of_lt_of_le g1 hb.size, g2, g3⟩, x0, x1, x2, x3, (World.cell?_of_block (a := ⟨g, o + j * 4, none⟩) hg).trans k0, (World.cell?_of_block (a := ⟨g, o + j * 4 + 1, none⟩) hg).trans k1, (World.cell?_of_block (a := ⟨g, o + j * 4 + 2, none⟩) hg).trans k2, (World.cell?_of_block (a := ⟨g, o + j * 4 + 3, none⟩) hg).trans k3⟩
theorem do_tries (k : Nat) (W : World) (ob wb sb : Nat) (s : Sy) (mm : Nat) (cbs : List Nat) (L : Int → Option Tr) (own : Nat → Option Own) (ow : Nat → Option OwnW) (nn : Nat) (op a b c n m : Int) (bl : Value) (nb : Nat) (h : WInv k W ob wb sb s mm cbs L own ow nn) (hk : k ≤ 200) (hop : 13 ≤ op ∧ op ≤ 16)
 (hbl : BlowsAt W own ow bl nb) (hnb : nb ≤ 8) :
 Calls Tryz.prog 13 #[.pointer (some ⟨ob, 0, none⟩), actV op a b c n m bl] W (DoAny k ob wb sb s cbs own ow nn (fun x y s' => s'.gs = s.gs) W) := by
 obtain ⟨hwo, hI, hm, hL⟩ := h; obtain ⟨h1, h2, h3, h4, h5, h6⟩ := actW_below W op a b c n m bl; obtain ⟨-, c0, c1⟩ := hwo.act op a b c n m bl; have hBo := hwo.2.1.below h1; have hkb := kB k; have hb : (1000000 : Int) ≤ 1000000 + (k : Int) * 10000000000000 ∧ 1000000 + (k : Int) * 10000000000000 ≤ 1000000000000000000 := by omega
 have htry : Calls Tryz.prog 29 #[.pointer (some ⟨ob, 0, none⟩), actV op a b c n m bl] (inDo W op a b c n m bl) (Two fun x y w' => TryQ wb sb cbs own ow (TQ k nn (1000000 + (k : Int) * 10000000000000) s mm) (actW W op a b c n m bl) w') := by
  have hops : op = 13 ∨ op = 14 ∨ op = 15 ∨ op = 16 := by omega
  rcases hops with rfl | rfl | rfl | rfl
  · refine (try_open _ ob wb _ a b c n m bl (fun y w' => TryQ wb sb cbs own ow (TQ k nn (1000000 + (k : Int) * 10000000000000) s mm) (actW W 13 a b c n m bl) w') c0 c1 ((open_all hBo hI hL hm (by omega) a b).mono ?_)).mono (fun e w' ⟨x, y, he, hx, hr⟩ => ⟨x, y, he, hr⟩); rintro e w' ⟨⟨er, he⟩, hq⟩; exact ⟨er, he, hq, (hq.keepA hwo).1⟩
  · refine try_step _ ob wb _ a b c n m bl (fun x y w' => TryQ wb sb cbs own ow (TQ k nn (1000000 + (k : Int) * 10000000000000) s mm) (actW W 14 a b c n m bl) w') c0 c1 ((step_all hBo hI hL hm (by omega) hb a).mono ?_); rintro e w' ⟨⟨x, er, he⟩, hq⟩; exact ⟨x, er, he, hq, (hq.keepA hwo).1⟩
  · refine (try_abort _ ob wb _ a b c n m bl (fun y w' => TryQ wb sb cbs own ow (TQ k nn (1000000 + (k : Int) * 10000000000000) s mm) (actW W 15 a b c n m bl) w') c0 c1 ((abort_all hBo hI hL hm (by omega) a).mono ?_)).mono (fun e w' ⟨x, y, he, hx, hr⟩ => ⟨x, y, he, hr⟩); rintro e w' ⟨⟨er, he⟩, hq⟩; exact ⟨er, he, hq, (hq.keepA hwo).1⟩
  · refine (try_attempt _ ob wb _ a b c n m bl (fun x y w' => TryQ wb sb cbs own ow (TQ k nn (1000000 + (k : Int) * 10000000000000) s mm) (actW W 16 a b c n m bl) w') c0 c1 ((attempt_all hBo hI hL hm (by omega) hb a b bl nb (hbl.below h1) hnb).mono ?_)).mono (fun e w' ⟨x, y, he, ok, hx, hr⟩ => ⟨x, y, he, hr⟩); rintro e w' ⟨⟨x, er, he⟩, hq⟩; exact ⟨x, er, he, hq, (hq.keepA hwo).1⟩
 refine (do_try W ob op a b c n m bl (fun x y w1 => TryQ wb sb cbs own ow (TQ k nn (1000000 + (k : Int) * 10000000000000) s mm) (actW W op a b c n m bl) w1) hop (htry.mono (fun e w' ⟨x, y, he, hQ⟩ => ⟨x, y, he, hQ, (hQ.keepA hwo).2⟩))).mono ?_; rintro e w' ⟨x, y, w1, hQ, rfl, hT⟩; obtain ⟨s', m', L', own', ow', hwo', ⟨hI', hm', hL', hg⟩, hto, hgr⟩ := do_finT hwo h1 hQ hT h2; exact ⟨x, y, s', m', L', own', ow', rfl, ⟨hwo', hI'.mono (by omega) (by omega), by omega, hL'⟩, hg, hto, hgr⟩
def ActR (s : Sy) (op a b c n m x y : Int) (s' : Sy) : Prop := (¬ (13 ≤ op ∧ op ≤ 16) → SysR s op a b c n m x y s') ∧ GsR s op a y s'
theorem do_any (k : Nat) (W : World) (ob wb sb : Nat) (s : Sy) (mm : Nat) (cbs : List Nat) (L : Int → Option Tr) (own : Nat → Option Own) (ow : Nat → Option OwnW) (nn : Nat) (op a b c n m : Int) (bl : Value) (nb : Nat) (h : WInv k W ob wb sb s mm cbs L own ow nn) (hk : k ≤ 200)
 (hbl : BlowsAt W own ow bl nb) (hnb : nb ≤ 8) (h1 : -9223372036854775808 ≤ a) (h2 : a ≤ 9223372036854775807) (hn : n ≤ 9223372036854775807) :
 Calls Tryz.prog 13 #[.pointer (some ⟨ob, 0, none⟩), actV op a b c n m bl] W (DoAny k ob wb sb s cbs own ow nn (ActR s op a b c n m) W) := by
 by_cases hop : 13 ≤ op ∧ op ≤ 16
 · refine (do_tries k W ob wb sb s mm cbs L own ow nn op a b c n m bl nb h hk hop hbl hnb).mono ?_; rintro e w' ⟨x, y, s', m', L', own', ow', he, hI, hg, hto, hgr⟩; exact ⟨x, y, s', m', L', own', ow', he, hI, ⟨fun hh => absurd hop hh, GsR.same hg (by omega)⟩, hto, hgr⟩
 · refine (do_sys k W ob wb sb s mm cbs L own ow nn op a b c n m bl h hk hop h1 h2 hn).mono ?_; rintro e w' ⟨x, y, s', m', L', own', ow', he, hI, ⟨hr, hg⟩, hto, hgr⟩; exact ⟨x, y, s', m', L', own', ow', he, hI, ⟨fun _ => hr, hg⟩, hto, hgr⟩
section
attribute [local go_sem] Oper.semAt_some
def BlowR (W : World) (v : Value) (n : Nat) : Prop :=
 ∃ p c, v = .slice p n c ∧ ∀ j, j < n → ∃ g o, p = some ⟨g, o, none⟩ ∧ g < W.heap.size ∧ ∃ x0 x1 x2 x3 : Int, W.cell? ⟨g, o + j * 4, none⟩ = some (.int .i64 x0) ∧ W.cell? ⟨g, o + j * 4 + 1, none⟩ = some (.int .i64 x1) ∧
  W.cell? ⟨g, o + j * 4 + 2, none⟩ = some (.int .i64 x2) ∧ W.cell? ⟨g, o + j * 4 + 3, none⟩ = some (.int .u8 x3)
def ActAt (W : World) (g o : Nat) (op a b c n m : Int) (bl : Value) (nb : Nat) : Prop :=
 (W.cell? ⟨g, o, none⟩ = some (.int .i64 op) ∧ W.cell? ⟨g, o + 1, none⟩ = some (.int .i64 a) ∧ W.cell? ⟨g, o + 2, none⟩ = some (.int .i64 b) ∧ W.cell? ⟨g, o + 3, none⟩ = some (.int .i64 c) ∧
   W.cell? ⟨g, o + 4, none⟩ = some (.int .i64 n) ∧ W.cell? ⟨g, o + 5, none⟩ = some (.int .i64 m) ∧ W.cell? ⟨g, o + 6, none⟩ = some bl) ∧
 ((-9223372036854775808 ≤ a ∧ a ≤ 9223372036854775807) ∧ n ≤ 9223372036854775807) ∧ BlowR W bl nb
def ActsAt (W : World) (p : Option Addr) (len : Nat) : Prop :=
 ∀ j, j < len → ∃ g o, p = some ⟨g, o, none⟩ ∧ g < W.heap.size ∧ ∃ (op a b c n m : Int) (bl : Value) (nb : Nat), ActAt W g (o + j * 7) op a b c n m bl nb
def FewAt (W : World) (p : Option Addr) (len : Nat) : Prop :=
 ∀ j, j < len → ∀ g o, p = some ⟨g, o, none⟩ → ∀ q nb c, W.cell? ⟨g, o + j * 7 + 6, none⟩ = some (.slice q nb c) → nb ≤ 8
theorem BlowR.below {W W' : World} {v : Value} {n : Nat} (h : BlowR W v n) (hb : Below W.heap.size W W') : BlowR W' v n := by
 obtain ⟨p, c, hv, hj⟩ := h; refine ⟨p, c, hv, fun j hjn => ?_⟩; obtain ⟨g, o, hp, g1, x0, x1, x2, x3, k0, k1, k2, k3⟩ := hj j hjn; have hg := hb.block g g1; exact ⟨g, o, hp, Nat.lt_of_lt_of_le g1 hb.size, x0, x1, x2, x3, (World.cell?_of_block (a := ⟨g, o + j * 4, none⟩) hg).trans k0, (World.cell?_of_block (a := ⟨g, o + j * 4 + 1, none⟩) hg).trans k1, (World.cell?_of_block (a := ⟨g, o + j * 4 + 2, none⟩) hg).trans k2, (World.cell?_of_block (a := ⟨g, o + j * 4 + 3, none⟩) hg).trans k3⟩
theorem ActsAt.below {W W' : World} {p : Option Addr} {len : Nat} (h : ActsAt W p len) (hb : Below W.heap.size W W') : ActsAt W' p len := fun j hj => by
 obtain ⟨g, o, hp, g1, op, a, b, c', n, m, bl, nb, ⟨k0, k1, k2, k3, k4, k5, k6⟩, hbd, hbl⟩ := h j hj; have hc : ∀ i, W'.cell? ⟨g, i, none⟩ = W.cell? ⟨g, i, none⟩ := fun i => World.cell?_of_block (a := ⟨g, i, none⟩) (hb.block g g1); exact ⟨g, o, hp, Nat.lt_of_lt_of_le g1 hb.size, op, a, b, c', n, m, bl, nb, ⟨(hc _).trans k0, (hc _).trans k1, (hc _).trans k2, (hc _).trans k3, (hc _).trans k4, (hc _).trans k5, (hc _).trans k6⟩, hbd, hbl.below hb⟩
def FarP (W : World) (tn : Nat) (p : Option Addr) (len : Nat) (e : Ending) (w' : World) : Prop :=
 ∃ f : Bool, e = .returned (.bool f) ∧ W = w' ∧ (f = false → tn ≤ 8 ∧ len ≤ 150 ∧ FewAt W p len)
set_option maxRecDepth 100000 in
theorem far_any (W : World) (tp : Option Addr) (tn tc : Nat) (p : Option Addr) (len c : Nat) (h : ActsAt W p len) :
 Calls Tryz.prog 10 #[.slice tp tn tc, .slice p len c] W (FarP W tn p len) := by
 have H := lH h; clear h; by_cases h8 : 8 < tn
 · have h8' : (8 : Int) < (tn : Int) := by omega
   go_enter Tryz.func10, Tryz.ntmps10; go_wp2_with fail
   go_ret
   exact ⟨true, rfl, rfl, fun h => by cases h⟩
 · have h8' : ¬ (8 : Int) < (tn : Int) := by omega
   by_cases h150 : 150 < len
   · have h150' : (150 : Int) < (len : Int) := by omega
     go_enter Tryz.func10, Tryz.ntmps10; go_wp2_with fail
     go_ret
     exact ⟨true, rfl, rfl, fun h => by cases h⟩
   · have h150' : ¬ (150 : Int) < (len : Int) := by omega
     have HG : Hid (tn ≤ 8 ∧ len ≤ 150) := lH (by omega); clear h8 h150; go_enter Tryz.func10, Tryz.ntmps10; go_wp2_with fail
     go_loop [5] (fun x => ∃ j : Nat, j ≤ len ∧ x = .int .i64 j ∧ Hid (FewAt W p j)) (fun x => len - (intOf x).toNat)
     case atStart => exact ⟨0, Nat.zero_le _, rfl, lH (fun j hj => absurd hj (Nat.not_lt_zero _))⟩
     case round =>
      obtain ⟨j, hj, rfl, HF⟩ := hrel; by_cases hjn : j < len
      · obtain ⟨g, o, rfl, hg1, op, a, b, c', n, m, bl, nb, ⟨k0, k1, k2, k3, k4, k5, k6⟩, hbd, q, qc, rfl, hq⟩ := H.out j hjn; have hj1 : (j : Int) < (len : Int) := by omega
        have hj0 : 0 ≤ (j : Int) := by omega
        have hlen := HG.out.2; by_cases hnb : 8 < nb
        · have hnb' : (8 : Int) < (nb : Int) := by omega
          clear hq hbd; go_wp2_with fail
          go_ret
          exact ⟨true, rfl, rfl, fun h => by cases h⟩
        · have hnb' : ¬ (8 : Int) < (nb : Int) := by omega
          have HF2 : Hid (FewAt W (some ⟨g, o, none⟩) (j + 1)) := lH (fun i hi g' o' hp q' nb' c'' hc => by
           by_cases e : i < j
           · exact HF.out i e g' o' hp q' nb' c'' hc
           · obtain rfl : i = j := by omega
             simp only [Option.some.injEq, Addr.mk.injEq] at hp; obtain ⟨rfl, rfl, -⟩ := hp; rw [k6] at hc; simp only [Option.some.injEq, Value.slice.injEq] at hc; omega)
          clear hq hbd; go_wp2_with fail
          go_round
          case rel => exact ⟨j + 1, by omega, by go_num, HF2⟩
          case measure => simp [intOf]; omega
      · obtain rfl : j = len := by omega
        go_wp2_with fail
        go_ret
        exact ⟨false, rfl, rfl, fun _ => ⟨HG.out.1, HG.out.2, HF.out⟩⟩
end
section
attribute [local go_sem] Oper.semAt_some
end
section
attribute [local go_sem] Oper.semAt_some
def ReadsI (W : World) (a : Option Addr) (n : Nat) (zs : List Int) : Prop :=
 n = 0 ∨ ∃ b off, a = some ⟨b, off, none⟩ ∧ b < W.heap.size ∧ ∀ j, j < n → W.cell? ⟨b, off + j, none⟩ = some (.int .i64 (zs.getD j 0))
end
end Go.Proofs.YtoiajjobecinpaaGreat
