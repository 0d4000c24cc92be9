/- One line under any policy: who is picked, and how far all are apart. Lines within bounds: what every act keeps of one. M -/
import Derived.Test.YtoiajjobecinpaaGreatTA28
set_option maxHeartbeats 4000000
namespace Go.Proofs.YtoiajjobecinpaaGreat
open Go.RowKit Go.Shelf Go.Lib Go.Proofs
set_option linter.unusedVariables false
set_option linter.unusedSimpArgs false
structure LnK (k : Nat) (b : Int) (l : Ln) : Prop where
 ids : ById l.ps
 nn : Ids l
 w : ∀ p ∈ l.ps, 1 ≤ p.w ∧ p.w ≤ 20
 lag : ∀ p ∈ l.ps, -((k : Int) * 232792560) ≤ l.base - p.v ∧ l.base - p.v ≤ (k : Int) * 232792560
 base : 0 ≤ l.base ∧ l.base ≤ b
 least : l.ps = [] ∨ ∃ p ∈ l.ps, p.v ≤ l.base
 cur : l.cur = -1 ∨ ∃ p ∈ l.ps, p.id = l.cur
def hasL (l : Ln) (x w : Int) : Prop := ∃ p ∈ l.ps, p.id = x ∧ p.w = w
theorem LnK.mono {k k' : Nat} {b b' : Int} {l : Ln} (h : LnK k b l) (hk : k ≤ k') (hb : b ≤ b') : LnK k' b' l :=
 ⟨h.ids, h.nn, h.w, fun p hp => by have := h.lag p hp; omega, by have := h.base; omega, h.least, h.cur⟩
theorem growB_cons (b : Int) (p : Pt) (l : List Pt) : growB b (p :: l) = if b < (minP (p :: l)).v then (minP (p :: l)).v else b := rfl
theorem growB_ge (b : Int) (ps : List Pt) : b ≤ growB b ps := by
 cases ps with
 | nil => exact Int.le_refl _
 | cons p l =>
  rw [growB_cons]; by_cases e : b < (minP (p :: l)).v
  · rw [if_pos e]; omega
  · rw [if_neg e]; omega
theorem growB_cases (b : Int) (ps : List Pt) : growB b ps = b ∨ ((∃ p ∈ ps, p.v = growB b ps) ∧ ∀ p ∈ ps, growB b ps ≤ p.v) := by
 cases ps with
 | nil => exact .inl rfl
 | cons p l =>
  rw [growB_cons]; by_cases e : b < (minP (p :: l)).v
  · rw [if_pos e]; exact .inr ⟨⟨_, minP_mem _ (by simp), rfl⟩, minP_le _⟩
  · rw [if_neg e]; exact .inl rfl
theorem growB_least (b : Int) (ps : List Pt) : ps = [] ∨ ∃ p ∈ ps, p.v ≤ growB b ps := by
 cases ps with
 | nil => exact .inl rfl
 | cons p l =>
  refine .inr ⟨_, minP_mem (p :: l) (by simp), ?_⟩; rw [growB_cons]; by_cases e : b < (minP (p :: l)).v
  · rw [if_pos e]; exact Int.le_refl _
  · rw [if_neg e]; omega
theorem LnK.grown {k : Nat} {b base cur : Int} {ps : List Pt} (hids : ById ps) (hnn : ∀ p ∈ ps, 0 ≤ p.id ∧ p.id ≤ 1073741824) (hw : ∀ p ∈ ps, 1 ≤ p.w ∧ p.w ≤ 20)
 (hlag : ∀ p ∈ ps, -((k : Int) * 232792560) ≤ base - p.v ∧ base - p.v ≤ (k : Int) * 232792560) (hb : 0 ≤ base ∧ base ≤ b) (hc : cur = -1 ∨ ∃ p ∈ ps, p.id = cur) :
 LnK k (b + k * 232792560) ⟨growB base ps, cur, ps⟩ := by
 have h1 := growB_ge base ps; refine ⟨hids, hnn, hw, fun p hp => ?_, ⟨by show 0 ≤ growB base ps; omega, ?_⟩, growB_least base ps, hc⟩
 · have h2 := hlag p hp; show -((k : Int) * 232792560) ≤ growB base ps - p.v ∧ growB base ps - p.v ≤ (k : Int) * 232792560; rcases growB_cases base ps with e | ⟨_, e⟩
   · rw [e]; exact h2
   · have := e p hp; omega
 · show growB base ps ≤ _; rcases growB_cases base ps with e | ⟨⟨p, hp, e⟩, _⟩
   · rw [e]; omega
   · have h2 := hlag p hp; rw [← e]; omega
theorem mem_insP {p q : Pt} {ps : List Pt} : q ∈ insP p ps ↔ q = p ∨ q ∈ ps := by
 rw [(insP_perm p ps).mem_iff]; simp [or_comm]
theorem LnK.put {k : Nat} {b : Int} {l : Ln} {id w lag : Int} (h : LnK k b l) (hid : 0 ≤ id ∧ id ≤ 1073741824) (hw : 1 ≤ w ∧ w ≤ 20) (hl : -((k : Int) * 232792560) ≤ lag ∧ lag ≤ (k : Int) * 232792560)
 (hn : ∀ p ∈ l.ps, p.id ≠ id) : LnK k (b + k * 232792560) (putL l id w lag) := by
 unfold putL; refine LnK.grown (insP_sorted _ _ h.ids hn) (fun p hp => ?_) (fun p hp => ?_) (fun p hp => ?_) h.base ?_
 · rcases mem_insP.1 hp with rfl | hp
   · exact hid
   · exact h.nn p hp
 · rcases mem_insP.1 hp with rfl | hp
   · exact hw
   · exact h.w p hp
 · rcases mem_insP.1 hp with rfl | hp
   · show -((k : Int) * 232792560) ≤ l.base - (l.base - lag) ∧ l.base - (l.base - lag) ≤ _; omega
   · exact h.lag p hp
 · rcases h.cur with e | ⟨p, hp, e⟩
   · exact .inl e
   · exact .inr ⟨p, mem_insP.2 (.inr hp), e⟩
theorem hasL_put {l : Ln} {id w lag x v : Int} : hasL (putL l id w lag) x v ↔ (x = id ∧ v = w) ∨ hasL l x v := by
 unfold hasL putL; constructor
 · rintro ⟨p, hp, h1, h2⟩; rcases mem_insP.1 hp with rfl | hp
   · exact .inl ⟨h1.symm, h2.symm⟩
   · exact .inr ⟨p, hp, h1, h2⟩
 · rintro (⟨rfl, rfl⟩ | ⟨p, hp, h1, h2⟩)
   · exact ⟨_, mem_insP.2 (.inl rfl), rfl, rfl⟩
   · exact ⟨p, mem_insP.2 (.inr hp), h1, h2⟩
theorem byId_get {ps : List Pt} (h : ById ps) {i j : Nat} (hi : i < ps.length) (hj : j < ps.length) (e : ps[i].id = ps[j].id) : i = j := by
 have h' := List.pairwise_iff_getElem.1 h; rcases Nat.lt_trichotomy i j with hlt | rfl | hlt
 · have := h' i j hi hj hlt; omega
 · rfl
 · have := h' j i hj hi hlt; omega
theorem mem_setk {α : Type} (l : List α) (k : Nat) (hk : k < l.length) (a p : α) : p ∈ l.set k a ↔ p = a ∨ ∃ i, ∃ h : i < l.length, i ≠ k ∧ l[i] = p := by
 rw [List.mem_iff_getElem]; constructor
 · rintro ⟨i, hi, rfl⟩; rw [List.getElem_set]; split
   · exact .inl rfl
   · rename_i e; exact .inr ⟨i, by simpa using hi, fun e' => e e'.symm, rfl⟩
 · rintro (rfl | ⟨i, hi, hne, rfl⟩)
   · exact ⟨k, by simpa using hk, by simp⟩
   · exact ⟨i, by simpa using hi, by rw [List.getElem_set]; rw [if_neg (fun e => hne e.symm)]⟩
theorem byId_mem {ps : List Pt} (h : ById ps) {k : Nat} (hk : k < ps.length) (p : Pt) : (∃ i, ∃ h : i < ps.length, i ≠ k ∧ ps[i] = p) ↔ p ∈ ps ∧ p.id ≠ ps[k].id := by
 constructor
 · rintro ⟨i, hi, hne, rfl⟩; exact ⟨List.getElem_mem hi, fun e => hne (byId_get h hi hk e)⟩
 · rintro ⟨hp, hne⟩; obtain ⟨i, hi, rfl⟩ := List.mem_iff_getElem.1 hp; exact ⟨i, hi, fun e => hne (by subst e; rfl), rfl⟩
theorem byId_set {ps : List Pt} (h : ById ps) {k : Nat} (hk : k < ps.length) {q : Pt} (e : q.id = ps[k].id) : ById (ps.set k q) := by
 have h1 : (ps.map (·.id)).Pairwise (· < ·) := List.pairwise_map.2 h; have h2 : (ps.set k q).map (·.id) = ps.map (·.id) := by
  rw [List.map_set, e]; have : (ps.map (·.id))[k]'(by simpa using hk) = ps[k].id := by simp
  rw [← this, List.set_getElem_self]
 exact List.pairwise_map.1 (h2 ▸ h1)
theorem byId_erase {ps : List Pt} (h : ById ps) (k : Nat) : ById (ps.eraseIdx k) := List.Pairwise.sublist (List.eraseIdx_sublist ps k) h
theorem mem_erasek {ps : List Pt} (h : ById ps) {k : Nat} (hk : k < ps.length) (p : Pt) : p ∈ ps.eraseIdx k ↔ p ∈ ps ∧ p.id ≠ ps[k].id := by
 rw [← byId_mem h hk, List.mem_eraseIdx_iff_getElem]
theorem LnK.leave {k : Nat} {b : Int} {l : Ln} (id : Int) (h : LnK k b l) : LnK k (b + k * 232792560) (leaveL l id).2.2 ∧ (∀ x v, hasL (leaveL l id).2.2 x v ↔ x ≠ id ∧ hasL l x v) ∧
 (∀ w, hasL l id w → (leaveL l id).2.1 = 0 ∧ -((k : Int) * 232792560) ≤ (leaveL l id).1 ∧ (leaveL l id).1 ≤ (k : Int) * 232792560) := by
 unfold leaveL; rcases posP_cases l.ps id with ⟨hp, hn⟩ | ⟨j, hj, hp, hid, _⟩
 · rw [if_pos (by omega)]; refine ⟨h.mono (Nat.le_refl _) (by omega), fun x v => ⟨fun hx => ⟨fun e => ?_, hx⟩, fun hx => hx.2⟩, fun w ⟨p, hp, e, _⟩ => absurd e (hn p hp)⟩; obtain ⟨p, hp, h1, h2⟩ := hx; exact hn p hp (h1.trans e)
 · rw [hp, if_neg (by omega)]; have hj' : ((j : Int)).toNat = j := by omega
   rw [hj', getElem!_pos l.ps j hj]; have hm := mem_erasek h.ids hj; rw [hid] at hm; have hlag := h.lag _ (List.getElem_mem hj); refine ⟨LnK.grown (byId_erase h.ids j) (fun p hp => h.nn p ((hm p).1 hp).1) (fun p hp => h.w p ((hm p).1 hp).1) (fun p hp => h.lag p ((hm p).1 hp).1) h.base ?_, fun x v => ?_, fun w _ => ⟨rfl, hlag⟩⟩
   · by_cases e : l.cur = id
     · rw [if_pos e]; exact .inl rfl
     · rw [if_neg e]; rcases h.cur with e2 | ⟨p, hp, e2⟩
       · exact .inl e2
       · exact .inr ⟨p, (hm p).2 ⟨hp, by rw [e2]; exact e⟩, e2⟩
   · unfold hasL; constructor
     · rintro ⟨p, hp, h1, h2⟩; have := (hm p).1 hp; exact ⟨by rw [← h1]; exact this.2, p, this.1, h1, h2⟩
     · rintro ⟨hne, p, hp, h1, h2⟩; exact ⟨p, (hm p).2 ⟨hp, by rw [h1]; exact hne⟩, h1, h2⟩
theorem LnK.setP {k : Nat} {b : Int} {l : Ln} {j : Nat} (h : LnK k b l) (hj : j < l.ps.length) (q : Pt) (hq : q.id = l.ps[j].id) (hw : 1 ≤ q.w ∧ q.w ≤ 20) (k' : Nat) (hk : k ≤ k') (hl : -((k' : Int) * 232792560) ≤ l.base - q.v ∧ l.base - q.v ≤ (k' : Int) * 232792560) :
 LnK k' (b + k' * 232792560) ⟨growB l.base (l.ps.set j q), l.cur, l.ps.set j q⟩ ∧ ∀ x v, hasL ⟨growB l.base (l.ps.set j q), l.cur, l.ps.set j q⟩ x v ↔ (x = q.id ∧ v = q.w) ∨ (x ≠ q.id ∧ hasL l x v) := by
 have hm : ∀ p, p ∈ l.ps.set j q ↔ p = q ∨ (p ∈ l.ps ∧ p.id ≠ q.id) := fun p => by rw [mem_setk _ _ hj, byId_mem h.ids hj, hq]
 refine ⟨LnK.grown (byId_set h.ids hj hq) (fun p hp => ?_) (fun p hp => ?_) (fun p hp => ?_) h.base ?_, fun x v => ?_⟩
 · rcases (hm p).1 hp with rfl | ⟨hp, _⟩
   · rw [hq]; exact h.nn _ (List.getElem_mem hj)
   · exact h.nn p hp
 · rcases (hm p).1 hp with rfl | ⟨hp, _⟩
   · exact hw
   · exact h.w p hp
 · rcases (hm p).1 hp with rfl | ⟨hp, _⟩
   · exact hl
   · have := h.lag p hp; omega
 · rcases h.cur with e | ⟨p, hp, e⟩
   · exact .inl e
   · by_cases e2 : p.id = q.id
     · exact .inr ⟨q, (hm q).2 (.inl rfl), by rw [← e2, e]⟩
     · exact .inr ⟨p, (hm p).2 (.inr ⟨hp, e2⟩), e⟩
 · unfold hasL; constructor
   · rintro ⟨p, hp, h1, h2⟩; rcases (hm p).1 hp with rfl | ⟨hp, hne⟩
     · exact .inl ⟨h1.symm, h2.symm⟩
     · exact .inr ⟨by rw [← h1]; exact hne, p, hp, h1, h2⟩
   · rintro (⟨rfl, rfl⟩ | ⟨hne, p, hp, h1, h2⟩)
     · exact ⟨q, (hm q).2 (.inl rfl), rfl, rfl⟩
     · exact ⟨p, (hm p).2 (.inr ⟨hp, by rw [h1]; exact hne⟩), h1, h2⟩
theorem goodW_in {w : Int} (h : 1 ≤ w ∧ w ≤ 20) : goodW w = true := by unfold goodW; simp [h.1, h.2]
theorem LnK.weigh {k : Nat} {b : Int} {l : Ln} {id w u : Int} (h : LnK k b l) (hw : 1 ≤ w ∧ w ≤ 20) (hh : hasL l id u) :
 (weighL l id w).1 = 0 ∧ LnK k (b + k * 232792560) (weighL l id w).2 ∧ ∀ x v, hasL (weighL l id w).2 x v ↔ (x = id ∧ v = w) ∨ (x ≠ id ∧ hasL l x v) := by
 obtain ⟨p, hp, h1, h2⟩ := hh; unfold weighL; rcases posP_cases l.ps id with ⟨_, hn⟩ | ⟨j, hj, hp, hid, _⟩
 · exact absurd h1 (hn p hp)
 · rw [hp, if_neg (by omega), if_pos (goodW_in hw)]; have hj' : ((j : Int)).toNat = j := by omega
   rw [hj', getElem!_pos l.ps j hj]; obtain ⟨a, b⟩ := h.setP hj (dayP ⟨l.ps[j].id, w, l.ps[j].v, 0⟩) rfl hw k (Nat.le_refl _) (by have := h.lag _ (List.getElem_mem hj); exact this); refine ⟨rfl, a, fun x v => ?_⟩; have := b x v; rw [show (dayP ⟨l.ps[j].id, w, l.ps[j].v, 0⟩).id = id from hid] at this; exact this
theorem best_mem (m : Int) (S T : Nat) (ps : List Pt) : ∀ p, bestD m S T ps = some p → p ∈ ps := by
 unfold bestD; have gen : ∀ (qs : List Pt) (a : Option Pt), (∀ p, a = some p → p ∈ ps) → (∀ q ∈ qs, q ∈ ps) → ∀ p, qs.foldl (stepD m S T) a = some p → p ∈ ps := by
  intro qs; induction qs with
  | nil => intro a ha _ p hp; exact ha p hp
  | cons q qs ih =>
   intro a ha hq p hp; refine ih (stepD m S T a q) (fun r hr => ?_) (fun r hr => hq r (List.mem_cons_of_mem _ hr)) p hp; unfold stepD at hr; split at hr
   · exact ha r hr
   · split at hr
     · rw [Option.some.injEq] at hr; subst hr; exact hq _ List.mem_cons_self
     · split at hr
       · rw [Option.some.injEq] at hr; subst hr; exact hq _ List.mem_cons_self
       · exact ha r hr
 exact gen ps none (fun p hp => by cases hp) (fun q hq => hq)
theorem take_cur (l : Ln) : (takeL l).cur = -1 ∨ ∃ p ∈ l.ps, p.id = (takeL l).cur := by
 unfold takeL; by_cases e : l.ps = []
 · rw [if_pos e]; exact .inl rfl
 · rw [if_neg e]; exact .inr ⟨_, minP_mem _ e, rfl⟩
theorem pick_same (tag : Int) (l : Ln) (hc : l.cur = -1 ∨ ∃ p ∈ l.ps, p.id = l.cur) : (pickT tag l).ps = l.ps ∧ (pickT tag l).base = l.base ∧ ((pickT tag l).cur = -1 ∨ ∃ p ∈ l.ps, p.id = (pickT tag l).cur) := by
 unfold pickT; split
 · exact ⟨rfl, rfl, take_cur l⟩
 · split
   · unfold pickF; split
     · exact ⟨rfl, rfl, take_cur l⟩
     · split
       · exact ⟨rfl, rfl, hc⟩
       · exact ⟨rfl, rfl, take_cur l⟩
   · refine ⟨rfl, rfl, ?_⟩; unfold pickD; simp only
     cases e : bestD (minP l.ps).v (sumD (minP l.ps).v l.ps) (totD l.ps) l.ps with
     | none => exact .inl rfl
     | some p => exact .inr ⟨p, best_mem _ _ _ _ p e, rfl⟩
theorem LnK.pick {k : Nat} {b : Int} {l : Ln} (h : LnK k b l) (tag : Int) : LnK k b (pickT tag l) ∧ ∀ x v, hasL (pickT tag l) x v ↔ hasL l x v := by
 obtain ⟨e1, e2, e3⟩ := pick_same tag l h.cur; refine ⟨⟨by rw [e1]; exact h.ids, fun p hp => h.nn p (by rw [← e1]; exact hp), by rw [e1]; exact h.w, by rw [e1, e2]; exact h.lag, by rw [e2]; exact h.base, by rw [e1, e2]; exact h.least, by rw [e1]; exact e3⟩, fun x v => by unfold hasL; rw [e1]⟩
theorem LnK.charge {k : Nat} {b : Int} {l : Ln} (h : LnK k b l) (hk : k ≤ 1000) (hb : b ≤ 1000000000000000000) :
 LnK (k + 1) (b + (k + 1 : Nat) * 232792560) (chargeL l).2.2 ∧ (∀ x v, hasL (chargeL l).2.2 x v ↔ hasL l x v) ∧
 ((chargeL l).2.1 = 14 ∨ ((chargeL l).2.1 = 0 ∧ ∃ w, hasL l (chargeL l).1 w)) := by
 unfold chargeL; rcases posP_cases l.ps l.cur with ⟨hp, hn⟩ | ⟨j, hj, hp, hid, _⟩
 · rw [if_pos (by omega)]; exact ⟨h.mono (by omega) (by omega), fun x v => Iff.rfl, .inl rfl⟩
 · rw [hp, if_neg (by omega)]; have hj' : ((j : Int)).toNat = j := by omega
   rw [hj', getElem!_pos l.ps j hj]; have hlag := h.lag _ (List.getElem_mem hj); have hbs := h.base; have hst := stepI_le l.ps[j].w; rw [if_neg (by omega)]; have hon : (onP l.ps[j]).id = l.ps[j].id ∧ (onP l.ps[j]).w = l.ps[j].w ∧ (onP l.ps[j]).v = l.ps[j].v + stepI l.ps[j].w := by
    unfold onP; split <;> exact ⟨rfl, rfl, rfl⟩
   obtain ⟨a, c⟩ := h.setP hj (onP l.ps[j]) hon.1 (by rw [hon.2.1]; exact h.w _ (List.getElem_mem hj)) (k + 1) (by omega) (by rw [hon.2.2]; omega); refine ⟨a, fun x v => ?_, .inr ⟨rfl, l.ps[j].w, _, List.getElem_mem hj, rfl, rfl⟩⟩; rw [c x v, hon.1, hon.2.1]; unfold hasL; constructor
   · rintro (⟨rfl, rfl⟩ | ⟨_, h⟩)
     · exact ⟨_, List.getElem_mem hj, rfl, rfl⟩
     · exact h
   · rintro ⟨p, hp, h1, h2⟩; by_cases e : x = l.ps[j].id
     · refine .inl ⟨e, ?_⟩; obtain ⟨i, hi, rfl⟩ := List.mem_iff_getElem.1 hp; have := byId_get h.ids hi hj (h1.trans e); subst this; exact h2.symm
     · exact .inr ⟨e, p, hp, h1, h2⟩
theorem heldT_le (tag lag A : Int) (h : -A ≤ lag ∧ lag ≤ A) : -A ≤ heldT tag lag ∧ heldT tag lag ≤ A := by
 unfold heldT heldS heldF heldD; split
 · omega
 · split
   · omega
   · split
     · omega
     · split <;> omega
theorem LnK.fits {k : Nat} {b : Int} {l : Ln} (h : LnK k b l) (hk : k ≤ 1000) (hb : b ≤ 1000000000000000000) (hl : l.ps.length ≤ 64) : Fits l := by
 have hbs := h.base; refine ⟨hl, h.ids, by omega, fun p hp => ?_⟩; have := h.lag p hp; have := h.w p hp; omega
theorem LnK.same {k : Nat} {b b' : Int} {l l' : Ln} (h : LnK k b l) (hb : 0 ≤ l'.base ∧ l'.base ≤ b') (hc : l'.cur = l.cur) (hf : formL l' = formL l) : LnK k b' l' ∧ ∀ x v, hasL l' x v ↔ hasL l x v := by
 have hlen : l'.ps.length = l.ps.length := by
  have := congrArg List.length hf; simpa [formL] using this
 have hat : ∀ j (h1 : j < l'.ps.length) (h2 : j < l.ps.length), l'.ps[j].id = l.ps[j].id ∧ l'.ps[j].w = l.ps[j].w ∧ l'.base - l'.ps[j].v = l.base - l.ps[j].v := fun j h1 h2 => by
  have := congrArg (fun x => x[j]?) hf; simp only [formL, List.getElem?_map, List.getElem?_eq_getElem h1, List.getElem?_eq_getElem h2, Option.map_some, Option.some.injEq, itP, It.mk.injEq] at this; exact this
 have hto : ∀ p ∈ l'.ps, ∃ q ∈ l.ps, p.id = q.id ∧ p.w = q.w ∧ l'.base - p.v = l.base - q.v := fun p hp => by
  obtain ⟨j, hj, rfl⟩ := List.mem_iff_getElem.1 hp; exact ⟨l.ps[j]'(by omega), List.getElem_mem _, hat j hj (by omega)⟩
 have hfrom : ∀ q ∈ l.ps, ∃ p ∈ l'.ps, p.id = q.id ∧ p.w = q.w ∧ l'.base - p.v = l.base - q.v := fun q hq => by
  obtain ⟨j, hj, rfl⟩ := List.mem_iff_getElem.1 hq; exact ⟨l'.ps[j]'(by omega), List.getElem_mem _, hat j (by omega) hj⟩
 refine ⟨⟨?_, fun p hp => ?_, fun p hp => ?_, fun p hp => ?_, hb, ?_, ?_⟩, fun x v => ⟨?_, ?_⟩⟩
 · refine List.pairwise_iff_getElem.2 fun i j hi hj hij => ?_; rw [(hat i hi (by omega)).1, (hat j hj (by omega)).1]; exact List.pairwise_iff_getElem.1 h.ids i j (by omega) (by omega) hij
 · obtain ⟨q, hq, e1, e2, e3⟩ := hto p hp; rw [e1]; exact h.nn q hq
 · obtain ⟨q, hq, e1, e2, e3⟩ := hto p hp; rw [e2]; exact h.w q hq
 · obtain ⟨q, hq, e1, e2, e3⟩ := hto p hp; rw [e3]; exact h.lag q hq
 · rcases h.least with e | ⟨q, hq, e⟩
   · left
     have : l.ps.length = 0 := by rw [e]; rfl
     exact List.length_eq_zero_iff.1 (by omega)
   · obtain ⟨p, hp, e1, e2, e3⟩ := hfrom q hq; exact .inr ⟨p, hp, by omega⟩
 · rw [hc]; rcases h.cur with e | ⟨q, hq, e⟩
   · exact .inl e
   · obtain ⟨p, hp, e1, e2, e3⟩ := hfrom q hq; exact .inr ⟨p, hp, by rw [e1, e]⟩
 · rintro ⟨p, hp, h1, h2⟩; obtain ⟨q, hq, e1, e2, e3⟩ := hto p hp; exact ⟨q, hq, by rw [← e1, h1], by rw [← e2, h2]⟩
 · rintro ⟨q, hq, h1, h2⟩; obtain ⟨p, hp, e1, e2, e3⟩ := hfrom q hq; exact ⟨p, hp, by rw [e1, h1], by rw [e2, h2]⟩
def onT (t : Tk) : Bool := decide (t.state = 2) || decide (t.state = 5)
theorem ton_any (b : Nat) (t : Tk) (W : World) (h : TaskAt W b t) : Calls Tryz.prog 109 #[.pointer (some ⟨b, 0, none⟩)] W fun e w' => e = .returned (.bool (onT t)) ∧ W = w' := by
 have hs := h.state; unfold onT; clear h; generalize t.state = x at hs ⊢; by_cases h2 : x = 2
 · subst h2; go_enter Tryz.func109, Tryz.ntmps109; go_wp2
   go_ret
   exact ⟨rfl, rfl⟩
 · by_cases h5 : x = 5
   · subst h5; go_enter Tryz.func109, Tryz.ntmps109; go_wp2
     go_ret
     exact ⟨rfl, rfl⟩
   · rw [decide_eq_false h2, decide_eq_false h5]; have e2 : (x == 2) = false := by simpa using h2
     have e5 : (x == 5) = false := by simpa using h5
     clear h2 h5; go_enter Tryz.func109, Tryz.ntmps109; go_wp2
     go_ret
     exact ⟨rfl, rfl⟩
theorem move_none (sb gb nb pb mb n : Nat) (cv : Value) (D : DataW Unit) (cbs : List Nat) (tb : Int → Nat) (own : Nat → Option Own) (s : Sy) (id tg : Int) (W : World) (h : SysAt W sb gb nb pb mb n cv D cbs tb own s)
 (h1 : -9223372036854775808 ≤ id) (h2 : id ≤ 9223372036854775807) (ht : s.tasks id = none) :
 Calls Tryz.prog 54 #[.pointer (some ⟨sb, 0, none⟩), .int .i64 id, .int .i64 tg] W fun e w' => e = .returned (.int .i64 2) ∧ W = w' := by
 have hl := h.look id h1 h2; rw [ht] at hl; simp only at hl; have c67 := h.c67; clear h ht; go_enter Tryz.func54, Tryz.ntmps54; go_wp2_with fail
 go_ret
 exact ⟨rfl, rfl⟩
def moveE (t : Tk) (tg : Int) : Int := if onT t = false then 4 else if hasM t.mask tg = false then 5 else 0
set_option maxRecDepth 100000 in
theorem move_stay (sb gb nb pb mb n : Nat) (cv : Value) (D : DataW Unit) (cbs : List Nat) (tb : Int → Nat) (own : Nat → Option Own) (s : Sy) (id tg : Int) (t : Tk) (W : World) (h : SysAt W sb gb nb pb mb n cv D cbs tb own s)
 (h1 : -9223372036854775808 ≤ id) (h2 : id ≤ 9223372036854775807) (ht : s.tasks id = some t) (hm : 0 ≤ t.mask ∧ t.mask < 65536) (hs : onT t = false ∨ hasM t.mask tg = false ∨ tg = t.core) :
 Calls Tryz.prog 54 #[.pointer (some ⟨sb, 0, none⟩), .int .i64 id, .int .i64 tg] W fun e w' => e = .returned (.int .i64 (moveE t tg)) ∧ W = w' := by
 have hl := h.look id h1 h2; rw [ht] at hl; simp only at hl; have c67 := h.c67; have hT := (h.task id t ht).1; have hon := ton_any (tb id) t W hT; have q3 := hT.core; have q5 := hT.mask; have hhas := mhas_any t.mask tg hm W; unfold moveE; generalize tb id = b at hl hon q3 q5; clear h ht hT hm; by_cases ho : onT t = false
 · rw [ho] at hon; rw [if_pos ho]; clear hs ho; go_enter Tryz.func54, Tryz.ntmps54; go_wp2_with fail
   refine hon.mono ?_; rintro e w' ⟨rfl, rfl⟩; go_wp2_with fail
   go_ret
   exact ⟨rfl, rfl⟩
 · rw [show onT t = true by simpa using ho] at hon; rw [if_neg ho]; by_cases hh : hasM t.mask tg = false
   · rw [hh] at hhas; rw [if_pos hh]; clear hs ho hh; go_enter Tryz.func54, Tryz.ntmps54; go_wp2_with fail
     refine hon.mono ?_; rintro e w' ⟨rfl, rfl⟩; go_wp2_with fail
     refine hhas.mono ?_; rintro e w' ⟨rfl, rfl⟩; go_wp2_with fail
     go_ret
     exact ⟨rfl, rfl⟩
   · rw [show hasM t.mask tg = true by simpa using hh] at hhas; rw [if_neg hh]; have hto : tg = t.core := by
      rcases hs with h | h | h
      · exact absurd h ho
      · exact absurd h hh
      · exact h
     have he : (tg == t.core) = true := by simp [hto]
     clear hs ho hh hto; go_enter Tryz.func54, Tryz.ntmps54; go_wp2_with fail
     refine hon.mono ?_; rintro e w' ⟨rfl, rfl⟩; go_wp2_with fail
     refine hhas.mono ?_; rintro e w' ⟨rfl, rfl⟩; go_wp2_with fail
     go_ret
     exact ⟨rfl, rfl⟩
set_option maxRecDepth 100000 in
theorem move_held (sb gb nb pb mb n : Nat) (cv : Value) (D : DataW Unit) (cbs : List Nat) (tb : Int → Nat) (own : Nat → Option Own) (s : Sy) (id tg : Int) (t : Tk) (W : World) (h : SysAt W sb gb nb pb mb n cv D cbs tb own s)
 (h1 : -9223372036854775808 ≤ id) (h2 : id ≤ 9223372036854775807) (ht : s.tasks id = some t) (hm : 0 ≤ t.mask ∧ t.mask < 65536) (h5 : t.state = 5) (hh : hasM t.mask tg = true) (hto : tg ≠ t.core) :
 Calls Tryz.prog 54 #[.pointer (some ⟨sb, 0, none⟩), .int .i64 id, .int .i64 tg] W fun e w' => e = .returned (.int .i64 0) ∧ YP sb gb nb pb mb n cv D cbs tb own (setTk s id (coT t tg)) W w' := by
 have hl := h.look id h1 h2; rw [ht] at hl; simp only at hl; have c67 := h.c67; obtain ⟨hT, hown⟩ := h.task id t ht; have hon := ton_any (tb id) t W hT; rw [show onT t = true by unfold onT; simp [h5]] at hon; have q3 := hT.core; have f3 := hT.live 3; have q4 := hT.state; have q5 := hT.mask; have hhas := mhas_any t.mask tg hm W; rw [hh] at hhas; rw [h5] at q4; have he : (tg == t.core) = false := by simpa using hto
 have HS := lH h; have HT := lH ht; have HTT := lH hT; have HO := lH hown; obtain ⟨b, hb⟩ : ∃ b, tb id = b := ⟨_, rfl⟩
 rw [hb] at hl hon q3 f3 q4 q5; have HB := lH hb; clear h ht hT hm h5 hh hto hown hb; go_enter Tryz.func54, Tryz.ntmps54; go_wp2_with fail
 refine hon.mono ?_; rintro e w' ⟨rfl, rfl⟩; go_wp2_with fail
 refine hhas.mono ?_; rintro e w' ⟨rfl, rfl⟩; go_wp2_with fail
 go_ret
 exact ⟨rfl, own, HS.out.setTask HT.out (by rw [HB.out]; have := HTT.out; rw [HB.out] at this; exact this.setCore tg) (by rw [HB.out]; exact touch1 _ _ _ _), fun _ _ => rfl, (touch1 _ _ _ _).wider (fun k hk => by rw [hk, ← HB.out, HO.out]; simp)⟩
section
attribute [local go_sem] Oper.semAt_some
def goodM (m c : Int) : Bool := decide (1 ≤ c) && (decide (c ≤ 16) && (m != 0 && (m / 2 ^ c.toNat == 0)))
theorem mgood_any (m c : Int) (hm : 0 ≤ m ∧ m < 65536) (W : World) :
 Calls Tryz.prog 99 #[.int .u16 m, .int .i64 c] W fun e w' => e = .returned (.bool (goodM m c)) ∧ W = w' := by
 unfold goodM; obtain ⟨m1, m2⟩ := hm; by_cases h1 : 1 ≤ c
 · by_cases h2 : c ≤ 16
   · rw [decide_eq_true h1, decide_eq_true h2]; go_enter Tryz.func99, Tryz.ntmps99; go_wp2
     all_goals (go_ret; exact ⟨by simp_all, rfl⟩)
   · rw [decide_eq_false h2]; go_enter Tryz.func99, Tryz.ntmps99; go_wp2
     go_ret
     exact ⟨by simp, rfl⟩
 · rw [decide_eq_false h1]; go_enter Tryz.func99, Tryz.ntmps99; go_wp2
   go_ret
   exact ⟨by simp, rfl⟩
def maskT (t : Tk) (m : Int) : Tk := ⟨t.id, t.w, t.group, t.core, t.state, m, t.lag⟩
theorem TaskAt.setMask {W : World} {b : Nat} {t : Tk} (h : TaskAt W b t) (x : Int) : TaskAt (W.setCell ⟨b, 5, none⟩ (.int .u16 x)) b (maskT t x) := by
 refine ⟨?_, ?_, ?_, ?_, ?_, World.cell?_setCell_same _ _ _ h.mask, ?_, fun i => (World.frozen?_setCell _ _ _ _).trans (h.live i)⟩
 · rw [cell_setCell_ne _ (by simp)]; exact h.id
 · rw [cell_setCell_ne _ (by simp)]; exact h.w
 · rw [cell_setCell_ne _ (by simp)]; exact h.group
 · rw [cell_setCell_ne _ (by simp)]; exact h.core
 · rw [cell_setCell_ne _ (by simp)]; exact h.state
 · rw [cell_setCell_ne _ (by simp)]; exact h.lag
theorem bind_none (sb gb nb pb mb n : Nat) (cv : Value) (D : DataW Unit) (cbs : List Nat) (tb : Int → Nat) (own : Nat → Option Own) (s : Sy) (id m : Int) (W : World) (h : SysAt W sb gb nb pb mb n cv D cbs tb own s)
 (h1 : -9223372036854775808 ≤ id) (h2 : id ≤ 9223372036854775807) (ht : s.tasks id = none) :
 Calls Tryz.prog 53 #[.pointer (some ⟨sb, 0, none⟩), .int .i64 id, .int .u16 m] W fun e w' => e = .returned (.int .i64 2) ∧ W = w' := by
 have hl := h.look id h1 h2; rw [ht] at hl; simp only at hl; have c67 := h.c67; clear h ht; go_enter Tryz.func53, Tryz.ntmps53; go_wp2_with fail
 go_ret
 exact ⟨rfl, rfl⟩
theorem bind_bad (sb gb nb pb mb n : Nat) (cv : Value) (D : DataW Unit) (cbs : List Nat) (tb : Int → Nat) (own : Nat → Option Own) (s : Sy) (id m : Int) (t : Tk) (W : World) (h : SysAt W sb gb nb pb mb n cv D cbs tb own s)
 (h1 : -9223372036854775808 ≤ id) (h2 : id ≤ 9223372036854775807) (ht : s.tasks id = some t) (hm : 0 ≤ m ∧ m < 65536) (h0 : 0 < cbs.length) (hg : goodM m cbs.length = false) :
 Calls Tryz.prog 53 #[.pointer (some ⟨sb, 0, none⟩), .int .i64 id, .int .u16 m] W fun e w' => e = .returned (.int .i64 5) ∧ W = w' := by
 have hl := h.look id h1 h2; rw [ht] at hl; simp only at hl; have c67 := h.c67; obtain ⟨g, c, hcv⟩ := h.form h0; have c0 := h.head; rw [hcv] at c0; have hgood := mgood_any m cbs.length hm W; rw [hg] at hgood; generalize tb id = b at hl; generalize cbs.length = k at c0 hgood; clear h ht hm hg hcv h0; go_enter Tryz.func53, Tryz.ntmps53; go_wp2_with fail
 refine hgood.mono ?_; rintro e w' ⟨rfl, rfl⟩; go_wp2_with fail
 go_ret
 exact ⟨rfl, rfl⟩
set_option maxRecDepth 100000 in
theorem bind_stay (sb gb nb pb mb n : Nat) (cv : Value) (D : DataW Unit) (cbs : List Nat) (tb : Int → Nat) (own : Nat → Option Own) (s : Sy) (id m : Int) (t : Tk) (W : World) (h : SysAt W sb gb nb pb mb n cv D cbs tb own s)
 (h1 : -9223372036854775808 ≤ id) (h2 : id ≤ 9223372036854775807) (ht : s.tasks id = some t) (hm : 0 ≤ m ∧ m < 65536) (h0 : 0 < cbs.length) (hg : goodM m cbs.length = true) (hs : onT t = false ∨ hasM m t.core = true) :
 Calls Tryz.prog 53 #[.pointer (some ⟨sb, 0, none⟩), .int .i64 id, .int .u16 m] W fun e w' => e = .returned (.int .i64 0) ∧ YP sb gb nb pb mb n cv D cbs tb own (setTk s id (maskT t m)) W w' := by
 have hl := h.look id h1 h2; rw [ht] at hl; simp only at hl; have c67 := h.c67; obtain ⟨g, c, hcv⟩ := h.form h0; have c0 := h.head; rw [hcv] at c0; have hgood := mgood_any m cbs.length hm W; rw [hg] at hgood; obtain ⟨hT, hown⟩ := h.task id t ht; have q5 := hT.mask; have f5 := hT.live 5; have hT5 := hT.setMask m; have hon := ton_any (tb id) _ _ hT5; have q3 := hT5.core; have hhas := mhas_any m t.core hm (W.setCell ⟨tb id, 5, none⟩ (.int .u16 m)); have HE := lH (h.setTask ht hT5 (touch1 _ _ _ _)); have HO := lH hown; obtain ⟨b, hb⟩ : ∃ b, tb id = b := ⟨_, rfl⟩
 rw [hb] at hl q5 f5 hon q3 hhas HE; have HB := lH hb; have e1 : onT (maskT t m) = onT t := rfl; rw [e1] at hon; simp only [maskT] at q3; have HTO : Hid (Touch (fun k => own k ≠ none) W (W.setCell ⟨b, 5, none⟩ (.int .u16 m))) := lH ((touch1 _ _ _ _).wider (fun k hk => by rw [hk, ← hb, hown]; simp)); have HFIN : Hid (YP sb gb nb pb mb n cv D cbs tb own (setTk s id (maskT t m)) W (W.setCell ⟨b, 5, none⟩ (.int .u16 m))) := lH ⟨own, HE.out, fun _ _ => rfl, HTO.out⟩; generalize cbs.length = k at c0 hgood; by_cases ho : onT t = true
 · have hh : hasM m t.core = true := by
    rcases hs with h | h
    · rw [h] at ho; cases ho
    · exact h
   rw [ho] at hon; rw [hh] at hhas; clear h ht hm hg hcv h0 hT hT5 hown hb hs ho hh e1; go_enter Tryz.func53, Tryz.ntmps53; go_wp2_with fail
   refine hgood.mono ?_; rintro e w' ⟨rfl, rfl⟩; go_wp2_with fail
   refine hon.mono ?_; rintro e w' ⟨rfl, rfl⟩; go_wp2_with fail
   refine hhas.mono ?_; rintro e w' ⟨rfl, rfl⟩; go_wp2_with fail
   go_ret
   exact ⟨rfl, HFIN.out⟩
 · rw [show onT t = false by simpa using ho] at hon; clear h ht hm hg hcv h0 hT hT5 hown hb hs ho e1 hhas; go_enter Tryz.func53, Tryz.ntmps53; go_wp2_with fail
   refine hgood.mono ?_; rintro e w' ⟨rfl, rfl⟩; go_wp2_with fail
   refine hon.mono ?_; rintro e w' ⟨rfl, rfl⟩; go_wp2_with fail
   go_ret
   exact ⟨rfl, HFIN.out⟩
set_option maxRecDepth 100000 in
theorem bind_move (sb gb nb pb mb n : Nat) (cv : Value) (D : DataW Unit) (cbs : List Nat) (tb : Int → Nat) (own : Nat → Option Own) (s : Sy) (id m : Int) (t : Tk) (j : Int) (S2 : Sy) (W : World) (h : SysAt W sb gb nb pb mb n cv D cbs tb own s)
 (h1 : -9223372036854775808 ≤ id) (h2 : id ≤ 9223372036854775807) (ht : s.tasks id = some t) (hm : 0 ≤ m ∧ m < 65536) (h0 : 0 < cbs.length) (h16 : cbs.length ≤ 16) (hf : FitsY s) (hg : goodM m cbs.length = true) (ho : onT t = true) (hh : hasM m t.core = false)
 (hj : (leastL (loadsY s) m).1 = j)
 (hmove : ∀ W1, SysAt W1 sb gb nb pb mb n cv D cbs tb own (setTk s id (maskT t m)) → Calls Tryz.prog 54 #[.pointer (some ⟨sb, 0, none⟩), .int .i64 id, .int .i64 j] W1 fun e w' => e = .returned (.int .i64 0) ∧ YP sb gb nb pb mb n cv D cbs tb own S2 W1 w') :
 Calls Tryz.prog 53 #[.pointer (some ⟨sb, 0, none⟩), .int .i64 id, .int .u16 m] W fun e w' => e = .returned (.int .i64 0) ∧ YP sb gb nb pb mb n cv D cbs tb own S2 W w' := by
 have hl := h.look id h1 h2; rw [ht] at hl; simp only at hl; have c67 := h.c67; obtain ⟨g, c, hcv⟩ := h.form h0; have c0 := h.head; rw [hcv] at c0; have hgood := mgood_any m cbs.length hm W; rw [hg] at hgood; obtain ⟨hT, hown⟩ := h.task id t ht; have q5 := hT.mask; have f5 := hT.live 5; have hT5 := hT.setMask m; have hon := ton_any (tb id) _ _ hT5; have q3 := hT5.core; have hhas := mhas_any m t.core hm (W.setCell ⟨tb id, 5, none⟩ (.int .u16 m)); have hE := h.setTask ht hT5 (touch1 _ _ _ _); have hleast := yleast_any sb gb nb pb mb n cv D cbs tb own (setTk s id (maskT t m)) m _ hE hf h0 h16 hm; rw [show loadsY (setTk s id (maskT t m)) = loadsY s from rfl, hj] at hleast; have HE := lH hE; have HO := lH hown; obtain ⟨b, hb⟩ : ∃ b, tb id = b := ⟨_, rfl⟩
 rw [hb] at hl q5 f5 hon q3 hhas HE hleast; have HB := lH hb; have e1 : onT (maskT t m) = onT t := rfl; rw [e1, ho] at hon; rw [hh] at hhas; simp only [maskT] at q3; have HTO : Hid (Touch (fun k => own k ≠ none) W (W.setCell ⟨b, 5, none⟩ (.int .u16 m))) := lH ((touch1 _ _ _ _).wider (fun k hk => by rw [hk, ← hb, hown]; simp)); have HM := lH hmove; generalize cbs.length = k at c0 hgood; clear h ht hm hg hcv h0 hT hT5 hown hb ho hh e1 hj hf hE hmove; go_enter Tryz.func53, Tryz.ntmps53; go_wp2_with fail
 refine hgood.mono ?_; rintro e w' ⟨rfl, rfl⟩; go_wp2_with fail
 refine hon.mono ?_; rintro e w' ⟨rfl, rfl⟩; go_wp2_with fail
 refine hhas.mono ?_; rintro e w' ⟨rfl, rfl⟩; go_wp2_with fail
 refine hleast.mono ?_; rintro e w1 ⟨rfl, hb1⟩; have hmv := HM.out w1 (HE.out.below hb1); have HB1 := lH hb1; clear hleast hb1; go_wp2_with fail
 refine hmv.mono ?_; rintro e w2 ⟨rfl, own', hS2, ho2, ht2⟩; have HS2 := lH hS2; have HO2 := lH ho2; have HT2 := lH ht2; clear hS2 ho2 ht2 hmv; go_wp2_with fail
 go_ret
 have hz : W.heap.size ≤ w1.heap.size := Nat.le_trans HTO.out.size HB1.out.size; exact ⟨rfl, own', HS2.out, fun k hk => HO2.out k (Nat.lt_of_lt_of_le hk hz), (HTO.out.self (Touch.of_below HB1.out)).self HT2.out⟩
end
end Go.Proofs.YtoiajjobecinpaaGreat
