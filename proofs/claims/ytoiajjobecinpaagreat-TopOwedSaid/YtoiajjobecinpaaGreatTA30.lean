/- What every act keeps of a system. Each act keeps what holds of a system: what is told of tasks alone. Move: a ready task -/
import Derived.Test.YtoiajjobecinpaaGreatTA29
set_option maxHeartbeats 4000000
namespace Go.Proofs.YtoiajjobecinpaaGreat
open Go.RowKit Go.Shelf Go.Lib Go.Proofs
set_option linter.unusedVariables false
set_option linter.unusedSimpArgs false
structure TaskK (k n : Nat) (gs : List (Bool × Int)) (x : Int) (t : Tk) : Prop where
 id : t.id = x
 w : 1 ≤ t.w ∧ t.w ≤ 20
 mask : (0 ≤ t.mask ∧ t.mask < 65536) ∧ goodM t.mask n = true
 st : t.state = 1 ∨ t.state = 2 ∨ t.state = 4 ∨ t.state = 5
 core : t.state ≠ 1 → ∃ i : Nat, t.core = (i : Int) ∧ i < n
 has : (t.state = 2 ∨ t.state = 5) → hasM t.mask t.core = true
 lag : -((k : Int) * 232792560) ≤ t.lag ∧ t.lag ≤ (k : Int) * 232792560
 grp : hasG gs t.group = true
theorem TaskK.mono {k k' n : Nat} {gs : List (Bool × Int)} {x : Int} {t : Tk} (h : TaskK k n gs x t) (hk : k ≤ k') : TaskK k' n gs x t :=
 ⟨h.id, h.w, h.mask, h.st, h.core, h.has, by have := h.lag; omega, h.grp⟩
structure GsOk (gs : List (Bool × Int)) : Prop where
 len : gs.length = 16
 path : ∀ g : Int, ∃ xs, IsPath gs g xs ∧ xs.length ≤ 4
 ups : ∀ g : Int, hasG gs g = true → upG gs g = -1 ∨ hasG gs (upG gs g) = true
structure InvY (k : Nat) (b : Int) (n : Nat) (s : Sy) : Prop where
 n8 : 1 ≤ n ∧ n ≤ 8
 len : s.cores.length = n
 line : ∀ i, i < n → LnK k b s.cores[i]!.l
 srv : ∀ i, i < n → s.cores[i]!.srv ≤ k
 gs : GsOk s.gs
 acc : AccOk s.acc
 pslen : s.ps.length = 64
 psat : ∀ j, j < 64 → 0 ≤ (s.ps.getD j default).1 ∧ (s.ps.getD j default).1 ≤ k ∧ ((s.ps.getD j default).2 = true → 1 ≤ (s.ps.getD j default).1)
 names : ∀ x, s.tasks x ≠ none ↔ x ∈ listP s.ps
 task : ∀ x t, s.tasks x = some t → TaskK k n s.gs x t
 on : ∀ i, i < n → ∀ x w, hasL s.cores[i]!.l x w ↔ ∃ t, s.tasks x = some t ∧ t.state = 2 ∧ t.core = (i : Int) ∧ t.w = w
 cnt : s.cnt ≤ k
theorem InvY.mono {k k' : Nat} {b b' : Int} {n : Nat} {s : Sy} (h : InvY k b n s) (hk : k ≤ k') (hb : b ≤ b') : InvY k' b' n s :=
 ⟨h.n8, h.len, fun i hi => (h.line i hi).mono hk hb, fun i hi => Nat.le_trans (h.srv i hi) hk, h.gs, h.acc, h.pslen, fun j hj => by have := h.psat j hj; exact ⟨this.1, by omega, this.2.2⟩, h.names, fun x t ht => (h.task x t ht).mono hk, h.on, Nat.le_trans h.cnt hk⟩
theorem InvY.edit {k k' : Nat} {b b' : Int} {n : Nat} {s s' : Sy} {id : Int} {t t' : Tk} (h : InvY k b n s) (hk : k ≤ k') (ht : s.tasks id = some t) (hlen : s'.cores.length = n) (hgs : s'.gs = s.gs) (hacc : s'.acc = s.acc) (hps : s'.ps = s.ps) (hcnt : s'.cnt = s.cnt)
 (htasks : ∀ x, s'.tasks x = if x = id then some t' else s.tasks x) (hT : TaskK k' n s.gs id t')
 (hc : ∀ i, i < n → LnK k' b' s'.cores[i]!.l ∧ s'.cores[i]!.srv ≤ k' ∧ (∀ x v, x ≠ id → (hasL s'.cores[i]!.l x v ↔ hasL s.cores[i]!.l x v)) ∧ ∀ v, hasL s'.cores[i]!.l id v ↔ (t'.state = 2 ∧ t'.core = (i : Int) ∧ t'.w = v)) : InvY k' b' n s' := by
 refine ⟨h.n8, hlen, fun i hi => (hc i hi).1, fun i hi => (hc i hi).2.1, hgs ▸ h.gs, hacc ▸ h.acc, by rw [hps]; exact h.pslen, fun j hj => ?_, fun x => ?_, fun x u hu => ?_, fun i hi x w => ?_, by rw [hcnt]; exact Nat.le_trans h.cnt hk⟩
 · rw [hps]; have := h.psat j hj; exact ⟨this.1, by omega, this.2.2⟩
 · rw [htasks x, hps]; by_cases e : x = id
   · rw [if_pos e, e]; exact ⟨fun _ => (h.names id).1 (by rw [ht]; simp), fun _ => by simp⟩
   · rw [if_neg e]; exact h.names x
 · rw [htasks x] at hu; rw [hgs]; by_cases e : x = id
   · rw [if_pos e, Option.some.injEq] at hu; rw [e, ← hu]; exact hT
   · rw [if_neg e] at hu; exact (h.task x u hu).mono hk
 · rw [htasks x]; obtain ⟨-, -, c3, c4⟩ := hc i hi; by_cases e : x = id
   · rw [if_pos e, e, c4 w]; exact ⟨fun hh => ⟨t', rfl, hh⟩, fun ⟨u, hu, hh⟩ => by rw [Option.some.injEq] at hu; subst hu; exact hh⟩
   · rw [if_neg e, c3 x w e]; exact h.on i hi x w
theorem InvY.setK {k : Nat} {b : Int} {n : Nat} {s : Sy} {id : Int} {t t' : Tk} (h : InvY k b n s) (ht : s.tasks id = some t) (hT : TaskK k n s.gs id t')
 (h2 : (t.state ≠ 2 ∧ t'.state ≠ 2) ∨ (t'.state = t.state ∧ t'.core = t.core ∧ t'.w = t.w)) : InvY k b n (setTk s id t') := by
 refine h.edit (Nat.le_refl _) ht h.len rfl rfl rfl rfl (fun x => rfl) hT (fun i hi => ⟨h.line i hi, h.srv i hi, fun x v hx => Iff.rfl, fun v => ?_⟩); rw [show (Go.Proofs.YtoiajjobecinpaaGreat.setTk s id t').cores = s.cores from rfl, h.on i hi id v]; constructor
 · rintro ⟨u, hu, h3, h4, h5⟩; rw [ht, Option.some.injEq] at hu; subst hu; rcases h2 with ⟨h2, _⟩ | ⟨e1, e2, e3⟩
   · exact absurd h3 h2
   · rw [e1, e2, e3]; exact ⟨h3, h4, h5⟩
 · rintro ⟨h3, h4, h5⟩; rcases h2 with ⟨_, h2⟩ | ⟨e1, e2, e3⟩
   · exact absurd h3 h2
   · rw [e1] at h3; rw [e2] at h4; rw [e3] at h5; exact ⟨t, ht, h3, h4, h5⟩
theorem InvY.at_ {k : Nat} {b : Int} {n : Nat} {s : Sy} {id : Int} {t : Tk} (h : InvY k b n s) (ht : s.tasks id = some t) (h2 : t.state = 2) : ∃ i : Nat, t.core = (i : Int) ∧ i < n ∧ hasL s.cores[i]!.l id t.w := by
 obtain ⟨i, hi, hin⟩ := (h.task id t ht).core (by omega); exact ⟨i, hi, hin, (h.on i hin id t.w).2 ⟨t, ht, h2, hi, rfl⟩⟩
theorem kS (k : Nat) (hk : k ≤ 400) : (k : Int) * 232792560 ≤ 100000000000 ∧ 0 ≤ (k : Int) * 232792560 := by omega
theorem InvY.lagK {k : Nat} {b : Int} {n : Nat} {s : Sy} {id : Int} {t : Tk} {i : Nat} (h : InvY k b n s) (ht : s.tasks id = some t) (hi : t.state = 2 → t.core = (i : Int) ∧ i < n) :
 -((k : Int) * 232792560) ≤ (leaveT s t i).lag ∧ (leaveT s t i).lag ≤ (k : Int) * 232792560 := by
 unfold Go.Proofs.YtoiajjobecinpaaGreat.leaveT; have hT := h.task id t ht; split
 · rename_i h2; obtain ⟨hc, hn⟩ := hi h2; have := ((h.line i hn).leave t.id).2.2 t.w (by rw [hT.id]; exact (h.on i hn id t.w).2 ⟨t, ht, h2, hc, rfl⟩); exact this.2
 · exact hT.lag
theorem leaveY_cores {s : Sy} {id : Int} {t : Tk} {i j : Nat} (hj : j < s.cores.length) : (leaveY s id t i).cores[j]! = if t.state = 2 ∧ i = j then (coreLeave s.cores[i]! t.id).2.2 else s.cores[j]! := by
 unfold leaveY; by_cases h2 : t.state = 2
 · rw [if_pos h2]; show (s.cores.set i _)[j]! = _; rw [getElem!_set_co _ _ _ _ hj]; by_cases e : i = j
   · rw [if_pos e, if_pos ⟨h2, e⟩]
   · rw [if_neg e, if_neg (fun hh => e hh.2)]
 · rw [if_neg h2, if_neg (fun hh => h2 hh.1)]
theorem leaveY_len {s : Sy} {id : Int} {t : Tk} {i : Nat} : (leaveY s id t i).cores.length = s.cores.length := by
 unfold leaveY; split
 · show (s.cores.set i _).length = _; rw [List.length_set]
 · rfl
theorem leaveY_else {s : Sy} {id : Int} {t : Tk} {i : Nat} : (leaveY s id t i).gs = s.gs ∧ (leaveY s id t i).acc = s.acc ∧ (leaveY s id t i).ps = s.ps ∧ (leaveY s id t i).cnt = s.cnt ∧ ∀ x, x ≠ id → (leaveY s id t i).tasks x = s.tasks x := by
 unfold leaveY; split
 · refine ⟨rfl, rfl, rfl, rfl, fun x hx => ?_⟩; show (if x = id then _ else _) = _; rw [if_neg hx]; rfl
 · exact ⟨rfl, rfl, rfl, rfl, fun _ _ => rfl⟩
theorem InvY.left {k : Nat} {b : Int} {n : Nat} {s : Sy} {id : Int} {t : Tk} {i : Nat} (h : InvY k b n s) (ht : s.tasks id = some t) (hi : t.state = 2 → t.core = (i : Int) ∧ i < n) (j : Nat) (hj : j < n) :
 LnK k (b + k * 232792560) (leaveY s id t i).cores[j]!.l ∧ (leaveY s id t i).cores[j]!.srv ≤ k ∧ (∀ x v, x ≠ id → (hasL (leaveY s id t i).cores[j]!.l x v ↔ hasL s.cores[j]!.l x v)) ∧ ∀ v, ¬ hasL (leaveY s id t i).cores[j]!.l id v := by
 rw [leaveY_cores (by rw [h.len]; exact hj)]; have hT := h.task id t ht; by_cases e : t.state = 2 ∧ i = j
 · rw [if_pos e]; obtain ⟨e1, rfl⟩ := e; obtain ⟨a, c, d⟩ := (h.line i hj).leave t.id; rw [hT.id] at a c ⊢; exact ⟨a, h.srv i hj, fun x v hx => (c x v).trans ⟨fun hh => hh.2, fun hh => ⟨hx, hh⟩⟩, fun v hh => ((c id v).1 hh).1 rfl⟩
 · rw [if_neg e]; refine ⟨(h.line j hj).mono (Nat.le_refl _) (by omega), h.srv j hj, fun x v hx => Iff.rfl, fun v hh => ?_⟩; obtain ⟨u, hu, h2, h3, _⟩ := (h.on j hj id v).1 hh; rw [ht, Option.some.injEq] at hu; subst hu; have := (hi h2).1; exact e ⟨h2, by omega⟩
theorem InvY.leaveK {k : Nat} {b : Int} {n : Nat} {s : Sy} {id : Int} {t t' : Tk} {i : Nat} (h : InvY k b n s) (ht : s.tasks id = some t) (hi : t.state = 2 → t.core = (i : Int) ∧ i < n) (hT : TaskK k n s.gs id t') (hn : t'.state ≠ 2) :
 InvY k (b + k * 232792560) n (Go.Proofs.YtoiajjobecinpaaGreat.setTk (leaveY s id t i) id t') := by
 obtain ⟨e1, e2, e3, e4, e5⟩ := leaveY_else (s := s) (id := id) (t := t) (i := i); refine h.edit (Nat.le_refl _) ht (leaveY_len.trans h.len) e1 e2 e3 e4 (fun x => ?_) hT (fun j hj => ?_)
 · show (if x = id then _ else _) = _; by_cases e : x = id
   · rw [if_pos e, if_pos e]
   · rw [if_neg e, if_neg e, e5 x e]
 · obtain ⟨a, c, d, f⟩ := h.left ht hi j hj; exact ⟨a, c, d, fun v => ⟨fun hh => absurd hh (f v), fun hh => absurd hh.1 hn⟩⟩
theorem nodup_sub : ∀ (l1 l2 : List Int), l1.Nodup → (∀ x ∈ l1, x ∈ l2) → l1.length ≤ l2.length
 | [], l2, _, _ => Nat.zero_le _
 | a :: l, l2, h, hs => by
  obtain ⟨h1, h2⟩ := List.nodup_cons.1 h; have ha := hs a List.mem_cons_self; have := nodup_sub l (l2.erase a) h2 (fun x hx => (List.mem_erase_of_ne (fun e => h1 (by rw [← e]; exact hx))).2 (hs x (List.mem_cons_of_mem _ hx))); rw [List.length_erase_of_mem ha] at this; have := List.length_pos_of_mem ha; rw [List.length_cons]; omega
theorem InvY.len64 {k : Nat} {b : Int} {n : Nat} {s : Sy} (h : InvY k b n s) (i : Nat) (hi : i < n) : s.cores[i]!.l.ps.length ≤ 64 ∧ ∀ id t, s.tasks id = some t → (∀ v, ¬ hasL s.cores[i]!.l id v) → s.cores[i]!.l.ps.length < 64 := by
 have hnd : (s.cores[i]!.l.ps.map (·.id)).Nodup := by
  have := (h.line i hi).ids; exact List.Pairwise.map _ (fun a b (hab : a.id < b.id) => by omega) this
 have hin : ∀ x ∈ s.cores[i]!.l.ps.map (·.id), x ∈ listP s.ps := fun x hx => by
  obtain ⟨p, hp, rfl⟩ := List.mem_map.1 hx; obtain ⟨t, ht, _⟩ := (h.on i hi p.id p.w).1 ⟨p, hp, rfl, rfl⟩; exact (h.names p.id).1 (by rw [ht]; simp)
 have hl : (listP s.ps).length ≤ 64 := by rw [← h.pslen]; exact listFrom_len _ _
 refine ⟨?_, fun id t ht hno => ?_⟩
 · have := nodup_sub _ _ hnd hin; rw [List.length_map] at this; omega
 · have := nodup_sub (id :: s.cores[i]!.l.ps.map (·.id)) (listP s.ps) (List.nodup_cons.2 ⟨fun hx => by
    obtain ⟨p, hp, e⟩ := List.mem_map.1 hx; exact hno p.w ⟨p, hp, e, rfl⟩, hnd⟩) (fun x hx => by
    rcases List.mem_cons.1 hx with rfl | hx
    · exact (h.names x).1 (by rw [ht]; simp)
    · exact hin x hx)
   rw [List.length_cons, List.length_map] at this; omega
theorem mem_listFrom {x : Int} : ∀ {ps : List (Int × Bool)} {i : Nat}, x ∈ listFrom i ps ↔ ∃ j, j < ps.length ∧ (ps.getD j default).2 = true ∧ x = ((i + j : Nat) : Int) + 64 * ((ps.getD j default).1 - 1)
 | [], i => by simp [listFrom]
 | p :: l, i => by
  have ih := mem_listFrom (x := x) (ps := l) (i := i + 1); constructor
  · intro hx; unfold listFrom at hx; have key : x ∈ listFrom (i + 1) l → ∃ j, j < (p :: l).length ∧ ((p :: l).getD j default).2 = true ∧ x = ((i + j : Nat) : Int) + 64 * (((p :: l).getD j default).1 - 1) := fun hx => by
     obtain ⟨j, hj, h1, h2⟩ := ih.1 hx; exact ⟨j + 1, by simpa using hj, by simpa using h1, by rw [h2]; simp only [List.getD_cons_succ]; omega⟩
    split at hx
    · rename_i e; rcases List.mem_cons.1 hx with rfl | hx
      · exact ⟨0, by simp, by simpa using e, by simp⟩
      · exact key hx
    · exact key hx
  · rintro ⟨j, hj, h1, h2⟩; unfold listFrom; cases j with
    | zero =>
     simp only [List.getD_cons_zero] at h1 h2; rw [if_pos h1]; exact List.mem_cons.2 (.inl (by rw [h2]; simp))
    | succ j =>
     simp only [List.getD_cons_succ] at h1 h2; have : x ∈ listFrom (i + 1) l := ih.2 ⟨j, by simpa using hj, h1, by rw [h2]; omega⟩; split
     · exact List.mem_cons_of_mem _ this
     · exact this
theorem mem_listP {ps : List (Int × Bool)} {x : Int} : x ∈ listP ps ↔ ∃ j, j < ps.length ∧ (ps.getD j default).2 = true ∧ x = (j : Int) + 64 * ((ps.getD j default).1 - 1) := by
 unfold listP; rw [mem_listFrom]; simp
theorem InvY.idle {k : Nat} {b : Int} {n : Nat} {s : Sy} (h : InvY k b n s) {x : Int} {t : Tk} (ht : s.tasks x = some t) : 0 ≤ x ∧ x ≤ 64 + 64 * k := by
 obtain ⟨j, hj, h1, h2⟩ := mem_listP.1 ((h.names x).1 (by rw [ht]; simp)); rw [h.pslen] at hj; have := h.psat j hj; have := this.2.2 h1; omega
theorem InvY.may {k : Nat} {b : Int} {n : Nat} {s : Sy} {id : Int} {t : Tk} {i : Nat} (h : InvY k b n s) (hk : k ≤ 400) (ht : s.tasks id = some t) (hi : i < n) (hno : ∀ v, ¬ hasL s.cores[i]!.l id v) (lag : Int) (hl : -((k : Int) * 232792560) ≤ lag ∧ lag ≤ (k : Int) * 232792560) :
 mayE s.cores[i]!.l id t.w lag = 0 := by
 have h1 := (h.len64 i hi).2 id t ht hno; have h2 := h.idle ht; have hw := (h.task id t ht).w; unfold mayE; rw [if_pos, if_neg, if_neg (by omega)]
 · rcases posP_cases s.cores[i]!.l.ps id with ⟨hp, _⟩ | ⟨j, hj, hp, hid, _⟩
   · omega
   · exact absurd ⟨_, List.getElem_mem hj, hid, rfl⟩ (hno s.cores[i]!.l.ps[j].w)
 · unfold mayI; rw [goodW_in hw]; simp only [Bool.and_eq_true, decide_eq_true_eq, true_and]; omega
theorem InvY.put {k : Nat} {b : Int} {n : Nat} {s : Sy} {id : Int} {t t' : Tk} {i : Nat} (h : InvY k b n s) (hk : k ≤ 400) (ht : s.tasks id = some t) (hi : i < n) (h2 : t.state ≠ 2) (lag : Int) (hl : -((k : Int) * 232792560) ≤ lag ∧ lag ≤ (k : Int) * 232792560) (x : Bool)
 (hT : TaskK k n s.gs id t') (hs : t'.state = 2 ∧ t'.core = (i : Int) ∧ t'.w = t.w) :
 (coreEnter s.cores[i]! id t.w lag x).1 = 0 ∧ InvY k (b + k * 232792560) n (Go.Proofs.YtoiajjobecinpaaGreat.setTk (setCo s i (coreEnter s.cores[i]! id t.w lag x).2) id t') := by
 have hno : ∀ j, j < n → ∀ v, ¬ hasL s.cores[j]!.l id v := fun j hj v hh => by
  obtain ⟨u, hu, h3, _⟩ := (h.on j hj id v).1 hh; rw [ht, Option.some.injEq] at hu; subst hu; exact h2 h3
 have hmay := h.may hk ht hi (hno i hi) lag hl; have hT0 := h.task id t ht; have hid := h.idle ht; unfold coreEnter; rw [if_pos hmay]; refine ⟨hmay, h.edit (Nat.le_refl _) ht (by show (s.cores.set i _).length = n; rw [List.length_set]; exact h.len) rfl rfl rfl rfl (fun y => rfl) hT (fun j hj => ?_)⟩; show LnK k _ (s.cores.set i _)[j]!.l ∧ (s.cores.set i _)[j]!.srv ≤ k ∧ (∀ y v, y ≠ id → (hasL (s.cores.set i _)[j]!.l y v ↔ _)) ∧ ∀ v, hasL (s.cores.set i _)[j]!.l id v ↔ _; rw [getElem!_set_co _ _ _ _ (by rw [h.len]; exact hj)]; by_cases e : i = j
 · subst e; rw [if_pos rfl]; have hlag : -((k : Int) * 232792560) ≤ (if x = true then lag else heldT s.cores[i]!.tag lag) ∧ (if x = true then lag else heldT s.cores[i]!.tag lag) ≤ (k : Int) * 232792560 := by
    split
    · exact hl
    · exact heldT_le _ _ _ hl
   refine ⟨(h.line i hj).put (by omega) hT0.w hlag (fun p hp e => hno i hj p.w ⟨p, hp, e, rfl⟩), h.srv i hj, fun y v hy => ?_, fun v => ?_⟩
   · rw [hasL_put]; exact ⟨fun hh => hh.elim (fun hh => absurd hh.1 hy) (fun hh => hh), .inr⟩
   · rw [hasL_put, hs.2.2]; exact ⟨fun hh => hh.elim (fun hh => ⟨hs.1, hs.2.1, hh.2.symm⟩) (fun hh => absurd hh (hno i hj v)), fun hh => .inl ⟨rfl, hh.2.2.symm⟩⟩
 · rw [if_neg e]; refine ⟨(h.line j hj).mono (Nat.le_refl _) (by omega), h.srv j hj, fun y v hy => Iff.rfl, fun v => ⟨fun hh => absurd hh (hno j hj v), fun hh => ?_⟩⟩; have := hh.2.1; have := hs.2.1; exact absurd (by omega : i = j) e
theorem InvY.enter {k : Nat} {b : Int} {n : Nat} {s : Sy} {id : Int} {t : Tk} {i : Nat} {act : Int} (h : InvY k b n s) (hk : k ≤ 400) (ht : s.tasks id = some t) (held x : Bool) (hc : t.core = (i : Int)) (hi : i < n) (hm : hasM t.mask t.core = true)
 (ha : nxt t.state act = (2, 0)) (h2 : t.state ≠ 2) :
 (enterY s id t held i act x).1 = 0 ∧ InvY k (b + k * 232792560) n (enterY s id t held i act x).2 ∧ (enterY s id t held i act x).2.ps = s.ps ∧ (enterY s id t held i act x).2.gs = s.gs ∧ (enterY s id t held i act x).2.acc = s.acc := by
 have hT := h.task id t ht; have h5 : nxt 2 6 = (5, 0) := by rfl
 have hTn : ∀ st : Int, st = 2 ∨ st = 5 → TaskK k n s.gs id (stT t st) := fun st hst =>
  ⟨hT.id, hT.w, hT.mask, by show st = 1 ∨ st = 2 ∨ st = 4 ∨ st = 5; omega, fun _ => ⟨i, hc, hi⟩, fun _ => hm, hT.lag, hT.grp⟩
 unfold enterY; rw [ha]; by_cases hh : held = true
 · rw [if_pos hh]; simp only [h5]; exact ⟨trivial, (h.setK ht (hTn 5 (.inr rfl)) (.inl ⟨h2, by simp [stT]⟩)).mono (Nat.le_refl _) (by omega), rfl, rfl, rfl⟩
 · rw [if_neg hh]; obtain ⟨a, c⟩ := h.put hk ht hi h2 t.lag hT.lag x (hTn 2 (.inl rfl)) ⟨rfl, hc, rfl⟩; have hid := hT.id; rw [hid, if_pos a]; exact ⟨rfl, c, rfl, rfl, rfl⟩
theorem nxt_cases (s : Int) : (nxt s 4 = (4, 0) ↔ (s = 2 ∨ s = 3 ∨ s = 5)) ∧ ((nxt s 4).2 = 0 ↔ (s = 2 ∨ s = 3 ∨ s = 5)) ∧ ((nxt s 1).2 = 0 → s = 1) ∧ ((nxt s 5).2 = 0 → s = 4) ∧ (1 ≤ s → s ≤ 5 → (nxt s 8).2 = 0) := by
 unfold nxt; refine ⟨⟨fun h => ?_, fun h => ?_⟩, ⟨fun h => ?_, fun h => ?_⟩, fun h => ?_, fun h => ?_, fun h1 h2 => ?_⟩; all_goals (repeat' split at *) <;> simp_all <;> omega
theorem leaveT_same (s : Sy) (t : Tk) (i : Nat) : (leaveT s t i).id = t.id ∧ (leaveT s t i).w = t.w ∧ (leaveT s t i).group = t.group ∧ (leaveT s t i).core = t.core ∧ (leaveT s t i).state = t.state ∧ (leaveT s t i).mask = t.mask := by
 unfold leaveT; split <;> exact ⟨rfl, rfl, rfl, rfl, rfl, rfl⟩
theorem InvY.out {k : Nat} {b : Int} {n : Nat} {s : Sy} {id : Int} {t : Tk} {i : Nat} (h : InvY k b n s) (ht : s.tasks id = some t) (hi : t.state = 2 → t.core = (i : Int) ∧ i < n) (st : Int) (hst : st = 4 ∨ st = 5) (h1 : t.state ≠ 1) (h5 : st = 5 → hasM t.mask t.core = true) :
 InvY k (b + k * 232792560) n (setTk (leaveY s id t i) id (stT (leaveT s t i) st)) := by
 have hT := h.task id t ht; obtain ⟨e1, e2, e3, e4, e5, e6⟩ := leaveT_same s t i; refine h.leaveK ht hi ⟨e1.trans hT.id, by show 1 ≤ (leaveT s t i).w ∧ (leaveT s t i).w ≤ 20; rw [e2]; exact hT.w, ?_, ?_, fun _ => ?_, fun hh => ?_, h.lagK ht hi, ?_⟩ ?_
 · show (0 ≤ (leaveT s t i).mask ∧ (leaveT s t i).mask < 65536) ∧ goodM (leaveT s t i).mask n = true; rw [e6]; exact hT.mask
 · show st = 1 ∨ st = 2 ∨ st = 4 ∨ st = 5; omega
 · show ∃ j : Nat, (leaveT s t i).core = _ ∧ _; rw [e4]; exact hT.core h1
 · show hasM (leaveT s t i).mask (leaveT s t i).core = true; rw [e6, e4]; rcases hst with rfl | rfl
   · rcases hh with hh | hh <;> exact absurd hh (by simp [stT])
   · exact h5 rfl
 · show hasG s.gs (leaveT s t i).group = true; rw [e3]; exact hT.grp
 · show st ≠ 2; omega
theorem InvY.sleep {k : Nat} {b : Int} {n : Nat} {s : Sy} (h : InvY k b n s) (id : Int) (i : Nat) (hi : ∀ t, s.tasks id = some t → t.state = 2 → t.core = (i : Int) ∧ i < n) : InvY k (b + k * 232792560) n (sleepY s id i).2 := by
 unfold sleepY; cases ht : s.tasks id with
 | none => exact h.mono (Nat.le_refl _) (by omega)
 | some t =>
  simp only
  split
  · rename_i he; have hs := ((nxt_cases t.state).2.1).1 he; rw [((nxt_cases t.state).1).2 hs]; exact h.out ht (hi t ht) 4 (.inl rfl) (by omega) (fun h => absurd h (by decide))
  · exact h.mono (Nat.le_refl _) (by omega)
theorem holdS_same (s : Sy) (id : Int) : (holdS s id).ps = s.ps ∧ (holdS s id).gs = s.gs ∧ (holdS s id).acc = s.acc ∧ (holdS s id).cores.length = s.cores.length := by
 unfold holdS; split
 · exact ⟨rfl, rfl, rfl, rfl⟩
 · split
   · obtain ⟨e1, e2, e3, e4, e5⟩ := leaveY_else (s := s) (id := id) (t := _) (i := _); exact ⟨e3, e1, e2, leaveY_len⟩
   · exact ⟨rfl, rfl, rfl, rfl⟩
theorem InvY.hold1 {k : Nat} {b : Int} {n : Nat} {s : Sy} (h : InvY k b n s) (id : Int) : InvY k (b + k * 232792560) n (holdS s id) := by
 unfold holdS; cases ht : s.tasks id with
 | none => exact h.mono (Nat.le_refl _) (by omega)
 | some t =>
  simp only
  split
  · rename_i he; have h5 : (nxt t.state 6).1 = 5 := by rw [he.1]; rfl
    rw [h5]; obtain ⟨i, hi, hin, _⟩ := h.at_ ht he.1; have hci : t.core.toNat = i := by omega
    rw [hci]; exact h.out ht (fun _ => ⟨hi, hin⟩) 5 (.inr rfl) (by omega) (fun _ => (h.task id t ht).has (.inl he.1))
  · exact h.mono (Nat.le_refl _) (by omega)
theorem InvY.fitsY {k : Nat} {b : Int} {n : Nat} {s : Sy} (h : InvY k b n s) (hk : k ≤ 400) (hb : b ≤ 1000000000000000000) : FitsY s := fun i hi =>
 (h.line i (by rw [← h.len]; exact hi)).fits (by omega) hb (h.len64 i (by rw [← h.len]; exact hi)).1
theorem InvY.some_ {k : Nat} {b : Int} {n : Nat} {s : Sy} (h : InvY k b n s) {id : Int} (hid : id ∈ listP s.ps) : ∃ t xs, s.tasks id = some t ∧ IsPath s.gs t.group xs := by
 cases ht : s.tasks id with
 | none => exact absurd ht ((h.names id).2 hid)
 | some t =>
  obtain ⟨xs, hx, _⟩ := h.gs.path t.group; exact ⟨t, xs, rfl, hx⟩
theorem InvY.holds {k n : Nat} (hk : k ≤ 400) : ∀ (ids : List Int) (b : Int) (s : Sy), InvY k b n s → b + ids.length * (k * 232792560) ≤ 1000000000000000000 → (∀ x ∈ ids, x ∈ listP s.ps) →
 HoldOk s ids ∧ InvY k (b + ids.length * (k * 232792560)) n (ids.foldl holdS s)
 | [], b, s, h, _, _ => ⟨trivial, h.mono (Nat.le_refl _) (by simp)⟩
 | id :: ids, b, s, h, hb, hin => by
  have hks := kS k hk; have hlen : ((id :: ids).length : Int) = ids.length + 1 := by simp
  rw [hlen, Int.add_mul, Int.one_mul] at hb; have hnn : 0 ≤ (ids.length : Int) * ((k : Int) * 232792560) := Int.mul_nonneg (by omega) hks.2; have hs := holdS_same s id; obtain ⟨a, c⟩ := InvY.holds hk ids (b + k * 232792560) (holdS s id) (h.hold1 id) (by omega) (fun x hx => by rw [hs.1]; exact hin x (List.mem_cons_of_mem _ hx)); refine ⟨⟨?_, a⟩, ?_⟩
  · obtain ⟨t, xs, ht, hx⟩ := h.some_ (hin id List.mem_cons_self); refine ⟨t, xs, ht, hx, fun h2 => ?_⟩; obtain ⟨i, hi, hin', _⟩ := h.at_ ht h2; exact ⟨i, hi, by rw [h.len]; exact hin', h.fitsY hk (by omega)⟩
  · rw [List.foldl_cons, hlen, Int.add_mul, Int.one_mul]; exact c.mono (Nat.le_refl _) (by omega)
theorem tickS_same {k : Nat} {b : Int} {n : Nat} {s : Sy} (h : InvY k b n s) (hk : k ≤ 400) (id : Int) : InvY k (b + k * 232792560) n (tickS s id) ∧ (tickS s id).ps = s.ps ∧ (tickS s id).gs = s.gs ∧ (tickS s id).acc = s.acc := by
 unfold tickS; cases ht : s.tasks id with
 | none => exact ⟨h.mono (Nat.le_refl _) (by omega), rfl, rfl, rfl⟩
 | some t =>
  simp only
  split
  · rename_i he; obtain ⟨i, hi, hin⟩ := (h.task id t ht).core (by omega); have hci : t.core.toNat = i := by omega
    rw [hci]; have := h.enter (act := 7) hk ht false true hi hin ((h.task id t ht).has (.inr he.1)) (by rw [he.1]; rfl) (by omega); exact ⟨this.2.1, this.2.2⟩
  · exact ⟨h.mono (Nat.le_refl _) (by omega), rfl, rfl, rfl⟩
theorem InvY.ticks {k n : Nat} (hk : k ≤ 400) : ∀ (ids : List Int) (b : Int) (s : Sy), InvY k b n s → b + ids.length * (k * 232792560) ≤ 1000000000000000000 → (∀ x ∈ ids, x ∈ listP s.ps) →
 TickOk s ids ∧ InvY k (b + ids.length * (k * 232792560)) n (ids.foldl tickS s) ∧ (ids.foldl tickS s).gs = s.gs
 | [], b, s, h, _, _ => ⟨trivial, h.mono (Nat.le_refl _) (by simp), rfl⟩
 | id :: ids, b, s, h, hb, hin => by
  have hks := kS k hk; have hlen : ((id :: ids).length : Int) = ids.length + 1 := by simp
  rw [hlen, Int.add_mul, Int.one_mul] at hb; have hnn : 0 ≤ (ids.length : Int) * ((k : Int) * 232792560) := Int.mul_nonneg (by omega) hks.2; obtain ⟨hs1, hs2, hs3, hs4⟩ := tickS_same h hk id; obtain ⟨a, c, d⟩ := InvY.ticks hk ids (b + k * 232792560) (tickS s id) hs1 (by omega) (fun x hx => by rw [hs2]; exact hin x (List.mem_cons_of_mem _ hx)); refine ⟨⟨?_, a⟩, ?_, by rw [List.foldl_cons, d, hs3]⟩
  · obtain ⟨t, xs, ht, hx⟩ := h.some_ (hin id List.mem_cons_self); refine ⟨t, xs, ht, hx, fun h2 _ => ?_⟩; obtain ⟨i, hi, hin'⟩ := (h.task id t ht).core (by omega); exact ⟨i, hi, by rw [h.len]; exact hin', h.fitsY hk (by omega), (h.enter (act := 7) hk ht false true hi hin' ((h.task id t ht).has (.inr h2)) (by rw [h2]; rfl) (by omega)).1⟩
  · rw [List.foldl_cons, hlen, Int.add_mul, Int.one_mul]; exact c.mono (Nat.le_refl _) (by omega)
theorem InvY.perm {k : Nat} {b : Int} {n : Nat} {s : Sy} (h : InvY k b n s) {ids : List Int} (hp : ids.Perm (listP s.ps)) : ids.length ≤ 64 ∧ ∀ x ∈ ids, x ∈ listP s.ps :=
 ⟨by rw [hp.length_eq]; exact Nat.le_trans (listFrom_len _ _) (by rw [h.pslen]; exact Nat.le_refl _), fun x hx => hp.mem_iff.1 hx⟩
theorem InvY.accs {k : Nat} {b : Int} {n : Nat} {s : Sy} (h : InvY k b n s) {acc : List Acc4} (ha : AccOk acc) : InvY k b n (setAcc s acc) :=
 ⟨h.n8, h.len, h.line, h.srv, h.gs, ha, h.pslen, h.psat, h.names, h.task, h.on, h.cnt⟩
theorem InvY.core {k k' : Nat} {b b' : Int} {n : Nat} {s : Sy} {i : Nat} {c : Co} (h : InvY k b n s) (hk : k ≤ k') (hb : b ≤ b') (hi : i < n) (hl : LnK k' b' c.l) (hs : c.srv ≤ k') (hh : ∀ x v, hasL c.l x v ↔ hasL s.cores[i]!.l x v) : InvY k' b' n (setCo s i c) := by
 have hm := h.mono hk hb; have hget : ∀ j, j < n → (setCo s i c).cores[j]! = if i = j then c else s.cores[j]! := fun j hj => getElem!_set_co _ _ _ _ (by rw [h.len]; exact hj)
 refine ⟨h.n8, by show (s.cores.set i c).length = n; rw [List.length_set]; exact h.len, fun j hj => ?_, fun j hj => ?_, h.gs, h.acc, h.pslen, hm.psat, h.names, hm.task, fun j hj x w => ?_, hm.cnt⟩
 · rw [hget j hj]; split
   · exact hl
   · exact hm.line j hj
 · rw [hget j hj]; split
   · exact hs
   · exact hm.srv j hj
 · rw [hget j hj]; split
   · rename_i e; subst e; rw [hh x w]; exact h.on i hj x w
   · exact h.on j hj x w
def moveY (s : Sy) (id : Int) (t : Tk) (i j : Nat) : Sy :=
 setTk (setCo (leaveY s id t i) j (coreEnter (leaveY s id t i).cores[j]! id t.w (leaveT s t i).lag true).2) id (coT (leaveT s t i) j)
set_option maxRecDepth 100000 in
theorem move_ok (sb gb nb pb mb n : Nat) (cv : Value) (D : DataW Unit) (cbs : List Nat) (tb : Int → Nat) (own : Nat → Option Own) (s : Sy) (id : Int) (t : Tk) (i j : Nat) (W : World) (h : SysAt W sb gb nb pb mb n cv D cbs tb own s)
 (h1 : -9223372036854775808 ≤ id) (h2 : id ≤ 9223372036854775807) (ht : s.tasks id = some t) (hm : 0 ≤ t.mask ∧ t.mask < 65536) (h5 : t.state = 2) (hh : hasM t.mask (j : Int) = true) (hi : t.core = (i : Int)) (hij : j ≠ i) (hil : i < cbs.length) (hjl : j < cbs.length) (hf : FitsY s)
 (hr : (coreEnter (leaveY s id t i).cores[j]! id t.w (leaveT s t i).lag true).1 = 0) :
 Calls Tryz.prog 54 #[.pointer (some ⟨sb, 0, none⟩), .int .i64 id, .int .i64 (j : Int)] W fun e w' => e = .returned (.int .i64 0) ∧ YP sb gb nb pb mb n cv D cbs tb own (moveY s id t i j) W w' := by
 have hl := h.look id h1 h2; rw [ht] at hl; simp only at hl; have c67 := h.c67; obtain ⟨hT, hown⟩ := h.task id t ht; have hon := ton_any (tb id) t W hT; rw [show onT t = true by unfold onT; simp [h5]] at hon; have q3 := hT.core; have q4 := hT.state; have q5 := hT.mask; have hhas := mhas_any t.mask (j : Int) hm W; rw [hh] at hhas; rw [h5] at q4; have he : ((j : Int) == t.core) = false := by simp [hi]; omega
 have hlv := sleave_any sb gb nb pb mb n cv D cbs tb own s id t i W h ht (fun _ => ⟨hi, hil⟩) hf; have HL := lH (leaveY_task s id t i ht); have hfj : Fits (leaveY s id t i).cores[j]!.l := by
  have hjs : j < s.cores.length := by rw [← h.num]; exact hjl
  have : (leaveY s id t i).cores[j]! = s.cores[j]! := by
   unfold leaveY; rw [if_pos h5]; show (s.cores.set i _)[j]! = _; rw [getElem!_pos _ j (by simpa using hjs), List.getElem_set, if_neg (fun e => hij e.symm), getElem!_pos s.cores j hjs]
  rw [this]; exact hf j hjs
 have hw : (leaveT s t i).w = t.w := by unfold leaveT; split <;> rfl
 have HW := lH hw; have HF := lH hfj; have HTO := lH hown; have HJ := lH hjl; have HBL := lH (h.lt (tb id) (by rw [hown]; simp)); unfold moveY; obtain ⟨S1, hS1⟩ : ∃ x, leaveY s id t i = x := ⟨_, rfl⟩
 obtain ⟨t1, ht1⟩ : ∃ x, leaveT s t i = x := ⟨_, rfl⟩
 rw [hS1] at hlv HL HF hr ⊢; rw [ht1] at HL HW hr ⊢; obtain ⟨r, hrr⟩ : ∃ r, coreEnter S1.cores[j]! id t.w t1.lag true = r := ⟨_, rfl⟩
 rw [hrr] at hr ⊢; have HR := lH hr; have HRR := lH hrr; obtain ⟨b, hb⟩ : ∃ b, tb id = b := ⟨_, rfl⟩
 rw [hb] at hl hon q3 q4 q5 hlv; have HB := lH hb; clear h ht hT hm h5 hh hown hb hi hij hil hf hfj hw hS1 ht1 hr hrr hjl; go_enter Tryz.func54, Tryz.ntmps54; go_wp2_with fail
 refine hon.mono ?_; rintro e w' ⟨rfl, rfl⟩; go_wp2_with fail
 refine hhas.mono ?_; rintro e w' ⟨rfl, rfl⟩; go_wp2_with fail
 refine hlv.mono ?_; rintro e w1 ⟨rfl, own1, hS1, ho1, ht1⟩; obtain ⟨g, c, hcv⟩ := hS1.form (by have := HJ.out; omega); have hT1 := (hS1.task id t1 HL.out).1; have hown1 := (hS1.task id t1 HL.out).2; rw [HB.out] at hT1 hown1; obtain ⟨cb, hcb⟩ : ∃ cb, cbs[j]! = cb := ⟨_, rfl⟩
 have hcj := hS1.core j HJ.out; rw [hcb] at hcj; have hce : ∀ W', W'.heap = w1.heap → Calls Tryz.prog 110 #[.pointer (some ⟨cb, 0, none⟩), .int .i64 id, .int .i64 t.w, .int .i64 t1.lag, .bool true] W' (CEnterP cb (fun k => own1 k = some (.core j)) r W') := fun W' hW' => by
  rw [← HRR.out]; exact center_any cb _ S1.cores[j]! id t.w t1.lag true W' (hcj.same (by rw [hW']; exact Nat.le_refl _) (fun k _ => by rw [hW'])) HF.out
 obtain ⟨m, hm⟩ : ∃ m, cbs.length = m := ⟨_, rfl⟩
 have hj1 : (j : Int) < (m : Int) := by have := HJ.out; omega
 have hj0 : 0 ≤ (j : Int) := by omega
 have k1 : w1.cell? ⟨sb, 0, none⟩ = some (.slice (some ⟨g, 0, none⟩) m c) := hS1.head.trans (by rw [hcv, hm])
 have k2 : w1.cell? ⟨g, j, none⟩ = some (.pointer (some ⟨cb, 0, none⟩)) := by
  have hcv' := hcv; subst hcv'; rw [← hcb]; exact hS1.coreCell j HJ.out
 have k3 : w1.cell? ⟨b, 1, none⟩ = some (.int .i64 t.w) := by rw [← HW.out]; exact hT1.w
 have k4 : w1.cell? ⟨b, 6, none⟩ = some (.int .i64 t1.lag) := hT1.lag; have hg : own1 g = some .row := hS1.rown g (by rw [hcv]; rfl); have HE : Hid (∀ W' : World, (∀ x, own1 x ≠ some (.core j) → x < w1.heap.size → W'.heap[x]? = w1.heap[x]?) →
  (W'.cell? ⟨sb, 0, none⟩ = some (.slice (some ⟨g, 0, none⟩) m c) ∧ W'.cell? ⟨g, j, none⟩ = some (.pointer (some ⟨cb, 0, none⟩))) ∧ W'.cell? ⟨b, 1, none⟩ = some (.int .i64 t.w) ∧ W'.cell? ⟨b, 6, none⟩ = some (.int .i64 t1.lag)) := lH (fun W' hW' => by
  have e : ∀ y x, own1 y = some x → x ≠ .core j → W'.heap[y]? = w1.heap[y]? := fun y x hy hx => hW' y (by rw [hy]; simpa using hx) (hS1.lt y (by rw [hy]; simp)); have e1 := e sb _ hS1.osb (by simp); have e2 := e g _ hg (by simp); have e3 := e b _ hown1 (by simp); exact ⟨⟨(World.cell?_of_block (a := ⟨sb, 0, none⟩) e1).trans k1, (World.cell?_of_block (a := ⟨g, j, none⟩) e2).trans k2⟩, (World.cell?_of_block (a := ⟨b, 1, none⟩) e3).trans k3, (World.cell?_of_block (a := ⟨b, 6, none⟩) e3).trans k4⟩)
 have HS1 := lH hS1; have HO1 := lH ho1; have HT1 := lH ht1; have HCB := lH hcb; have HM := lH hm; have q4 := hT1.state; obtain ⟨st1, hst1⟩ : ∃ x, t1.state = x := ⟨_, rfl⟩
 clear hS1 ho1 ht1 hcb hm hT1 hown1 hcj hg hcv hlv hl hon hhas q3 q5 hst1 q4; go_wp2_with fail
 go_region_held3 (fun W2 => (W2.cell? ⟨sb, 0, none⟩ = some (.slice (some ⟨g, 0, none⟩) m c) ∧ W2.cell? ⟨g, j, none⟩ = some (.pointer (some ⟨cb, 0, none⟩))) ∧ W2.cell? ⟨b, 1, none⟩ = some (.int .i64 t.w) ∧ W2.cell? ⟨b, 6, none⟩ = some (.int .i64 t1.lag)) (first | exact ⟨⟨k1, k2⟩, k3, k4⟩ | exact hE9) (first | (go_at_call 110; refine (hce w1.drew rfl).mono ?_; rintro e w9 ⟨rfl, hC9⟩; have hE9 := HE.out w9 (fun j hj hjl => hC9.choose_spec.2.1.block j hjl hj)) | fail)
 obtain ⟨F', c1, c2, c3⟩ := hC9; have ht9 : Touch (fun k => own1 k = some (.core j)) w1 w9 := ((Touch.refl _ w1).drew).self c2; obtain ⟨own', hS9, ho9⟩ := HS1.out.setCore (i := j) HJ.out (by rw [HCB.out]; exact c1) ht9 (fun k hk => c3 k hk); have HS9 : Hid (SysAt w9 sb gb nb pb mb n cv D cbs tb own' (setCo S1 j r.2)) := lH hS9; have HO9 := lH ho9; have HT9 := lH ht9; have hT9 := HS9.out.task id t1 HL.out; have HTT := lH hT9; rw [HB.out] at hT9; have f3 := hT9.1.live 3; have q3 := hT9.1.core; have hr0 := HR.out; clear hE9 c1 c2 c3 ht9 hS9 ho9 k1 k2 k3 k4 hT9 hce; obtain ⟨r1, rc⟩ := r; simp only at hr0; subst hr0; simp only at HS9 ⊢; go_wp2_with fail
 go_ret
 have hTT := HTT.out; rw [HB.out] at hTT; refine ⟨rfl, own', HS9.out.setTask HL.out (by rw [HB.out]; exact hTT.1.setCore _) (by rw [HB.out]; exact touch1 _ _ _ _), fun k hk => (HO9.out k (Nat.lt_of_lt_of_le hk HT1.out.size)).trans (HO1.out k hk), ?_⟩; have e1 : Touch (fun k => own k ≠ none) W w9 := HT1.out.trans (G := fun k => own1 k = some (.core j)) (fun k hk => by
  by_cases hl : k < W.heap.size
  · left
    have hk' : own1 k = some (.core j) := hk; rw [HO1.out k hl] at hk'; show own k ≠ none; rw [hk']; simp
  · exact .inr (by omega)) HT9.out
 exact e1.self ((touch1 w9 b 3 (.int .i64 j)).wider (fun k hk => by rw [hk, ← HB.out, HTO.out]; simp))
section
attribute [local go_sem] Oper.semAt_some
set_option maxRecDepth 100000 in
theorem spawn_any_ok (sb : Nat) (cbs : List Nat) (own : Nat → Option Own) (s : Sy) (w m g id : Int) (ps' : List (Int × Bool)) (W : World) (h : ∃ gb nb pb mb n cv D tb, SysAt W sb gb nb pb mb n cv D cbs tb own s) (hw : goodW w = true) (hm16 : 0 ≤ m ∧ m < 65536) (hm : goodM m s.cores.length = true) (xs : List G16) (hL : IsPath s.gs g xs) (hx : xs ≠ []) (h1000 : xs.length ≤ 1000) (hz : Sized s.ps) (ht : takeP s.ps = (id, 0, ps'))
 (hid : 0 ≤ id ∧ id ≤ 9223372036854775807) (hn : s.tasks id = none) (hcnt : s.cnt < 1000000) :
 Calls Tryz.prog 47 #[.pointer (some ⟨sb, 0, none⟩), .int .i64 w, .int .u16 m, .int .i64 g] W
  (fun e w' => e = .returned (.tuple #[.int .i64 id, .int .i64 0]) ∧ YQ sb cbs own ⟨s.cores, s.gs, s.acc, ps', fun x => if x = id then some (newTk id w m g) else s.tasks x, s.cnt + 1⟩ W w') := by
 obtain ⟨gb, nb, pb, mb, n, cv, D, tb, hS⟩ := h; have hgw := wgood_any w W; rw [hw] at hgw; obtain ⟨N, hN⟩ : ∃ N, s.cores.length = N := ⟨_, rfl⟩
 obtain ⟨a, c, hcv⟩ : ∃ a c, cv = .slice a N c := by
  have hl : cbs.length = N := hS.num.trans hN; rcases hS.row.2 with ⟨e, h0⟩ | ⟨g, cap, cur, e, _⟩
  · exact ⟨none, 0, by rw [e, show N = 0 by omega]⟩
  · exact ⟨_, cap, by rw [e, hl]⟩
 have c0 := hS.head; rw [hcv] at c0; have hmg := fun W' => mgood_any m s.cores.length hm16 W'; rw [hm, hN] at hmg; have c1 := hS.c1; have c66 := hS.c66; have c67 := hS.c67; have hsb := hS.lt sb (by rw [hS.osb]; simp); have hdep := depth_any gb s.gs g xs W hS.groups hL h1000; obtain ⟨d, hd⟩ : ∃ d, xs.length = d + 1 := ⟨xs.length - 1, by have : xs.length ≠ 0 := fun e => hx (List.eq_nil_of_length_eq_zero e); omega⟩
 rw [hd] at hdep; have hd0 : ¬ ((d + 1 : Nat) : Int) = 0 := by omega
 have htake := fun W' h' => stake_t nb pb W' s.ps h' hz id ps' ht; have HS := lH hS; have HN := lH hn; have HCNT := lH hcnt; obtain ⟨i1, i2⟩ := hid; clear hS hw hm16 hm hN hL hx h1000 hd hz ht hn hcnt hcv; go_enter Tryz.func47, Tryz.ntmps47; go_wp2_with fail
 refine hgw.mono ?_; rintro e w0 ⟨rfl, rfl⟩; go_wp2_with fail
 refine (hmg _).mono ?_; rintro e w0 ⟨rfl, rfl⟩; go_wp2_with fail
 refine hdep.mono ?_; rintro e w1 ⟨rfl, hb1⟩; have hS1 := HS.out.below hb1; have d66 := hS1.c66; have hsb1 := hS1.lt sb (by rw [hS1.osb]; simp); have htake1 := htake w1 hS1.slots; have HB1 := lH hb1; have HS1 := lH hS1; clear hb1 hS1; go_wp2_with fail
 refine htake1.mono ?_; rintro e w2 ⟨rfl, hs2, ht2⟩; have e67 : w2.cell? ⟨sb, 67, none⟩ = some (.map (some mb)) := (World.cell?_of_block (a := ⟨sb, 67, none⟩) (ht2.block sb hsb1 (fun e => by have a := HS1.out.osb; rw [e, HS1.out.opb] at a; cases a))).trans HS1.out.c67; have hmne : mb ≠ pb := fun e => by have a := HS1.out.omb; rw [e, HS1.out.opb] at a; cases a
 have hmb1 := HS1.out.lt mb (by rw [HS1.out.omb]; simp); have hmap2 := ownsMap_same HS1.out.map (ht2.block mb hmb1 hmne); have hsb2 : sb < w2.heap.size := Nat.lt_of_lt_of_le hsb1 ht2.size; have hmap3 := hmap2.alloc (.cells #[.int .i64 id, .int .i64 w, .int .i64 g, .int .i64 (-1), .int .i64 1, .int .u16 m, .int .i64 0] 60); obtain ⟨w3, hupd, m5, m6⟩ := hmap3.update (t := 117) (e := 188) keyed3 Tryz.underlying117 (by have := HS1.out.cnt; have := HCNT.out; unfold maxLen; omega) (key3 (x := id) (by omega) (by omega)) (rptr_ptr w2.heap.size); obtain ⟨own', tb', h1, h2, h3⟩ := HS1.out.spawn hs2 ht2 ((Below.refl _ w2).alloc (Nat.le_refl _) _) (taskAt_new w2 id w m g) (by simp) m5 m6 HN.out; have H1 := lH h1; have H2 := lH h2; have H3 := lH h3; clear hs2 ht2 hmne hmb1 hmap2 hmap3 m5 m6 h1 h2 h3; go_wp2_with fail
 go_ret2
 refine ⟨rfl, own', ⟨gb, nb, pb, mb, _, cv, _, tb', H1.out⟩, fun k hk => ?_, (Touch.of_below HB1.out).self H3.out⟩; rcases H2.out k hk with h | h
 · exact .inl h
 · have := HB1.out.size; exact .inr (by omega)
theorem takeP_miss {ps : List (Int × Bool)} (h : (takeP ps).2.1 ≠ 0) : takeP ps = (0, 3, ps) ∧ ∀ j, j < ps.length → (ps.getD j default).2 = true := by
 unfold takeP at h ⊢; cases hf : ps.findIdx? (fun p => !p.2) with
 | some i => rw [hf] at h; simp at h
 | none =>
  refine ⟨rfl, fun j hj => ?_⟩; have := List.findIdx?_eq_none_iff.1 hf (ps.getD j default) (by rw [List.getD_eq_getElem?_getD, List.getElem?_eq_getElem hj]; exact List.getElem_mem hj); simpa using this
set_option maxRecDepth 100000 in
theorem spawn_bad (sb : Nat) (cbs : List Nat) (own : Nat → Option Own) (s : Sy) (w m g : Int) (W : World) (h : ∃ gb nb pb mb n cv D tb, SysAt W sb gb nb pb mb n cv D cbs tb own s) (hw : goodW w = false) :
 Calls Tryz.prog 47 #[.pointer (some ⟨sb, 0, none⟩), .int .i64 w, .int .u16 m, .int .i64 g] W
  (fun e w' => e = .returned (.tuple #[.int .i64 0, .int .i64 1]) ∧ YQ sb cbs own s W w') := by
 obtain ⟨gb, nb, pb, mb, n, cv, D, tb, hS⟩ := h; have hgw := wgood_any w W; rw [hw] at hgw; have HS := lH hS; clear hS hw; go_enter Tryz.func47, Tryz.ntmps47; go_wp2_with fail
 refine hgw.mono ?_; rintro e w0 ⟨rfl, rfl⟩; go_wp2_with fail
 go_ret2
 exact ⟨rfl, YQ.below HS.out (Below.refl _ _)⟩
set_option maxRecDepth 100000 in
theorem spawn_mask (sb : Nat) (cbs : List Nat) (own : Nat → Option Own) (s : Sy) (w m g : Int) (W : World) (h : ∃ gb nb pb mb n cv D tb, SysAt W sb gb nb pb mb n cv D cbs tb own s) (hw : goodW w = true) (hm16 : 0 ≤ m ∧ m < 65536) (hm : goodM m s.cores.length = false) :
 Calls Tryz.prog 47 #[.pointer (some ⟨sb, 0, none⟩), .int .i64 w, .int .u16 m, .int .i64 g] W
  (fun e w' => e = .returned (.tuple #[.int .i64 0, .int .i64 5]) ∧ YQ sb cbs own s W w') := by
 obtain ⟨gb, nb, pb, mb, n, cv, D, tb, hS⟩ := h; have hgw := wgood_any w W; rw [hw] at hgw; obtain ⟨N, hN⟩ : ∃ N, s.cores.length = N := ⟨_, rfl⟩
 obtain ⟨a, c, hcv⟩ : ∃ a c, cv = .slice a N c := by
  have hl : cbs.length = N := hS.num.trans hN; rcases hS.row.2 with ⟨e, h0⟩ | ⟨g, cap, cur, e, _⟩
  · exact ⟨none, 0, by rw [e, show N = 0 by omega]⟩
  · exact ⟨_, cap, by rw [e, hl]⟩
 have c0 := hS.head; rw [hcv] at c0; have hmg := fun W' => mgood_any m s.cores.length hm16 W'; rw [hm, hN] at hmg; have HS := lH hS; clear hS hw hm16 hm hN hcv; go_enter Tryz.func47, Tryz.ntmps47; go_wp2_with fail
 refine hgw.mono ?_; rintro e w0 ⟨rfl, rfl⟩; go_wp2_with fail
 refine (hmg _).mono ?_; rintro e w0 ⟨rfl, rfl⟩; go_wp2_with fail
 go_ret2
 exact ⟨rfl, YQ.below HS.out (Below.refl _ _)⟩
set_option maxRecDepth 100000 in
theorem spawn_group (sb : Nat) (cbs : List Nat) (own : Nat → Option Own) (s : Sy) (w m g : Int) (W : World) (h : ∃ gb nb pb mb n cv D tb, SysAt W sb gb nb pb mb n cv D cbs tb own s) (hw : goodW w = true) (hm16 : 0 ≤ m ∧ m < 65536) (hm : goodM m s.cores.length = true) (hL : IsPath s.gs g []) :
 Calls Tryz.prog 47 #[.pointer (some ⟨sb, 0, none⟩), .int .i64 w, .int .u16 m, .int .i64 g] W
  (fun e w' => e = .returned (.tuple #[.int .i64 0, .int .i64 2]) ∧ YQ sb cbs own s W w') := by
 obtain ⟨gb, nb, pb, mb, n, cv, D, tb, hS⟩ := h; have hgw := wgood_any w W; rw [hw] at hgw; obtain ⟨N, hN⟩ : ∃ N, s.cores.length = N := ⟨_, rfl⟩
 obtain ⟨a, c, hcv⟩ : ∃ a c, cv = .slice a N c := by
  have hl : cbs.length = N := hS.num.trans hN; rcases hS.row.2 with ⟨e, h0⟩ | ⟨g, cap, cur, e, _⟩
  · exact ⟨none, 0, by rw [e, show N = 0 by omega]⟩
  · exact ⟨_, cap, by rw [e, hl]⟩
 have c0 := hS.head; rw [hcv] at c0; have hmg := fun W' => mgood_any m s.cores.length hm16 W'; rw [hm, hN] at hmg; have c1 := hS.c1; have hdep := depth_any gb s.gs g [] W hS.groups hL (by simp); rw [List.length_nil] at hdep; have HS := lH hS; clear hS hw hm16 hm hN hcv hL; go_enter Tryz.func47, Tryz.ntmps47; go_wp2_with fail
 refine hgw.mono ?_; rintro e w0 ⟨rfl, rfl⟩; go_wp2_with fail
 refine (hmg _).mono ?_; rintro e w0 ⟨rfl, rfl⟩; go_wp2_with fail
 refine hdep.mono ?_; rintro e w1 ⟨rfl, hb1⟩; have HB1 := lH hb1; clear hb1; go_wp2_with fail
 go_ret2
 exact ⟨rfl, YQ.below HS.out HB1.out⟩
set_option maxRecDepth 100000 in
theorem spawn_full (sb : Nat) (cbs : List Nat) (own : Nat → Option Own) (s : Sy) (w m g : Int) (W : World) (h : ∃ gb nb pb mb n cv D tb, SysAt W sb gb nb pb mb n cv D cbs tb own s) (hw : goodW w = true) (hm16 : 0 ≤ m ∧ m < 65536) (hm : goodM m s.cores.length = true) (xs : List G16) (hL : IsPath s.gs g xs) (hx : xs ≠ []) (h1000 : xs.length ≤ 1000)
 (hz : Sized s.ps) (ht : (takeP s.ps).2.1 ≠ 0) :
 Calls Tryz.prog 47 #[.pointer (some ⟨sb, 0, none⟩), .int .i64 w, .int .u16 m, .int .i64 g] W
  (fun e w' => e = .returned (.tuple #[.int .i64 0, .int .i64 3]) ∧ YQ sb cbs own s W w') := by
 obtain ⟨gb, nb, pb, mb, n, cv, D, tb, hS⟩ := h; have hgw := wgood_any w W; rw [hw] at hgw; obtain ⟨N, hN⟩ : ∃ N, s.cores.length = N := ⟨_, rfl⟩
 obtain ⟨a, c, hcv⟩ : ∃ a c, cv = .slice a N c := by
  have hl : cbs.length = N := hS.num.trans hN; rcases hS.row.2 with ⟨e, h0⟩ | ⟨g, cap, cur, e, _⟩
  · exact ⟨none, 0, by rw [e, show N = 0 by omega]⟩
  · exact ⟨_, cap, by rw [e, hl]⟩
 have c0 := hS.head; rw [hcv] at c0; have hmg := fun W' => mgood_any m s.cores.length hm16 W'; rw [hm, hN] at hmg; have c1 := hS.c1; have hdep := depth_any gb s.gs g xs W hS.groups hL h1000; obtain ⟨d, hd⟩ : ∃ d, xs.length = d + 1 := ⟨xs.length - 1, by have : xs.length ≠ 0 := fun e => hx (List.eq_nil_of_length_eq_zero e); omega⟩
 rw [hd] at hdep; have hd0 : ¬ ((d + 1 : Nat) : Int) = 0 := by omega
 have hall := (takeP_miss ht).2; have HS := lH hS; have HALL := lH hall; have HZ := lH hz; clear hS hw hm16 hm hN hcv hL hx h1000 hd hall hz ht; go_enter Tryz.func47, Tryz.ntmps47; go_wp2_with fail
 refine hgw.mono ?_; rintro e w0 ⟨rfl, rfl⟩; go_wp2_with fail
 refine (hmg _).mono ?_; rintro e w0 ⟨rfl, rfl⟩; go_wp2_with fail
 refine hdep.mono ?_; rintro e w1 ⟨rfl, hb1⟩; have hS1 := HS.out.below hb1; have d66 := hS1.c66; have hmiss := stake_miss nb pb w1 s.ps HZ.out.1 hS1.slots HALL.out; have HB1 := lH hb1; clear hS1 hb1; go_wp2_with fail
 refine hmiss.mono ?_; rintro e w2 ⟨rfl, rfl⟩; go_wp2_with fail
 go_ret2
 exact ⟨rfl, YQ.below HS.out HB1.out⟩
end
end Go.Proofs.YtoiajjobecinpaaGreat
