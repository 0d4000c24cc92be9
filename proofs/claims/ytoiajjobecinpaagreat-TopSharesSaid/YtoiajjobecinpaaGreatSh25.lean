/- One core, tasks that are all ready on it. One line under any policy: who is picked, and how far all are apart. The worlds of the laws of one core: its tasks come in, one runs, its policy changes. swap.open, stage.New, Try. -/
import Derived.Sort.BigQuietIn
import Derived.BigQuiet
import Derived.StillTail
import Derived.Test.YtoiajjobecinpaaGreatRows
import Derived.WalkKit
import Derived.ProofKit
import Derived.Below
import Derived.Lib.Hide
import Derived.Laws.AppendOwn
import Derived.Shelf.SlicesQ.IndexFunc
import Derived.Ground.SlgfProg
import Derived.Deep.QuietTactic
import Derived.Deep.DeepCutAuto
import Derived.Deep.RegionHeld3
import Derived.Ground.SlsfProg
import Derived.Deep.AppendLies
import Derived.Deep.RegionLaw
import Derived.Lib.SlBy
import Derived.Shelf.Bits.Mul64
import Derived.Shelf.Spec.BitsCarry
import Derived.Shelf.Lay
import Derived.Ground.NamesProg
import Derived.Ground.Names7Prog
import Derived.Maps.Views
import Derived.Maps.OwnSet
import Derived.RangeFuncNested
import Derived.RangeFuncBound
import Derived.RangeFuncCalls
import Derived.RangeFuncLeaves
import Derived.RangeFuncFrom
import Derived.Shelf.Abstract
import Derived.Shelf.RegionOpen
import Derived.OwnWalkIn
import Derived.TacticsInMore
import Derived.LoopNIn
import Derived.LoopIn
import Derived.WalkSpells
import Derived.WalkLawsBesides
import Derived.WalkMore
import Derived.Lib.SliceRun
import Derived.Laws.BytesArg
import Derived.Shelf.Bytes.SlEqualAll
import Derived.WalkSmall
import Derived.OwnWalk
import Derived.Shelf.SlicesQ.Equal
import Derived.Laws.StructEq
import Derived.Ground.SlgqProg
import Derived.Test.YtoiajjobecinpaaGreatSh24

namespace Go.Proofs.YtoiajjobecinpaaGreat
open Go.RowKit Go.Shelf Go.Lib Go.Proofs
set_option linter.unusedVariables false
set_option linter.unusedSimpArgs false

def takenP (k : Nat) : List (Int × Bool) := List.replicate k (1, true) ++ List.replicate (64 - k) (0, false)
def taskW (ws : List Int) (x : Int) : Tk := ⟨x, ws.getD x.toNat 0, 0, 0, 2, 1, 0⟩

/-- A system of one core and of tasks 0, 1, .. of weights ws, all ready on it. -/
structure ShS (ws : List Int) (s : Sy) (c : Co) : Prop where
  cores : s.cores = [c]
  gs : s.gs = topG
  acc : s.acc = zeroA
  ps : s.ps = takenP ws.length
  tasks : ∀ x, s.tasks x = if 0 ≤ x ∧ x < ws.length then some (taskW ws x) else none
  cnt : s.cnt = ws.length
  few : ws.length ≤ 64
  ids : c.l.ps.map (·.id) = (List.range ws.length).map fun i : Nat => (i : Int)
  wts : c.l.ps.map (·.w) = ws

theorem takenP_fresh : takenP 0 = fresh 64 := by simp [takenP, fresh]

theorem takenP_len (k : Nat) (hk : k ≤ 64) : (takenP k).length = 64 := by simp [takenP]; omega

theorem takenP_get (k j : Nat) (hk : k ≤ 64) (hj : j < 64) : (takenP k).getD j default = if j < k then (1, true) else (0, false) := by
  unfold takenP
  rw [List.getD_eq_getElem?_getD]
  by_cases h : j < k
  · rw [if_pos h, List.getElem?_append_left (by simpa using h)]
    simp [h]
  · rw [if_neg h, List.getElem?_append_right (by simp; omega)]
    simp only [List.length_replicate, List.getElem?_replicate]
    rw [if_pos (by omega)]; rfl

theorem takenP_sized (k : Nat) (hk : k ≤ 64) : Sized (takenP k) := by
  refine ⟨by rw [takenP_len k hk]; omega, fun j hj => ?_⟩
  rw [takenP_len k hk] at hj
  rw [takenP_get k j hk hj]
  split <;> simp

theorem takenP_take (k : Nat) (hk : k < 64) : takeP (takenP k) = ((k : Int), 0, takenP (k + 1)) := by
  have hf : (takenP k).findIdx? (fun p => !p.2) = some k := by
    rw [List.findIdx?_eq_some_iff_getElem]
    have hl := takenP_len k (by omega)
    have hget : ∀ j (h : j < (takenP k).length), (takenP k)[j] = if j < k then ((1 : Int), true) else (0, false) := fun j h => by
      rw [← takenP_get k j (by omega) (by omega), List.getD_eq_getElem?_getD, List.getElem?_eq_getElem h]; rfl
    refine ⟨by omega, ?_, fun j hj => ?_⟩
    · rw [hget k (by omega), if_neg (by omega)]; rfl
    · rw [hget j (by omega), if_pos hj]; simp
  unfold takeP
  rw [hf]
  simp only
  rw [takenP_get k k (by omega) hk, if_neg (by omega)]
  simp only [Prod.mk.injEq, true_and]
  refine ⟨by omega, ?_⟩
  unfold takenP
  rw [List.set_append_right _ _ (by simp)]
  simp only [List.length_replicate, Nat.sub_self]
  rw [show 64 - k = (64 - (k + 1)) + 1 by omega, List.replicate_succ, List.set_cons_zero, List.replicate_succ']
  simp

theorem listFrom_true (k : Nat) : ∀ i, listFrom i (List.replicate k ((1 : Int), true)) = (List.range k).map fun j => ((i + j : Nat) : Int) := by
  induction k with
  | zero => intro i; rfl
  | succ k ih =>
    intro i
    rw [List.replicate_succ]
    simp only [listFrom]
    rw [if_pos trivial, ih, List.range_succ_eq_map, List.map_cons, List.map_map]
    congr 1
    · simp
      intro a _
      omega

theorem listFrom_false (k : Nat) : ∀ i, listFrom i (List.replicate k ((0 : Int), false)) = [] := by
  induction k with
  | zero => intro i; rfl
  | succ k ih => intro i; rw [List.replicate_succ]; simp only [listFrom]; rw [if_neg (by simp), ih]

theorem listFrom_append (a b : List (Int × Bool)) : ∀ i, listFrom i (a ++ b) = listFrom i a ++ listFrom (i + a.length) b := by
  induction a with
  | nil => intro i; simp [listFrom]
  | cons p a ih =>
    intro i
    rw [List.cons_append]
    simp only [listFrom, ih, List.length_cons]
    rw [show i + 1 + a.length = i + (a.length + 1) by omega]
    split <;> simp

theorem takenP_list (k : Nat) : listP (takenP k) = (List.range k).map fun j : Nat => (j : Int) := by
  unfold listP takenP
  rw [listFrom_append, listFrom_true, listFrom_false, List.append_nil]
  simp

theorem mem_takenP {k : Nat} {x : Int} (h : x ∈ listP (takenP k)) : 0 ≤ x ∧ x < k := by
  rw [takenP_list] at h
  obtain ⟨j, hj, rfl⟩ := List.mem_map.1 h
  have := List.mem_range.1 hj
  omega

theorem zeroA_ok : AccOk zeroA := ⟨by simp [zeroA], fun i _ => .inl ⟨(zeroA_get i).1, (zeroA_get i).2.1, (zeroA_get i).2.2.1, (zeroA_get i).2.2.2⟩⟩

theorem zeroA_use (x : G16) : useA zeroA x = zeroA := by
  unfold useA
  obtain ⟨h1, h2, h3, h4⟩ := zeroA_get x.1.toNat
  rw [h1, h2, h3, h4]
  have hu : useP 0 0 0 0 = ((0, 0, 0, 0), 0) := by decide
  rw [hu, if_pos rfl]
  unfold zeroA
  apply List.ext_getElem?
  intro j
  rw [List.getElem?_set]
  simp only [List.getElem?_replicate, List.length_replicate]
  by_cases e : x.1.toNat = j
  · subst e
    have := x.2
    rw [if_pos rfl, if_pos (by omega)]
    first | done | rfl | rw [if_pos (by omega)]
  · rw [if_neg e]

theorem zeroA_fold (xs : List G16) : xs.foldl useA zeroA = zeroA := by
  induction xs with
  | nil => rfl
  | cons x xs ih => rw [List.foldl_cons, zeroA_use, ih]

theorem zeroA_spent (s : Sy) (h : s.acc = zeroA) (xs : List G16) : xs.any (spentA s) = false := by
  rw [List.any_eq_false]
  intro x _
  unfold spentA
  rw [h]
  obtain ⟨h1, h2, h3, h4⟩ := zeroA_get x.1.toNat
  rw [h1, h2, h3, h4]
  decide

theorem topG_paths (g : Nat) (hg : g < 16) : ∃ xs, IsPath topG (g : Int) xs ∧ xs.length ≤ 1000 := by
  by_cases h : g = 0
  · subst h; exact ⟨[g0], topG_path, by simp⟩
  · refine ⟨[], ?_, by simp⟩
    show hasG topG (g : Int) = false
    have h16 : g = 1 ∨ g = 2 ∨ g = 3 ∨ g = 4 ∨ g = 5 ∨ g = 6 ∨ g = 7 ∨ g = 8 ∨ g = 9 ∨ g = 10 ∨ g = 11 ∨ g = 12 ∨ g = 13 ∨ g = 14 ∨ g = 15 := by omega
    rcases h16 with rfl | rfl | rfl | rfl | rfl | rfl | rfl | rfl | rfl | rfl | rfl | rfl | rfl | rfl | rfl <;> decide

theorem ShS.core {ws : List Int} {s : Sy} {c : Co} (h : ShS ws s c) : s.cores[0]! = c ∧ s.cores.length = 1 := by rw [h.cores]; exact ⟨rfl, rfl⟩

theorem ShS.dom {ws : List Int} {s : Sy} {c : Co} (h : ShS ws s c) : DomY s := fun x hx => by
  rw [h.ps] at hx
  have hb := mem_takenP hx
  have := h.few
  refine ⟨by omega, taskW ws x, ?_, rfl⟩
  rw [h.tasks, if_pos hb]

theorem ShS.tell {ws : List Int} {s : Sy} {c : Co} (h : ShS ws s c) (hf : Fits c.l) : TellY s := by
  refine ⟨by rw [h.ps]; exact takenP_sized _ h.few, h.dom, fun x t ht hst => ⟨0, ?_, by rw [h.cores]; simp⟩, fun i hi => ?_, fun g hg => by rw [h.gs]; exact topG_paths g hg, by rw [h.acc]; simp [zeroA]⟩
  · rw [h.tasks] at ht
    split at ht
    · cases ht; rfl
    · cases ht
  · rw [h.cores] at hi ⊢
    simp at hi
    subst hi
    exact hf

/-- The core turned. -/
theorem ShS.turn {ws : List Int} {s : Sy} {c c' : Co} (h : ShS ws s c) (h1 : c'.l.ps.map (·.id) = c.l.ps.map (·.id)) (h2 : c'.l.ps.map (·.w) = c.l.ps.map (·.w)) : ShS ws (setCo s 0 c') c' := by
  refine ⟨by simp [setCo, h.cores], h.gs, h.acc, h.ps, h.tasks, h.cnt, h.few, h1.trans h.ids, h2.trans h.wts⟩

theorem ShS.run {ws : List Int} {s : Sy} {c c' : Co} (h : ShS ws s c) (h1 : c'.l.ps.map (·.id) = c.l.ps.map (·.id)) (h2 : c'.l.ps.map (·.w) = c.l.ps.map (·.w)) (xs : List G16) : ShS ws (setAcc (setCo s 0 c') (xs.foldl useA s.acc)) c' := by
  have e : setAcc (setCo s 0 c') (xs.foldl useA s.acc) = setCo s 0 c' := by
    unfold setAcc
    rw [h.acc, zeroA_fold, ← h.acc]
    rfl
  rw [e]
  exact h.turn h1 h2

theorem formL_ids (l : Ln) : (formL l).map (·.id) = l.ps.map (·.id) ∧ (formL l).map (·.w) = l.ps.map (·.w) ∧ (formL l).map (·.lag) = l.ps.map fun p => l.base - p.v := by
  unfold formL
  refine ⟨?_, ?_, ?_⟩ <;> (rw [List.map_map]; rfl)

theorem ChR.ids {c c' : Co} {tag base : Int} (h : ChR c c' tag base) : c'.l.ps.map (·.id) = c.l.ps.map (·.id) ∧ c'.l.ps.map (·.w) = c.l.ps.map (·.w) ∧ (c'.l.ps.map fun p => c'.l.base - p.v) = c.l.ps.map fun p => c.l.base - p.v := by
  rcases h with rfl | ⟨a1, a2, a3, a4, a5, a6, a7⟩
  · exact ⟨rfl, rfl, rfl⟩
  · rw [← (formL_ids c.l).1, ← (formL_ids c.l).2.1, ← (formL_ids c.l).2.2, ← a6]
    exact ⟨(formL_ids c'.l).1.symm, (formL_ids c'.l).2.1.symm, (formL_ids c'.l).2.2.symm⟩

end Go.Proofs.YtoiajjobecinpaaGreat

namespace Go.Proofs.YtoiajjobecinpaaGreat
open Go.RowKit Go.Shelf Go.Lib Go.Proofs
set_option linter.unusedVariables false
set_option linter.unusedSimpArgs false

theorem stepI_mul (w : Int) (h : 1 ≤ w ∧ w ≤ 20) : stepI w * w = 232792560 := by
  have h20 : w = 1 ∨ w = 2 ∨ w = 3 ∨ w = 4 ∨ w = 5 ∨ w = 6 ∨ w = 7 ∨ w = 8 ∨ w = 9 ∨ w = 10 ∨ w = 11 ∨ w = 12 ∨ w = 13 ∨ w = 14 ∨ w = 15 ∨ w = 16 ∨ w = 17 ∨ w = 18 ∨ w = 19 ∨ w = 20 := by omega
  rcases h20 with rfl | rfl | rfl | rfl | rfl | rfl | rfl | rfl | rfl | rfl | rfl | rfl | rfl | rfl | rfl | rfl | rfl | rfl | rfl | rfl <;> rfl

theorem stepI_pos (w : Int) (h : 1 ≤ w ∧ w ≤ 20) : 0 < stepI w := by
  have h1 := stepI_mul w h
  have h2 := (stepI_le w).1
  by_cases e : stepI w = 0
  · rw [e] at h1; omega
  · omega

/-- What holds of a line whose tasks all came in at once, whatever was picked since. -/
structure LnInv (ws : List Int) (l : Ln) : Prop where
  ids : l.ps.map (·.id) = (List.range ws.length).map fun i : Nat => (i : Int)
  wts : l.ps.map (·.w) = ws
  good : ∀ w ∈ ws, 1 ≤ w ∧ w ≤ 20
  few : 1 ≤ ws.length ∧ ws.length ≤ 64
  base : l.base = (minP l.ps).v
  far : ∀ p ∈ l.ps, p.v ≤ l.base + 931170240
  days : ∀ p ∈ l.ps, p.day = p.v + stepI p.w ∨ p.day = p.v + 2 * stepI p.w ∨ p.day = p.v + 3 * stepI p.w ∨ p.day = p.v + 4 * stepI p.w

theorem LnInv.len {ws : List Int} {l : Ln} (h : LnInv ws l) : l.ps.length = ws.length := by
  have := congrArg List.length h.wts
  simpa using this

theorem LnInv.at_ {ws : List Int} {l : Ln} (h : LnInv ws l) (k : Nat) (hk : k < l.ps.length) : l.ps[k].id = k ∧ ws[k]? = some l.ps[k].w := by
  have h1 := congrArg (fun x => x[k]?) h.ids
  have h2 := congrArg (fun x => x[k]?) h.wts
  have hn := h.len
  simp only [List.getElem?_map, List.getElem?_eq_getElem hk, List.getElem?_range (show k < ws.length by omega), Option.map_some, Option.some.injEq] at h1 h2
  exact ⟨h1, h2.symm⟩

theorem LnInv.ne {ws : List Int} {l : Ln} (h : LnInv ws l) : l.ps ≠ [] := by
  intro e
  have h1 := h.len
  have h2 := h.few.1
  rw [e] at h1
  simp at h1
  omega

theorem LnInv.w {ws : List Int} {l : Ln} (h : LnInv ws l) : ∀ p ∈ l.ps, 1 ≤ p.w ∧ p.w ≤ 20 := fun p hp =>
  h.good p.w (by rw [← h.wts]; exact List.mem_map_of_mem hp)

theorem LnInv.low {ws : List Int} {l : Ln} (h : LnInv ws l) : ∀ p ∈ l.ps, l.base ≤ p.v := fun p hp => by
  rw [h.base]; exact minP_le l.ps p hp

theorem LnInv.pos {ws : List Int} {l : Ln} (h : LnInv ws l) (k : Nat) (hk : k < l.ps.length) : posP l.ps (k : Int) = (k : Int) := by
  rcases posP_cases l.ps (k : Int) with ⟨_, h2⟩ | ⟨j, hj, h1, h2, _⟩
  · exact absurd (h.at_ k hk).1 (h2 _ (List.getElem_mem hk))
  · have := (h.at_ j hj).1
    rw [h1]; omega

/-- Someone is picked that is not far. -/
def PickOk (l l1 : Ln) (j : Nat) : Prop := l1.ps = l.ps ∧ l1.base = l.base ∧ l1.cur = (j : Int) ∧ ∃ h : j < l.ps.length, l.ps[j].v + stepI l.ps[j].w ≤ l.base + 931170240

theorem LnInv.find {ws : List Int} {l : Ln} (h : LnInv ws l) (p : Pt) (hp : p ∈ l.ps) : ∃ j, ∃ hj : j < l.ps.length, l.ps[j] = p ∧ p.id = (j : Int) := by
  obtain ⟨j, hj, e⟩ := List.mem_iff_getElem.1 hp
  exact ⟨j, hj, e, by rw [← e]; exact (h.at_ j hj).1⟩

theorem LnInv.take {ws : List Int} {l : Ln} (h : LnInv ws l) : ∃ j, PickOk l (takeL l) j := by
  obtain ⟨j, hj, e, hid⟩ := h.find _ (minP_mem l.ps h.ne)
  refine ⟨j, rfl, rfl, ?_, hj, ?_⟩
  · unfold takeL
    simp only
    rw [if_neg h.ne, hid]
  · rw [e, ← h.base]
    have := (stepI_le (minP l.ps).w).2
    omega

theorem LnInv.fair {ws : List Int} {l : Ln} (h : LnInv ws l) : ∃ j, PickOk l (pickF l) j := by
  unfold pickF
  by_cases hn : posP l.ps l.cur < 0
  · rw [if_pos hn]; exact h.take
  · rw [if_neg hn]
    split
    · rename_i hle
      rcases posP_cases l.ps l.cur with ⟨h1, _⟩ | ⟨k, hk, h1, h2, _⟩
      · omega
      · have hc := (h.at_ k hk).1
        refine ⟨k, rfl, rfl, by rw [← h2]; exact hc, hk, ?_⟩
        rw [h1] at hle
        simp only [Int.toNat_natCast] at hle
        rw [getElem!_pos l.ps k hk, ← h.base] at hle
        have := (stepI_le l.ps[k].w).2
        omega
    · exact h.take

theorem bestD_spec (m : Int) (S T : Nat) : ∀ (ps : List Pt) (b : Option Pt),
    (∀ q, b = some q → ∃ r, ps.foldl (stepD m S T) b = some r ∧ r.day ≤ q.day) ∧
    (∀ p ∈ ps, ¬ S < dN m p * T → ∃ r, ps.foldl (stepD m S T) b = some r ∧ r.day ≤ p.day) ∧
    (∀ r, ps.foldl (stepD m S T) b = some r → b = some r ∨ r ∈ ps) := by
  intro ps
  induction ps with
  | nil => intro b; exact ⟨fun q hq => ⟨q, hq, Int.le_refl _⟩, fun p hp => by simp at hp, fun r hr => .inl hr⟩
  | cons p l ih =>
    intro b
    obtain ⟨h1, h2, h3⟩ := ih (stepD m S T b p)
    have hs : (∀ q, b = some q → ∃ r, stepD m S T b p = some r ∧ r.day ≤ q.day) ∧ (¬ S < dN m p * T → ∃ r, stepD m S T b p = some r ∧ r.day ≤ p.day) ∧ (∀ r, stepD m S T b p = some r → b = some r ∨ r = p) := by
      unfold stepD
      by_cases hS : S < dN m p * T
      · rw [if_pos hS]
        exact ⟨fun q hq => ⟨q, hq, Int.le_refl _⟩, fun hn => absurd hS hn, fun r hr => .inl hr⟩
      · rw [if_neg hS]
        cases b with
        | none => exact ⟨(fun q hq => by cases hq), (fun _ => ⟨p, rfl, Int.le_refl _⟩), (fun r hr => .inr (by cases hr; rfl))⟩
        | some q =>
          simp only
          split
          · rename_i hd
            exact ⟨(fun q' hq => ⟨p, rfl, by cases hq; omega⟩), (fun _ => ⟨p, rfl, Int.le_refl _⟩), (fun r hr => .inr (by cases hr; rfl))⟩
          · rename_i hd
            exact ⟨(fun q' hq => ⟨q, rfl, by cases hq; exact Int.le_refl _⟩), (fun _ => ⟨q, rfl, by omega⟩), (fun r hr => .inl hr)⟩
    obtain ⟨s1, s2, s3⟩ := hs
    refine ⟨fun q hq => ?_, fun p' hp' hn => ?_, fun r hr => ?_⟩
    · obtain ⟨r, e, hr⟩ := s1 q hq
      obtain ⟨r2, e2, hr2⟩ := h1 r e
      exact ⟨r2, e2, by omega⟩
    · rcases List.mem_cons.1 hp' with rfl | hp'
      · obtain ⟨r, e, hr⟩ := s2 hn
        obtain ⟨r2, e2, hr2⟩ := h1 r e
        exact ⟨r2, e2, by omega⟩
      · exact h2 p' hp' hn
    · rcases h3 r hr with e | e
      · rcases s3 r e with e2 | e2
        · exact .inl e2
        · exact .inr (by rw [e2]; exact List.mem_cons_self)
      · exact .inr (List.mem_cons_of_mem _ e)

theorem LnInv.due {ws : List Int} {l : Ln} (h : LnInv ws l) : ∃ j, PickOk l (pickD l) j := by
  obtain ⟨-, h2, h3⟩ := bestD_spec (minP l.ps).v (sumD (minP l.ps).v l.ps) (totD l.ps) l.ps none
  have hm := minP_mem l.ps h.ne
  obtain ⟨r, hr, hd⟩ := h2 _ hm (by simp [dN])
  have hrm : r ∈ l.ps := by
    rcases h3 r hr with e | e
    · cases e
    · exact e
  obtain ⟨j, hj, e, hid⟩ := h.find r hrm
  refine ⟨j, rfl, rfl, ?_, hj, ?_⟩
  · show curD (bestD (minP l.ps).v (sumD (minP l.ps).v l.ps) (totD l.ps) l.ps) = _
    unfold bestD
    rw [hr]
    exact hid
  · rw [e]
    have d1 := h.days r hrm
    have d2 := h.days _ hm
    have s0 := stepI_le r.w
    have s1 := stepI_le (minP l.ps).w
    have hb := h.base
    omega

theorem LnInv.pick {ws : List Int} {l : Ln} (h : LnInv ws l) (tag : Int) : ∃ j, PickOk l (pickT tag l) j := by
  unfold pickT
  split
  · exact h.take
  · split
    · exact h.fair
    · exact h.due

/-- A line behind a tick of the one at j. -/
def tickL (l : Ln) (j : Nat) : Ln := ⟨growB l.base (l.ps.set j (onP l.ps[j]!)), (j : Int), l.ps.set j (onP l.ps[j]!)⟩

theorem onP_same (p : Pt) : (onP p).id = p.id ∧ (onP p).w = p.w ∧ (onP p).v = p.v + stepI p.w := by
  unfold onP
  split <;> exact ⟨rfl, rfl, rfl⟩

theorem charge_pick {ws : List Int} {l l1 : Ln} {j : Nat} (h : LnInv ws l) (hp : PickOk l l1 j) (hb : l.base ≤ 1152921504606846976) : chargeL l1 = ((j : Int), 0, tickL l j) := by
  obtain ⟨h1, h2, h3, hj, h4⟩ := hp
  unfold chargeL
  rw [h1, h2, h3, h.pos j hj]
  rw [if_neg (by omega)]
  simp only [Int.toNat_natCast]
  rw [getElem!_pos l.ps j hj, if_neg (by omega)]
  unfold tickL
  rw [(h.at_ j hj).1, getElem!_pos l.ps j hj]

theorem mem_set_pt {ps : List Pt} {j : Nat} {q p : Pt} (h : p ∈ ps.set j q) : p = q ∨ p ∈ ps := by
  rcases List.mem_or_eq_of_mem_set h with h | h
  · exact .inr h
  · exact .inl h

theorem LnInv.tick {ws : List Int} {l : Ln} {j : Nat} (h : LnInv ws l) (hj : j < l.ps.length) (hv : l.ps[j].v + stepI l.ps[j].w ≤ l.base + 931170240) :
    LnInv ws (tickL l j) ∧ l.base ≤ (tickL l j).base ∧ (tickL l j).base ≤ l.base + 931170240 := by
  have hm := List.getElem_mem hj
  have hps : (tickL l j).ps = l.ps.set j (onP l.ps[j]) := by unfold tickL; rw [getElem!_pos l.ps j hj]
  obtain ⟨o1, o2, o3⟩ := onP_same l.ps[j]
  have hs := stepI_pos _ (h.w _ hm)
  have hlow : ∀ p ∈ l.ps.set j (onP l.ps[j]), l.base ≤ p.v := fun p hp => by
    rcases mem_set_pt hp with e | e
    · rw [e, o3]; have := h.low _ hm; omega
    · exact h.low p e
  have hne : l.ps.set j (onP l.ps[j]) ≠ [] := fun e => by
    have := congrArg List.length e
    simp at this
    exact h.ne this
  have hmin := minP_mem _ hne
  have hgrow : ∀ ps' : List Pt, ps' ≠ [] → l.base ≤ (minP ps').v → growB l.base ps' = (minP ps').v := fun ps' h1 h2 => by
    cases ps' with
    | nil => exact absurd rfl h1
    | cons a b =>
      show (if l.base < (minP (a :: b)).v then (minP (a :: b)).v else l.base) = _
      split <;> omega
  have hbase : (tickL l j).base = (minP (l.ps.set j (onP l.ps[j]))).v := by
    unfold tickL
    rw [getElem!_pos l.ps j hj]
    exact hgrow _ hne (hlow _ hmin)
  have hle : (minP (l.ps.set j (onP l.ps[j]))).v ≤ l.base + 931170240 := by
    have := minP_le _ _ (List.mem_set (l := l.ps) (a := onP l.ps[j]) hj)
    omega
  have hge := hlow _ hmin
  refine ⟨⟨?_, ?_, h.good, h.few, by rw [hbase, hps], fun p hp => ?_, fun p hp => ?_⟩, by rw [hbase]; exact hge, by rw [hbase]; exact hle⟩
  · rw [hps, List.map_set, o1, ← h.ids]
    apply List.ext_getElem?
    intro i
    rw [List.getElem?_set]
    split
    · rename_i e; subst e
      simp [hj]
    · rfl
  · rw [hps, List.map_set, o2]
    conv => rhs; rw [← h.wts]
    apply List.ext_getElem?
    intro i
    rw [List.getElem?_set]
    split
    · rename_i e; subst e
      simp [hj]
    · rfl
  · rw [hps] at hp
    rw [hbase]
    rcases mem_set_pt hp with e | e
    · rw [e, o3]; omega
    · have := h.far p e; omega
  · rw [hps] at hp
    rcases mem_set_pt hp with e | e
    · rw [e]
      have hd := h.days _ hm
      unfold onP
      split
      · right; right; right; rfl
      · simp only
        omega
    · exact h.days p e

/-- The same line, made anew of what is owed. -/
theorem LnInv.moved {ws : List Int} {l l' : Ln} (h : LnInv ws l) (hid : l'.ps.map (·.id) = l.ps.map (·.id)) (hw : l'.ps.map (·.w) = l.ps.map (·.w)) (hl : (l'.ps.map fun p => l'.base - p.v) = l.ps.map fun p => l.base - p.v)
    (hd : ∀ p ∈ l'.ps, p.day = p.v + 4 * stepI p.w) : LnInv ws l' ∧ ∀ k, k < ws.length → l'.ps[k]!.v = l.ps[k]!.v + (l'.base - l.base) := by
  have hn : l'.ps.length = l.ps.length := by simpa using congrArg List.length hid
  have hv : ∀ k (hk : k < l'.ps.length) (hk2 : k < l.ps.length), l'.base - l'.ps[k].v = l.base - l.ps[k].v := fun k hk hk2 => by
    have := congrArg (fun x => x[k]?) hl
    simpa [List.getElem?_map, List.getElem?_eq_getElem hk, List.getElem?_eq_getElem hk2] using this
  have hlen := h.len
  have hne' : l'.ps ≠ [] := fun e => by
    have h1 := h.few.1
    rw [e] at hn
    simp at hn
    omega
  have hlow : ∀ p ∈ l'.ps, l'.base ≤ p.v ∧ p.v ≤ l'.base + 931170240 := fun p hp => by
    obtain ⟨k, hk, rfl⟩ := List.mem_iff_getElem.1 hp
    have h1 := hv k hk (by omega)
    have h2 := h.low _ (List.getElem_mem (show k < l.ps.length by omega))
    have h3 := h.far _ (List.getElem_mem (show k < l.ps.length by omega))
    omega
  refine ⟨⟨hid.trans h.ids, hw.trans h.wts, h.good, h.few, ?_, fun p hp => (hlow p hp).2, fun p hp => .inr (.inr (.inr (hd p hp)))⟩, fun k hk => ?_⟩
  · obtain ⟨k, hk, e⟩ := List.mem_iff_getElem.1 (minP_mem l.ps h.ne)
    have h1 := hv k (by omega) hk
    rw [e, ← h.base] at h1
    have h2 := minP_le l'.ps _ (List.getElem_mem (show k < l'.ps.length by omega))
    have h3 := (hlow _ (minP_mem l'.ps hne')).1
    omega
  · have h1 := hv k (by omega) (by omega)
    rw [getElem!_pos l'.ps k (by omega), getElem!_pos l.ps k (by omega)]
    omega

end Go.Proofs.YtoiajjobecinpaaGreat

namespace Go.Proofs.YtoiajjobecinpaaGreat
open Go.RowKit Go.Shelf Go.Lib Go.Proofs
set_option linter.unusedVariables false
set_option linter.unusedSimpArgs false

/-- Blocks that are not the world's own. -/
def FreeN (N : Nat → Prop) (W : World) (own : Nat → Option Own) (ow : Nat → Option OwnW) : Prop := ∀ k, N k → k < W.heap.size ∧ own k = none ∧ ow k = none

theorem FreeN.next {N : Nat → Prop} {W W' : World} {own own' : Nat → Option Own} {ow ow' : Nat → Option OwnW} (h : FreeN N W own ow) (hs : W.heap.size ≤ W'.heap.size)
    (ho : ∀ k, (own' k ≠ none ∨ ow' k ≠ none) → (own k ≠ none ∨ ow k ≠ none) ∨ W.heap.size ≤ k) : FreeN N W' own' ow' := fun k hk => by
  obtain ⟨h1, h2, h3⟩ := h k hk
  have hn : ¬ (own' k ≠ none ∨ ow' k ≠ none) := fun e => by
    rcases ho k e with e2 | e2
    · simp [h2, h3] at e2
    · omega
  refine ⟨by omega, ?_, ?_⟩
  · by_cases e : own' k = none
    · exact e
    · exact absurd (.inl e) hn
  · by_cases e : ow' k = none
    · exact e
    · exact absurd (.inr e) hn

structure BegC (c : Co) : Prop where
  base : c.l.base = 0
  all : ∀ p ∈ c.l.ps, p.v = 0 ∧ p.day = 4 * stepI p.w
  srv : c.srv = 0

def midS (s : Sy) (k : Nat) (w : Int) : Sy := ⟨s.cores, s.gs, s.acc, takenP (k + 1), fun x => if x = (k : Int) then some (newTk k w 1 0) else s.tasks x, s.cnt + 1⟩

def BegW (W : World) (N : Nat → Prop) (ob : Nat) (ws : List Int) : Prop :=
  ∃ wb sb s cbs own ow c, WoIn W ob wb sb s 0 cbs noTries own ow ∧ ShS ws s c ∧ BegC c ∧ (∀ w ∈ ws, 1 ≤ w ∧ w ≤ 20) ∧ FreeN N W own ow

def MidW (W : World) (N : Nat → Prop) (ob : Nat) (ws : List Int) (w : Int) : Prop :=
  ∃ wb sb s cbs own ow c, WoIn W ob wb sb (midS s ws.length w) 0 cbs noTries own ow ∧ ShS ws s c ∧ BegC c ∧ (∀ w ∈ ws, 1 ≤ w ∧ w ≤ 20) ∧ (1 ≤ w ∧ w ≤ 20) ∧ ws.length < 64 ∧ FreeN N W own ow

/-- Any answer. -/
def AnsP (e : Ending) : Prop := ∃ x y : Int, e = .returned (.agg #[.int .i64 x, .int .i64 y])

theorem goodW_of {w : Int} (h : 1 ≤ w ∧ w ≤ 20) : goodW w = true := by unfold goodW; simp [h.1, h.2]

theorem byId_range {ps : List Pt} {n : Nat} (h : ps.map (·.id) = (List.range n).map fun i : Nat => (i : Int)) : ById ps := by
  have h2 : (ps.map (·.id)).Pairwise (fun a b => a < b) := by
    rw [h, List.pairwise_map]
    exact (List.pairwise_lt_range (n := n)).imp (fun h => by omega)
  exact List.pairwise_map.1 h2

theorem ids_range {ps : List Pt} {n : Nat} (h : ps.map (·.id) = (List.range n).map fun i : Nat => (i : Int)) : ∀ p ∈ ps, 0 ≤ p.id ∧ p.id < n := fun p hp => by
  have hm : p.id ∈ ps.map (·.id) := List.mem_map_of_mem hp
  rw [h] at hm
  obtain ⟨j, hj, e⟩ := List.mem_map.1 hm
  have := List.mem_range.1 hj
  omega

theorem ShS.w {ws : List Int} {s : Sy} {c : Co} (h : ShS ws s c) (hg : ∀ w ∈ ws, 1 ≤ w ∧ w ≤ 20) : ∀ p ∈ c.l.ps, 1 ≤ p.w ∧ p.w ≤ 20 := fun p hp => hg p.w (by rw [← h.wts]; exact List.mem_map_of_mem hp)

theorem ShS.len {ws : List Int} {s : Sy} {c : Co} (h : ShS ws s c) : c.l.ps.length = ws.length := by simpa using congrArg List.length h.wts

theorem BegC.fits {ws : List Int} {s : Sy} {c : Co} (hb : BegC c) (h : ShS ws s c) (hg : ∀ w ∈ ws, 1 ≤ w ∧ w ≤ 20) : Fits c.l := by
  refine ⟨by rw [h.len]; exact h.few, byId_range h.ids, by rw [hb.base]; omega, fun p hp => ?_⟩
  have := (hb.all p hp).1
  have := h.w hg p hp
  omega

theorem beg_new (W : World) (tb c : Nat) (tag : Int) (hc : W.cell? ⟨tb, 0, none⟩ = some (.int .i64 tag)) (htb : tb < W.heap.size) (htag : tag = 0 ∨ tag = 1 ∨ tag = 2) :
    Calls Tryz.prog 11 #[.slice (some ⟨tb, 0, none⟩) 1 c] W fun e w' => ∃ ob, e = .returned (.tuple #[.pointer (some ⟨ob, 0, none⟩), .int .i64 0]) ∧ BegW w' (fun k => k < W.heap.size) ob [] ∧ Below W.heap.size W w' := by
  refine (wnew_ok W tb 0 1 c [tag] rfl (by omega) (by omega) (fun k hk => ?_) htb (fun k hk => ?_)).mono ?_
  · obtain rfl : k = 0 := by omega
    simpa using hc
  · obtain rfl : k = 0 := by omega
    simpa using htag
  · rintro e w' ⟨ob, wb, sb, cbs, own, ow, rfl, hW, -, hB, ho⟩
    refine ⟨ob, rfl, ⟨wb, sb, _, cbs, own, ow, newCo tag, hW, ⟨rfl, rfl, rfl, takenP_fresh.symm, fun x => ?_, rfl, by simp, rfl, rfl⟩, ⟨rfl, fun p hp => by simp [newCo] at hp, rfl⟩, fun w hw => by simp at hw, fun k hk => ?_⟩, hB⟩
    · simp only [newSy, List.length_nil]
      rw [if_neg (by omega)]
    · have hs := hB.size
      refine ⟨by omega, ?_, ?_⟩
      · by_cases e : own k = none
        · exact e
        · have := ho k (.inl e); omega
      · by_cases e : ow k = none
        · exact e
        · have := ho k (.inr e); omega

theorem beg_spawn (W : World) (N : Nat → Prop) (ob : Nat) (ws : List Int) (w n m : Int) (bl : Value) (h : BegW W N ob ws) (hw : 1 ≤ w ∧ w ≤ 20) (hk : ws.length < 64) :
    Calls Tryz.prog 13 #[.pointer (some ⟨ob, 0, none⟩), actV 2 w 1 0 n m bl] W fun e w' => AnsP e ∧ MidW w' N ob ws w ∧ Touch (fun k => ¬ N k) W w' := by
  obtain ⟨wb, sb, s, cbs, own, ow, c, hW, hS, hC, hg, hN⟩ := h
  refine (do_spawn W ob wb sb s 0 cbs noTries own ow w n m (ws.length : Int) bl (takenP (ws.length + 1)) hW (goodW_of hw) hS.core.2 hS.gs (by rw [hS.ps]; exact takenP_sized _ hS.few) (by rw [hS.ps]; exact takenP_take _ hk) (by omega)
    (by rw [hS.tasks, if_neg (by omega)]) (by rw [hS.cnt]; omega)).mono ?_
  rintro e w' ⟨rfl, own', hW', ht, ho⟩
  exact ⟨⟨_, _, rfl⟩, ⟨wb, sb, s, cbs, own', ow, c, hW', hS, hC, hg, hw, hk, hN.next ht.size (fun k hk => by
    rcases hk with hk | hk
    · exact (ho k hk).imp .inl id
    · exact .inl (.inr hk))⟩, ht.wider (fun k hk hNk => hk (hN k hNk).2.1)⟩

theorem insP_end (p : Pt) : ∀ (ps : List Pt), (∀ q ∈ ps, q.id < p.id) → insP p ps = ps ++ [p]
  | [], _ => rfl
  | q :: l, h => by
    have h0 := h q (by simp)
    unfold insP
    rw [if_neg (by omega), insP_end p l (fun x hx => h x (by simp [hx]))]
    rfl

theorem held_zero (tag : Int) : heldT tag 0 = 0 := by
  unfold heldT
  split
  · decide
  · split <;> decide

theorem put_end {l : Ln} {n : Nat} {w : Int} (hb : l.base = 0) (ha : ∀ p ∈ l.ps, p.v = 0 ∧ p.day = 4 * stepI p.w) (hids : l.ps.map (·.id) = (List.range n).map fun i : Nat => (i : Int)) :
    putL l n w 0 = ⟨0, l.cur, l.ps ++ [⟨n, w, 0, 4 * stepI w⟩]⟩ := by
  have hi : insP (dayP ⟨n, w, l.base - 0, 0⟩) l.ps = l.ps ++ [⟨n, w, 0, 4 * stepI w⟩] := by
    rw [insP_end _ _ (fun q hq => (ids_range hids q hq).2), hb]
    simp [dayP]
  unfold putL
  simp only
  rw [hi, hb]
  have hv : ∀ p ∈ l.ps ++ [(⟨n, w, 0, 4 * stepI w⟩ : Pt)], p.v = 0 := fun p hp => by
    rcases List.mem_append.1 hp with h | h
    · exact (ha p h).1
    · simp at h; rw [h]
  have hm := hv _ (minP_mem (l.ps ++ [⟨n, w, 0, 4 * stepI w⟩]) (by simp))
  congr 1
  generalize l.ps ++ [(⟨n, w, 0, 4 * stepI w⟩ : Pt)] = ps at hm
  cases ps with
  | nil => rfl
  | cons a b =>
    show (if (0 : Int) < (minP (a :: b)).v then (minP (a :: b)).v else 0) = 0
    rw [hm]; rfl

theorem least_one (x : Int) : (leastL [x] 1).1 = 0 := by
  have h : listM 1 = [g0] := by decide
  unfold leastL
  rw [h]
  simp [lstep, g0]

theorem mayE_new {l : Ln} {n : Nat} {w : Int} (hw : 1 ≤ w ∧ w ≤ 20) (hn : n < 64) (hlen : l.ps.length = n) (hids : l.ps.map (·.id) = (List.range n).map fun i : Nat => (i : Int)) : mayE l n w 0 = 0 := by
  have h1 : mayI n w 0 = true := by
    unfold mayI
    rw [goodW_of hw, decide_eq_true (show (0 : Int) ≤ n by omega), decide_eq_true (show (n : Int) ≤ 1073741824 by omega)]
    decide
  unfold mayE
  rw [if_pos h1]
  have h2 : ¬ 0 ≤ posP l.ps n := by
    rcases posP_cases l.ps n with ⟨e, _⟩ | ⟨k, hk, e, h3, _⟩
    · omega
    · have := (ids_range hids _ (List.getElem_mem hk)).2
      omega
  rw [if_neg h2, if_neg (by omega)]

theorem beg_start (W : World) (N : Nat → Prop) (ob : Nat) (ws : List Int) (w b c n m : Int) (bl : Value) (h : MidW W N ob ws w) :
    Calls Tryz.prog 13 #[.pointer (some ⟨ob, 0, none⟩), actV 3 (ws.length : Int) b c n m bl] W fun e w' => AnsP e ∧ BegW w' N ob (ws ++ [w]) ∧ Touch (fun k => ¬ N k) W w' := by
  obtain ⟨wb, sb, s, cbs, own, ow, co, hW, hS, hC, hg, hw, hk, hN⟩ := h
  have hc := hS.core
  have hme := mayE_new hw hk hS.len hS.ids
  have hent : coreEnter co (ws.length : Int) w 0 false = (0, ⟨co.tag, ⟨0, co.l.cur, co.l.ps ++ [⟨ws.length, w, 0, 4 * stepI w⟩]⟩, wrap64 (co.age + 1), co.srv⟩) := by
    unfold coreEnter
    rw [hme, if_pos rfl, if_neg (by simp), held_zero, put_end hC.base hC.all hS.ids]
  have hr : enterY (setTk (midS s ws.length w) ws.length (coT (newTk ws.length w 1 0) (0 : Nat))) ws.length (coT (newTk ws.length w 1 0) (0 : Nat)) ([g0].any (spentA (midS s ws.length w))) 0 1 false =
      (0, setTk (setCo (setTk (midS s ws.length w) ws.length (coT (newTk ws.length w 1 0) (0 : Nat))) 0 ⟨co.tag, ⟨0, co.l.cur, co.l.ps ++ [⟨ws.length, w, 0, 4 * stepI w⟩]⟩, wrap64 (co.age + 1), co.srv⟩) ws.length (stT (coT (newTk ws.length w 1 0) (0 : Nat)) 2)) := by
    unfold enterY
    rw [zeroA_spent (midS s ws.length w) hS.acc, if_neg (by simp)]
    have e1 : (setTk (midS s ws.length w) ws.length (coT (newTk ws.length w 1 0) (0 : Nat))).cores[0]! = co := hc.1
    have e2 : (coT (newTk (ws.length : Int) w 1 0) (0 : Nat)).id = (ws.length : Int) := rfl
    have e3 : (coT (newTk (ws.length : Int) w 1 0) (0 : Nat)).w = w := rfl
    have e4 : (coT (newTk (ws.length : Int) w 1 0) (0 : Nat)).lag = 0 := rfl
    rw [e1, e2, e3, e4, hent, if_pos rfl]
    rfl
  have hpos := do_start W ob wb sb (midS s ws.length w) 0 cbs noTries own ow (ws.length : Int) b c n m bl (newTk ws.length w 1 0) [g0] 0 hW (by omega) (by omega) (by simp [midS]) (by simp [newTk]; decide) (by simp [newTk])
    (fun i hi => by
      have : i = 0 := by have := hc.2; simp only [midS] at hi; omega
      subst this
      show Fits s.cores[0]!.l
      rw [hc.1]; exact hC.fits hS hg) (by show 0 < s.cores.length; omega) (by show s.cores.length ≤ 16; omega) (by show IsPath s.gs 0 [g0]; rw [hS.gs]; exact topG_path)
    (by show (leastL (loadsY (midS s ws.length w)) 1).1 = _
        have : loadsY (midS s ws.length w) = [sumW (formL co.l)] := by unfold loadsY midS; simp only; rw [hS.cores]; rfl
        rw [this]; exact least_one _) (by show 0 < s.cores.length; omega) (by rw [hr])
  rw [hr] at hpos
  refine hpos.mono ?_
  rintro e w' ⟨rfl, own', hW', ht, ho⟩
  refine ⟨⟨_, _, rfl⟩, ⟨wb, sb, _, cbs, own', ow, ⟨co.tag, ⟨0, co.l.cur, co.l.ps ++ [⟨ws.length, w, 0, 4 * stepI w⟩]⟩, wrap64 (co.age + 1), co.srv⟩, hW', ⟨?_, hS.gs, hS.acc, ?_, fun x => ?_, ?_, ?_, ?_, ?_⟩, ⟨rfl, fun p hp => ?_, hC.srv⟩, fun x hx => ?_, hN.next ht.size (fun k hk => by
    rcases hk with hk | hk
    · exact (ho k hk).imp .inl id
    · exact .inl (.inr hk))⟩, ht.wider (fun k hk hNk => hk (hN k hNk).2.1)⟩
  · simp [setTk, setCo, midS, hS.cores]
  · simp [setTk, setCo, midS]
  · simp only [setTk, setCo, midS, List.length_append, List.length_singleton]
    by_cases e : x = (ws.length : Int)
    · subst e
      rw [if_pos rfl, if_pos (by omega)]
      simp [taskW, stT, coT, newTk]
    · rw [if_neg e, if_neg e, if_neg e, hS.tasks]
      by_cases e2 : 0 ≤ x ∧ x < ws.length
      · rw [if_pos e2, if_pos (by omega)]
        unfold taskW
        rw [List.getD_eq_getElem?_getD, List.getD_eq_getElem?_getD, List.getElem?_append_left (by omega)]
      · rw [if_neg e2, if_neg (by omega)]
  · simp [setTk, setCo, midS, hS.cnt]
  · simp; omega
  · simp only [List.map_append, List.length_append, List.length_singleton, List.range_succ, hS.ids]
    simp
  · simp only [List.map_append, hS.wts]
    simp
  · rcases List.mem_append.1 hp with h | h
    · exact hC.all p h
    · simp at h; rw [h]; exact ⟨rfl, rfl⟩
  · rcases List.mem_append.1 hx with h | h
    · exact hg x h
    · simp at h; rw [h]; exact hw

end Go.Proofs.YtoiajjobecinpaaGreat

namespace Go.Proofs.YtoiajjobecinpaaGreat
open Go.RowKit Go.Shelf Go.Lib Go.Proofs
set_option linter.unusedVariables false
set_option linter.unusedSimpArgs false
attribute [local go_sem] Oper.semAt_some

theorem open_none (W : World) : Calls Tryz.prog 121 #[.pointer none] W fun e w' => e = .returned (.bool false) ∧ W = w' := by
  go_enter Tryz.func121, Tryz.ntmps121
  go_wp2_with fail
  go_ret
  exact ⟨rfl, rfl⟩

theorem open_some (tb cb : Nat) (t : Tr) (W : World) (h : TryC W tb cb t) : Calls Tryz.prog 121 #[.pointer (some ⟨tb, 0, none⟩)] W fun e w' => e = .returned (.bool (decide (t.stg < 5))) ∧ W = w' := by
  have hst := stage_any tb cb t W h
  clear h
  go_enter Tryz.func121, Tryz.ntmps121
  go_wp2_with fail
  refine hst.mono ?_
  rintro e w1 ⟨rfl, rfl⟩
  go_wp2_with fail
  go_ret
  exact ⟨rfl, rfl⟩

def newTr (tag base : Int) : Tr := ⟨tag, base, 0, 0, 0, .slice none 0 0, .pointer none, false, false, false, false, false, false⟩

def StNewP (cb : Nat) (tag base : Int) (w : World) (e : Ending) (W' : World) : Prop :=
  ((tag ≠ 0 ∧ tag ≠ 1 ∧ tag ≠ 2) ∧ e = .returned (.tuple #[.pointer none, .int .i64 1]) ∧ W' = w) ∨
  ((tag = 0 ∨ tag = 1 ∨ tag = 2) ∧ ∃ tb, e = .returned (.tuple #[.pointer (some ⟨tb, 0, none⟩), .int .i64 0]) ∧ TryC W' tb cb (newTr tag base) ∧ w.heap.size ≤ tb ∧ Below w.heap.size w W')

theorem stnew_any (cb : Nat) (tag base : Int) (W : World) (hb : -1152921504606846976 ≤ base ∧ base ≤ 1152921504606846976) :
    Calls Tryz.prog 122 #[.pointer (some ⟨cb, 0, none⟩), .int .i64 tag, .int .i64 base] W (StNewP cb tag base W) := by
  by_cases ht : tag = 0 ∨ tag = 1 ∨ tag = 2
  · have hnew := pnew_any tag base W ht hb
    have HT := Lib.hid ht
    clear ht
    go_enter Tryz.func122, Tryz.ntmps122
    go_wp2_with fail
    refine hnew.mono ?_
    rintro e w1 ⟨qb, F, rfl, -, hB, -⟩
    have HB := Lib.hid hB
    clear hB
    go_wp2_with fail
    go_ret2
    refine .inr ⟨HT.out, _, rfl, heap_alloc_new _ _, HB.out.size, HB.out.alloc HB.out.size _⟩
  · have hnew := pnew_bad tag base W (by omega) (by omega) (by omega)
    have HT : Hid (tag ≠ 0 ∧ tag ≠ 1 ∧ tag ≠ 2) := Lib.hid (by omega)
    clear ht
    go_enter Tryz.func122, Tryz.ntmps122
    go_wp2_with fail
    refine hnew.mono ?_
    rintro e w1 ⟨rfl, rfl⟩
    go_wp2_with fail
    go_ret2
    exact .inl ⟨HT.out, rfl, rfl⟩

theorem try_some (wb sb mb sn : Nat) (av : Value) (DD : DataW Unit) (m : Nat) (tbs : List Nat) (ttb : Int → Nat) (L : Int → Option Tr) (ow : Nat → Option OwnW)
    (gb nb pb mb' n : Nat) (cv : Value) (D : DataW Unit) (cbs : List Nat) (tb : Int → Nat) (own : Nat → Option Own) (s : Sy) (i : Nat) (t : Tr) (W : World)
    (hw : SwAt W wb sb mb sn av DD m tbs ttb cbs L ow) (h : SysAt W sb gb nb pb mb' n cv D cbs tb own s) (hi : i < cbs.length) (hi2 : i < 1000000) (ht : L i = some t) :
    Calls Tryz.prog 123 #[.pointer (some ⟨wb, 0, none⟩), .int .i64 i] W fun e w' => e = .returned (.tuple #[.pointer (some ⟨ttb i, 0, none⟩), .int .i64 0]) ∧ W = w' := by
  have hcore := ycore_any sb gb nb pb mb' n cv D cbs tb own s i _ h hi
  have hl := hw.look i (by omega) (by omega)
  rw [ht] at hl
  simp only at hl
  have c0 := hw.c0
  have c1 := hw.c1
  generalize cbs[i]! = cb at hcore
  generalize ttb i = b at hl ⊢
  clear hw h ht
  go_enter Tryz.func123, Tryz.ntmps123
  go_wp2_with fail
  refine hcore.mono ?_
  rintro e w1 ⟨rfl, rfl⟩
  go_wp2_with fail
  go_ret2
  exact ⟨rfl, rfl⟩

end Go.Proofs.YtoiajjobecinpaaGreat
