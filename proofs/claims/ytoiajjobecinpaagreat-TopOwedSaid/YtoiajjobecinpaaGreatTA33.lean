/- What each method of a system makes of it, whatever it is told: Start, Sleep, Wake, End, Weigh, Move, Bind. What each met -/
import Derived.Test.YtoiajjobecinpaaGreatTA32
set_option maxHeartbeats 4000000
namespace Go.Proofs.YtoiajjobecinpaaGreat
open Go.RowKit Go.Shelf Go.Lib Go.Proofs
set_option linter.unusedVariables false
set_option linter.unusedSimpArgs false
def leastC (s : Sy) (m : Int) : Int := (leastL (loadsY s) m).1
noncomputable def startF (s : Sy) (id : Int) : Int × Sy :=
 match s.tasks id with
 | none => (2, s)
 | some t => if (nxt t.state 1).2 = 0 then enterY (setTk s id (coT t (leastC s t.mask))) id (coT t (leastC s t.mask)) (heldY s t) (leastC s t.mask).toNat 1 false else ((nxt t.state 1).2, s)
def sleepF (s : Sy) (id : Int) : Int × Sy := sleepY s id (match s.tasks id with | none => 0 | some t => t.core.toNat)
def wakeC (s : Sy) (t : Tk) : Int := if hasM t.mask t.core = true then t.core else leastC s t.mask
noncomputable def wakeF (s : Sy) (id : Int) : Int × Sy :=
 match s.tasks id with
 | none => (2, s)
 | some t => if (nxt t.state 5).2 = 0 then enterY (setTk s id (coT t (wakeC s t))) id (coT t (wakeC s t)) (heldY s t) (wakeC s t).toNat 5 false else ((nxt t.state 5).2, s)
def endF (s : Sy) (id : Int) : Int × Sy :=
 match s.tasks id with
 | none => (2, s)
 | some t => if (nxt t.state 8).2 = 0 then (0, endY s id t t.core.toNat) else ((nxt t.state 8).2, s)
def weighF (s : Sy) (id w : Int) : Int × Sy :=
 match s.tasks id with
 | none => (2, s)
 | some t => if goodW w = false then (1, s) else if t.state = 2 then (0, setTk (setCo s t.core.toNat (coreWeigh s.cores[t.core.toNat]! id w).2) id (wT t w)) else (0, setTk s id (wT t w))
def moveF (s : Sy) (id tg : Int) : Int × Sy :=
 match s.tasks id with
 | none => (2, s)
 | some t => if onT t = false ∨ hasM t.mask tg = false ∨ tg = t.core then (moveE t tg, s) else if t.state = 5 then (0, setTk s id (coT t tg)) else (0, moveY s id t t.core.toNat tg.toNat)
def bindF (s : Sy) (id m : Int) : Int × Sy :=
 match s.tasks id with
 | none => (2, s)
 | some t => if goodM m s.cores.length = false then (5, s) else if onT t = false ∨ hasM m t.core = true then (0, setTk s id (maskT t m))
  else if t.state = 5 then (0, setTk (setTk s id (maskT t m)) id (coT (maskT t m) (leastC s m))) else (0, moveY (setTk s id (maskT t m)) id (maskT t m) t.core.toNat (leastC s m).toNat)
section
variable {k n : Nat} {b : Int} {s : Sy} {sb : Nat} {cbs : List Nat} {own : Nat → Option Own} {W : World}
theorem InvY.coT_ {id : Int} {t : Tk} {i : Nat} (h : InvY k b n s) (ht : s.tasks id = some t) (hs : t.state = 1 ∨ t.state = 4) (hi : i < n) : InvY k b n (setTk s id (coT t (i : Int))) := by
 have hT := h.task id t ht; refine h.setK ht ⟨hT.id, hT.w, hT.mask, hT.st, fun _ => ⟨i, rfl, hi⟩, fun hh => ?_, hT.lag, hT.grp⟩ (.inl ⟨by omega, ?_⟩)
 · replace hh : t.state = 2 ∨ t.state = 5 := hh; omega
 · show t.state ≠ 2; omega
theorem leastC_good (h : InvY k b n s) {m : Int} (hm : (0 ≤ m ∧ m < 65536) ∧ goodM m n = true) : ∃ i : Nat, leastC s m = (i : Int) ∧ i < n ∧ hasM m (i : Int) = true := by
 obtain ⟨i, hi, hin, hmi, -⟩ := leastL_good (loads := loadsY s) (m := m) (n := n) (by simp [loadsY, h.len]) hm.1 hm.2; exact ⟨i, hi, hin, hmi⟩
theorem setTk_task (s : Sy) (id : Int) (t : Tk) : (setTk s id t).tasks id = some t := by
 show (if id = id then _ else _) = _; rw [if_pos rfl]
theorem sys_start (h : ∃ gb nb pb mb n cv D tb, SysAt W sb gb nb pb mb n cv D cbs tb own s) (hI : InvY k b n s) (hk : k ≤ 400) (hb : b ≤ 1000000000000000000) (id : Int) (h1 : -9223372036854775808 ≤ id) (h2 : id ≤ 9223372036854775807) :
 InvY k (b + k * 232792560) n (startF s id).2 ∧ (startF s id).2.gs = s.gs ∧
 Calls Tryz.prog 48 #[.pointer (some ⟨sb, 0, none⟩), .int .i64 id] W fun e w' => e = .returned (.int .i64 (startF s id).1) ∧ YQ sb cbs own (startF s id).2 W w' := by
 obtain ⟨gb, nb, pb, mb, nn, cv, D, tb, hS⟩ := h; have hn := hS.num; have hl := hI.len; have h8 := hI.n8; have hself : YQ sb cbs own s W W := YQ.below hS (Below.refl _ _); have hm : InvY k (b + k * 232792560) n s := hI.mono (Nat.le_refl _) (by omega); unfold startF; cases ht : s.tasks id with
 | none => exact ⟨hm, rfl, (start_none sb gb nb pb mb nn cv D cbs tb own s id W hS h1 h2 ht).mono (fun e w' ⟨he, hw⟩ => ⟨he, hw ▸ hself⟩)⟩
 | some t =>
  simp only
  by_cases he : (nxt t.state 1).2 = 0
  · rw [if_pos he]; have hT := hI.task id t ht; have hs := (nxt_cases t.state).2.2.1 he; obtain ⟨i, hi, hin, hmi⟩ := leastC_good hI hT.mask; rw [hi, Int.toNat_natCast]; obtain ⟨xs, hx, -⟩ := hI.gs.path t.group; rw [heldY_of hx]; obtain ⟨a, c, d, f, g⟩ := (hI.coT_ ht (.inl hs) hin).enter (act := 1) (i := i) (t := coT t i) hk (setTk_task _ _ _) (xs.any (spentA s)) false rfl hin hmi (by show nxt t.state 1 = _; rw [hs]; rfl) (by show t.state ≠ 2; omega); exact ⟨c, f, (start_ok sb gb nb pb mb nn cv D cbs tb own s id t xs i W hS h1 h2 ht he hT.mask.1 (hI.fitsY hk hb) (by omega) (by omega) hx hi (by omega) a).mono (fun e w' ⟨he, hw⟩ => ⟨by rw [he, a], hw.q⟩)⟩
  · rw [if_neg he]; exact ⟨hm, rfl, (start_err sb gb nb pb mb nn cv D cbs tb own s id t W hS h1 h2 ht he).mono (fun e w' ⟨he, hw⟩ => ⟨he, hw ▸ hself⟩)⟩
theorem sys_wake (h : ∃ gb nb pb mb n cv D tb, SysAt W sb gb nb pb mb n cv D cbs tb own s) (hI : InvY k b n s) (hk : k ≤ 400) (hb : b ≤ 1000000000000000000) (id : Int) (h1 : -9223372036854775808 ≤ id) (h2 : id ≤ 9223372036854775807) :
 InvY k (b + k * 232792560) n (wakeF s id).2 ∧ (wakeF s id).2.gs = s.gs ∧
 Calls Tryz.prog 50 #[.pointer (some ⟨sb, 0, none⟩), .int .i64 id] W fun e w' => e = .returned (.int .i64 (wakeF s id).1) ∧ YQ sb cbs own (wakeF s id).2 W w' := by
 obtain ⟨gb, nb, pb, mb, nn, cv, D, tb, hS⟩ := h; have hn := hS.num; have hl := hI.len; have h8 := hI.n8; have hself : YQ sb cbs own s W W := YQ.below hS (Below.refl _ _); have hm : InvY k (b + k * 232792560) n s := hI.mono (Nat.le_refl _) (by omega); unfold wakeF; cases ht : s.tasks id with
 | none => exact ⟨hm, rfl, (wake_none sb gb nb pb mb nn cv D cbs tb own s id W hS h1 h2 ht).mono (fun e w' ⟨he, hw⟩ => ⟨he, hw ▸ hself⟩)⟩
 | some t =>
  simp only
  by_cases he : (nxt t.state 5).2 = 0
  · rw [if_pos he]; have hT := hI.task id t ht; have hs := (nxt_cases t.state).2.2.2.1 he; obtain ⟨i, hi, hin, hmi⟩ : ∃ i : Nat, wakeC s t = (i : Int) ∧ i < n ∧ hasM t.mask (i : Int) = true := by
     unfold wakeC; split
     · rename_i hh; obtain ⟨i, hi, hin⟩ := hasM_lt hT.mask.1 hT.mask.2 hh; exact ⟨i, hi, hin, by rw [← hi]; exact hh⟩
     · exact leastC_good hI hT.mask
    have hi' := hi; unfold wakeC leastC at hi'; rw [hi, Int.toNat_natCast]; obtain ⟨xs, hx, -⟩ := hI.gs.path t.group; rw [heldY_of hx]; obtain ⟨a, c, d, f, g⟩ := (hI.coT_ ht (.inr hs) hin).enter (act := 5) (i := i) (t := coT t i) hk (setTk_task _ _ _) (xs.any (spentA s)) false rfl hin hmi (by show nxt t.state 5 = _; rw [hs]; rfl) (by show t.state ≠ 2; omega); exact ⟨c, f, (wake_ok sb gb nb pb mb nn cv D cbs tb own s id t xs i W hS h1 h2 ht he hT.mask.1 (hI.fitsY hk hb) (by omega) (by omega) hx hi' (by omega) a).mono (fun e w' ⟨he, hw⟩ => ⟨by rw [he, a], hw.q⟩)⟩
  · rw [if_neg he]; exact ⟨hm, rfl, (wake_err sb gb nb pb mb nn cv D cbs tb own s id t W hS h1 h2 ht he).mono (fun e w' ⟨he, hw⟩ => ⟨he, hw ▸ hself⟩)⟩
theorem sys_sleep (h : ∃ gb nb pb mb n cv D tb, SysAt W sb gb nb pb mb n cv D cbs tb own s) (hI : InvY k b n s) (hk : k ≤ 400) (hb : b ≤ 1000000000000000000) (id : Int) (h1 : -9223372036854775808 ≤ id) (h2 : id ≤ 9223372036854775807) :
 InvY k (b + k * 232792560) n (sleepF s id).2 ∧ (sleepF s id).2.gs = s.gs ∧
 Calls Tryz.prog 49 #[.pointer (some ⟨sb, 0, none⟩), .int .i64 id] W fun e w' => e = .returned (.int .i64 (sleepF s id).1) ∧ YQ sb cbs own (sleepF s id).2 W w' := by
 obtain ⟨gb, nb, pb, mb, nn, cv, D, tb, hS⟩ := h; have hn := hS.num; have hl := hI.len; have hi : ∀ t, s.tasks id = some t → t.state = 2 → t.core = (((match s.tasks id with | none => 0 | some t => t.core.toNat) : Nat) : Int) ∧ (match s.tasks id with | none => 0 | some t => t.core.toNat) < n := fun t ht h2 => by
  obtain ⟨i, hi, hin, -⟩ := hI.at_ ht h2; rw [ht]; simp only
  omega
 unfold sleepF; refine ⟨hI.sleep id _ hi, ?_, (sleep_any sb gb nb pb mb nn cv D cbs tb own s id _ W hS h1 h2 (fun t ht h2 => ⟨(hi t ht h2).1, by rw [hn, hl]; exact (hi t ht h2).2⟩) (hI.fitsY hk hb)).mono (fun e w' ⟨he, hw⟩ => ⟨he, hw.q⟩)⟩; unfold sleepY; split
 · rfl
 · split
   · exact leaveY_else.1
   · rfl
theorem sys_end (h : ∃ gb nb pb mb n cv D tb, SysAt W sb gb nb pb mb n cv D cbs tb own s) (hI : InvY k b n s) (hk : k ≤ 400) (hb : b ≤ 1000000000000000000) (id : Int) (h1 : -9223372036854775808 ≤ id) (h2 : id ≤ 9223372036854775807) :
 InvY k (b + k * 232792560) n (endF s id).2 ∧ (endF s id).2.gs = s.gs ∧
 Calls Tryz.prog 51 #[.pointer (some ⟨sb, 0, none⟩), .int .i64 id] W fun e w' => e = .returned (.int .i64 (endF s id).1) ∧ YQ sb cbs own (endF s id).2 W w' := by
 obtain ⟨gb, nb, pb, mb, nn, cv, D, tb, hS⟩ := h; have hn := hS.num; have hl := hI.len; have hself : YQ sb cbs own s W W := YQ.below hS (Below.refl _ _); have hm : InvY k (b + k * 232792560) n s := hI.mono (Nat.le_refl _) (by omega); unfold endF; cases ht : s.tasks id with
 | none => exact ⟨hm, rfl, (end_none sb gb nb pb mb nn cv D cbs tb own s id W hS h1 h2 ht).mono (fun e w' ⟨he, hw⟩ => ⟨he, hw ▸ hself⟩)⟩
 | some t =>
  simp only
  have hi : t.state = 2 → t.core = ((t.core.toNat : Nat) : Int) ∧ t.core.toNat < n := fun h2 => by
   obtain ⟨i, hi, hin, -⟩ := hI.at_ ht h2; omega
  by_cases he : (nxt t.state 8).2 = 0
  · rw [if_pos he]; exact ⟨hI.end_ ht hi, rfl, (end_ok sb cbs own s id t t.core.toNat W ⟨gb, nb, pb, mb, nn, cv, D, tb, hS⟩ h1 h2 ht he (fun hh => ⟨(hi hh).1, by rw [hn, hl]; exact (hi hh).2⟩) (hI.fitsY hk hb) ⟨by rw [hI.pslen]; exact Nat.le_refl _, fun j hj => by
     have := hI.psat j (by rw [← hI.pslen]; exact hj); omega⟩ (hI.hasK ((hI.names id).1 (by rw [ht]; simp))).1)⟩
  · rw [if_neg he]; exact ⟨hm, rfl, (end_err sb gb nb pb mb nn cv D cbs tb own s id t W hS h1 h2 ht he).mono (fun e w' ⟨he, hw⟩ => ⟨he, hw ▸ hself⟩)⟩
theorem sys_weigh (h : ∃ gb nb pb mb n cv D tb, SysAt W sb gb nb pb mb n cv D cbs tb own s) (hI : InvY k b n s) (hk : k ≤ 400) (hb : b ≤ 1000000000000000000) (id w : Int) (h1 : -9223372036854775808 ≤ id) (h2 : id ≤ 9223372036854775807) :
 InvY k (b + k * 232792560) n (weighF s id w).2 ∧ (weighF s id w).2.gs = s.gs ∧
 Calls Tryz.prog 52 #[.pointer (some ⟨sb, 0, none⟩), .int .i64 id, .int .i64 w] W fun e w' => e = .returned (.int .i64 (weighF s id w).1) ∧ YQ sb cbs own (weighF s id w).2 W w' := by
 obtain ⟨gb, nb, pb, mb, nn, cv, D, tb, hS⟩ := h; have hn := hS.num; have hl := hI.len; have hself : YQ sb cbs own s W W := YQ.below hS (Below.refl _ _); have hm : InvY k (b + k * 232792560) n s := hI.mono (Nat.le_refl _) (by omega); unfold weighF; cases ht : s.tasks id with
 | none => exact ⟨hm, rfl, (weigh_none sb gb nb pb mb nn cv D cbs tb own s id w W hS h1 h2 ht).mono (fun e w' ⟨he, hw⟩ => ⟨he, hw ▸ hself⟩)⟩
 | some t =>
  simp only
  have hT := hI.task id t ht; by_cases hw : goodW w = false
  · rw [if_pos hw]; exact ⟨hm, rfl, (weigh_bad sb gb nb pb mb nn cv D cbs tb own s id w t W hS h1 h2 ht hw).mono (fun e w' ⟨he, hw⟩ => ⟨he, hw ▸ hself⟩)⟩
  · rw [if_neg hw]; have hw' : goodW w = true := by simpa using hw
    have hw20 : 1 ≤ w ∧ w ≤ 20 := by
     unfold goodW at hw'; simp only [Bool.and_eq_true, decide_eq_true_eq] at hw'; exact hw'
    by_cases h5 : t.state = 2
    · rw [if_pos h5]; obtain ⟨i, hi, hin, -⟩ := hI.at_ ht h5; rw [show t.core.toNat = i from by omega]; obtain ⟨a, c⟩ := hI.weigh ht h5 hi hin hw20; exact ⟨c, rfl, (weigh_ok sb gb nb pb mb nn cv D cbs tb own s id w t i W hS h1 h2 ht hw' h5 hi (by omega) (hI.fitsY hk hb) a).mono (fun e w' ⟨he, hw⟩ => ⟨he, hw.q⟩)⟩
    · rw [if_neg h5]; exact ⟨(hI.setK ht (t' := wT t w) ⟨hT.id, hw20, hT.mask, hT.st, hT.core, hT.has, hT.lag, hT.grp⟩ (.inl ⟨h5, h5⟩)).mono (Nat.le_refl _) (by omega), rfl, (weigh_off sb gb nb pb mb nn cv D cbs tb own s id w t W hS h1 h2 ht hw' h5).mono (fun e w' ⟨he, hw⟩ => ⟨he, hw.q⟩)⟩
theorem sys_move (h : ∃ gb nb pb mb n cv D tb, SysAt W sb gb nb pb mb n cv D cbs tb own s) (hI : InvY k b n s) (hk : k ≤ 400) (hb : b ≤ 1000000000000000000) (id tg : Int) (h1 : -9223372036854775808 ≤ id) (h2 : id ≤ 9223372036854775807) :
 InvY k (b + k * 232792560 + k * 232792560) n (moveF s id tg).2 ∧ (moveF s id tg).2.gs = s.gs ∧
 Calls Tryz.prog 54 #[.pointer (some ⟨sb, 0, none⟩), .int .i64 id, .int .i64 tg] W fun e w' => e = .returned (.int .i64 (moveF s id tg).1) ∧ YQ sb cbs own (moveF s id tg).2 W w' := by
 obtain ⟨gb, nb, pb, mb, nn, cv, D, tb, hS⟩ := h; have hn := hS.num; have hl := hI.len; have hself : YQ sb cbs own s W W := YQ.below hS (Below.refl _ _); have hm : InvY k (b + k * 232792560 + k * 232792560) n s := hI.mono (Nat.le_refl _) (by omega); unfold moveF; cases ht : s.tasks id with
 | none => exact ⟨hm, rfl, (move_none sb gb nb pb mb nn cv D cbs tb own s id tg W hS h1 h2 ht).mono (fun e w' ⟨he, hw⟩ => ⟨he, hw ▸ hself⟩)⟩
 | some t =>
  simp only
  have hT := hI.task id t ht; by_cases hs : onT t = false ∨ hasM t.mask tg = false ∨ tg = t.core
  · rw [if_pos hs]; exact ⟨hm, rfl, (move_stay sb gb nb pb mb nn cv D cbs tb own s id tg t W hS h1 h2 ht hT.mask.1 hs).mono (fun e w' ⟨he, hw⟩ => ⟨he, hw ▸ hself⟩)⟩
  · rw [if_neg hs]; have hh : hasM t.mask tg = true := by
     by_cases e : hasM t.mask tg = true
     · exact e
     · exact absurd (.inr (.inl (by simpa using e))) hs
    have hne : tg ≠ t.core := fun e => hs (.inr (.inr e)); obtain ⟨j, rfl, hj⟩ := hasM_lt hT.mask.1 hT.mask.2 hh; by_cases h5 : t.state = 5
    · rw [if_pos h5]; exact ⟨(hI.setK ht (t' := coT t (j : Int)) ⟨hT.id, hT.w, hT.mask, hT.st, fun _ => ⟨j, rfl, hj⟩, fun _ => hh, hT.lag, hT.grp⟩ (.inl ⟨by omega, by show t.state ≠ 2; omega⟩)).mono (Nat.le_refl _) (by omega), rfl, (move_held sb gb nb pb mb nn cv D cbs tb own s id j t W hS h1 h2 ht hT.mask.1 h5 hh hne).mono (fun e w' ⟨he, hw⟩ => ⟨he, hw.q⟩)⟩
    · rw [if_neg h5]; have h2' : t.state = 2 := by
       by_cases e : onT t = false
       · exact absurd (.inl e) hs
       · rcases hT.st with hs1 | hs1 | hs1 | hs1
         · unfold onT at e; rw [hs1] at e; exact absurd rfl e
         · exact hs1
         · unfold onT at e; rw [hs1] at e; exact absurd rfl e
         · exact absurd hs1 h5
      obtain ⟨i, hi, hin, -⟩ := hI.at_ ht h2'; rw [show t.core.toNat = i from by omega, Int.toNat_natCast]; obtain ⟨a, c⟩ := hI.moveG hk ht h2' hi hin hj t.mask hT.mask hh; have hmt : maskT t t.mask = t := rfl; rw [hmt, setTk_self ht] at a c; exact ⟨c, leaveY_else.1, (move_ok sb gb nb pb mb nn cv D cbs tb own s id t i j W hS h1 h2 ht hT.mask.1 h2' hh hi (fun e => hne (by rw [hi, e])) (by omega) (by omega) (hI.fitsY hk hb) a).mono (fun e w' ⟨he, hw⟩ => ⟨he, hw.q⟩)⟩
theorem sys_bind (h : ∃ gb nb pb mb n cv D tb, SysAt W sb gb nb pb mb n cv D cbs tb own s) (hI : InvY k b n s) (hk : k ≤ 400) (hb : b ≤ 1000000000000000000) (id m : Int) (h1 : -9223372036854775808 ≤ id) (h2 : id ≤ 9223372036854775807) (hm : 0 ≤ m ∧ m < 65536) :
 InvY k (b + k * 232792560 + k * 232792560) n (bindF s id m).2 ∧ (bindF s id m).2.gs = s.gs ∧
 Calls Tryz.prog 53 #[.pointer (some ⟨sb, 0, none⟩), .int .i64 id, .int .u16 m] W fun e w' => e = .returned (.int .i64 (bindF s id m).1) ∧ YQ sb cbs own (bindF s id m).2 W w' := by
 obtain ⟨gb, nb, pb, mb, nn, cv, D, tb, hS⟩ := h; have hn := hS.num; have hl := hI.len; have h8 := hI.n8; have hself : YQ sb cbs own s W W := YQ.below hS (Below.refl _ _); have hmn : InvY k (b + k * 232792560 + k * 232792560) n s := hI.mono (Nat.le_refl _) (by omega); unfold bindF; cases ht : s.tasks id with
 | none => exact ⟨hmn, rfl, (bind_none sb gb nb pb mb nn cv D cbs tb own s id m W hS h1 h2 ht).mono (fun e w' ⟨he, hw⟩ => ⟨he, hw ▸ hself⟩)⟩
 | some t =>
  simp only
  have hT := hI.task id t ht; by_cases hg : goodM m s.cores.length = false
  · rw [if_pos hg]; exact ⟨hmn, rfl, (bind_bad sb gb nb pb mb nn cv D cbs tb own s id m t W hS h1 h2 ht hm (by omega) (by rw [hn]; exact hg)).mono (fun e w' ⟨he, hw⟩ => ⟨he, hw ▸ hself⟩)⟩
  · rw [if_neg hg]; have hg' : goodM m s.cores.length = true := by simpa using hg
    have hgn : goodM m n = true := by rw [← hl]; exact hg'
    by_cases hs : onT t = false ∨ hasM m t.core = true
    · rw [if_pos hs]; refine ⟨(hI.setK ht (t' := maskT t m) ⟨hT.id, hT.w, ⟨hm, hgn⟩, hT.st, hT.core, fun hh => ?_, hT.lag, hT.grp⟩ (.inr ⟨rfl, rfl, rfl⟩)).mono (Nat.le_refl _) (by omega), rfl, (bind_stay sb gb nb pb mb nn cv D cbs tb own s id m t W hS h1 h2 ht hm (by omega) (by rw [hn]; exact hg') hs).mono (fun e w' ⟨he, hw⟩ => ⟨he, hw.q⟩)⟩; rcases hs with hs | hs
      · replace hh : t.state = 2 ∨ t.state = 5 := hh; unfold onT at hs; rcases hh with hh | hh <;> rw [hh] at hs <;> exact absurd hs (by decide)
      · exact hs
    · rw [if_neg hs]; have ho : onT t = true := by
       by_cases e : onT t = true
       · exact e
       · exact absurd (.inl (by simpa using e)) hs
      have hh : hasM m t.core = false := by
       by_cases e : hasM m t.core = true
       · exact absurd (.inr e) hs
       · simpa using e
      obtain ⟨j, hj, hjn, hmj⟩ := leastC_good hI ⟨hm, hgn⟩; have hj' := hj; unfold leastC at hj'; have hjne : (j : Int) ≠ t.core := fun e => by rw [← e, hmj] at hh; cases hh
      have hf1 : FitsY (setTk s id (maskT t m)) := hI.fitsY hk hb; by_cases h5 : t.state = 5
      · rw [if_pos h5, hj]; refine ⟨?_, rfl, (bind_move sb gb nb pb mb nn cv D cbs tb own s id m t j _ W hS h1 h2 ht hm (by omega) (by omega) (hI.fitsY hk hb) (by rw [hn]; exact hg') ho hh hj' (fun W1 hS1 => move_held sb gb nb pb mb nn cv D cbs tb own _ id j (maskT t m) W1 hS1 h1 h2 (setTk_task _ _ _) hm h5 hmj hjne)).mono (fun e w' ⟨he, hw⟩ => ⟨he, hw.q⟩)⟩; rw [setTk_setTk]; exact (hI.setK ht (t' := coT (maskT t m) (j : Int)) ⟨hT.id, hT.w, ⟨hm, hgn⟩, hT.st, fun _ => ⟨j, rfl, hjn⟩, fun _ => hmj, hT.lag, hT.grp⟩ (.inl ⟨by omega, by show t.state ≠ 2; omega⟩)).mono (Nat.le_refl _) (by omega)
      · rw [if_neg h5]; have h2' : t.state = 2 := by
         rcases hT.st with hs1 | hs1 | hs1 | hs1
         · unfold onT at ho; rw [hs1] at ho; exact absurd ho (by decide)
         · exact hs1
         · unfold onT at ho; rw [hs1] at ho; exact absurd ho (by decide)
         · exact absurd hs1 h5
        obtain ⟨i, hi, hin, -⟩ := hI.at_ ht h2'; rw [show t.core.toNat = i from by omega, hj, Int.toNat_natCast]; obtain ⟨a, c⟩ := hI.moveG hk ht h2' hi hin hjn m ⟨hm, hgn⟩ hmj; refine ⟨c, leaveY_else.1, (bind_move sb gb nb pb mb nn cv D cbs tb own s id m t j _ W hS h1 h2 ht hm (by omega) (by omega) (hI.fitsY hk hb) (by rw [hn]; exact hg') ho hh hj' (fun W1 hS1 => move_ok sb gb nb pb mb nn cv D cbs tb own _ id (maskT t m) i j W1 hS1 h1 h2 (setTk_task _ _ _) hm h2' hmj hi (fun e => hjne (by rw [hi, e])) (by omega) (by omega) hf1 a)).mono (fun e w' ⟨he, hw⟩ => ⟨he, hw.q⟩)⟩
end
theorem hasG_set {gs : List (Bool × Int)} {j : Nat} (hl : gs.length = 16) (hj : j < 16) (up g : Int) : hasG (gs.set j (true, up)) g = (decide (g = (j : Int)) || hasG gs g) := by
 unfold hasG; rw [getD_setG _ _ _ _ (by rw [hl]; exact hj)]; by_cases e : g = (j : Int)
 · subst e; simp
   omega
 · by_cases h0 : 0 ≤ g
   · rw [if_neg (by omega)]; simp [e]
   · simp [h0, e]
theorem upG_set {gs : List (Bool × Int)} {j : Nat} (hl : gs.length = 16) (hj : j < 16) (up g : Int) (h0 : 0 ≤ g) : upG (gs.set j (true, up)) g = if g = (j : Int) then up else upG gs g := by
 unfold upG; rw [getD_setG _ _ _ _ (by rw [hl]; exact hj)]; by_cases e : g = (j : Int)
 · subst e; simp
 · rw [if_neg (by omega), if_neg e]
theorem hasG_nn {gs : List (Bool × Int)} {g : Int} (h : hasG gs g = true) : 0 ≤ g ∧ g < 16 := by
 unfold hasG at h; simp only [Bool.and_eq_true, decide_eq_true_eq] at h; exact ⟨h.1, h.2.1⟩
theorem path_set {gs : List (Bool × Int)} {j : Nat} {up : Int} (hl : gs.length = 16) (hj : j < 16) (hf : hasG gs j = false) (hups : ∀ g : Int, hasG gs g = true → upG gs g = -1 ∨ hasG gs (upG gs g) = true) :
 ∀ (xs : List G16) (g : Int), IsPath gs g xs → g ≠ (j : Int) → IsPath (gs.set j (true, up)) g xs
 | [], g, h, hne => by
  show hasG _ g = false; rw [hasG_set hl hj]; replace h : hasG gs g = false := h; simp [hne, h]
 | x :: xs, g, ⟨h1, h2, h3⟩, hne => by
  refine ⟨h1, by rw [hasG_set hl hj, h2]; simp, ?_⟩; rw [upG_set hl hj up g (hasG_nn h2).1, if_neg hne]; refine path_set hl hj hf hups xs _ h3 ?_; rcases hups g h2 with e | e
  · rw [e]; omega
  · intro e2; rw [e2, hf] at e; cases e
theorem gaddP_hit {gs : List (Bool × Int)} {up : Int} (h : (gaddP gs up).2.1 = 0) : ∃ j, j < gs.length ∧ (gs.getD j default).1 = false ∧ gaddP gs up = ((j : Int), 0, gs.set j (true, up)) := by
 unfold gaddP at h ⊢; cases hf : gs.findIdx? (fun p => !p.1) with
 | some i =>
  obtain ⟨hi, hp, -⟩ := List.findIdx?_eq_some_iff_getElem.1 hf; refine ⟨i, hi, ?_, rfl⟩; rw [List.getD_eq_getElem?_getD, List.getElem?_eq_getElem hi]; simpa using hp
 | none => rw [hf] at h; simp at h
theorem GsOk.add {gs : List (Bool × Int)} (h : GsOk gs) {up : Int} {xs : List G16} (hx : IsPath gs up xs) (h0 : (gaddS gs up xs.length).2.1 = 0) :
 ∃ j : Nat, j < 16 ∧ hasG gs j = false ∧ (gaddS gs up xs.length).1 = (j : Int) ∧ (gaddS gs up xs.length).2.2 = gs.set j (true, up) ∧ GsOk (gs.set j (true, up)) := by
 unfold gaddS at h0 ⊢; by_cases hu : hasG gs up = true
 · rw [if_pos hu] at h0 ⊢; by_cases h4 : 4 ≤ xs.length
   · rw [if_pos h4] at h0; simp at h0
   · rw [if_neg h4] at h0 ⊢; obtain ⟨j, hj, hf, e⟩ := gaddP_hit h0; rw [h.len] at hj; have hfj : hasG gs (j : Int) = false := by
      unfold hasG; rw [Int.toNat_natCast, hf]; simp
     rw [e]; refine ⟨j, hj, hfj, rfl, rfl, by rw [List.length_set]; exact h.len, fun g => ?_, fun g hg => ?_⟩
     · by_cases e : g = (j : Int)
       · subst e; refine ⟨⟨(j : Int), by omega, by omega⟩ :: xs, ⟨rfl, by rw [hasG_set h.len hj]; simp, ?_⟩, by simp; omega⟩; rw [upG_set h.len hj up _ (by omega), if_pos rfl]; exact path_set h.len hj hfj h.ups xs up hx (fun e => by rw [e, hfj] at hu; cases hu)
       · obtain ⟨ys, hy, hy4⟩ := h.path g; exact ⟨ys, path_set h.len hj hfj h.ups ys g hy e, hy4⟩
     · have hg0 := hasG_nn hg; rw [upG_set h.len hj up g hg0.1]; rw [hasG_set h.len hj] at hg; by_cases e : g = (j : Int)
       · rw [if_pos e]; right
         rw [hasG_set h.len hj, hu]; simp
       · rw [if_neg e]; have hg' : hasG gs g = true := by simpa [e] using hg
         rcases h.ups g hg' with e | e
         · exact .inl e
         · right; rw [hasG_set h.len hj, e]; simp
 · rw [if_neg hu] at h0; simp at h0
theorem InvY.group {k : Nat} {b : Int} {n : Nat} {s : Sy} (h : InvY k b n s) {up q p : Int} {xs : List G16} (hx : IsPath s.gs up xs) :
 InvY k b n (groupY s up q p xs.length).2.2 ∧ ((groupY s up q p xs.length).2.1 ≠ 0 → (groupY s up q p xs.length).2.2 = s) ∧ ((groupY s up q p xs.length).2.1 = 0 → ∃ j : Nat, j < 16 ∧ hasG s.gs j = false ∧ (groupY s up q p xs.length).2.2.gs = s.gs.set j (true, up)) := by
 unfold groupY; by_cases h1 : (newP q p).2 ≠ 0
 · rw [if_pos h1]; exact ⟨h, fun _ => rfl, fun e => absurd e h1⟩
 · rw [if_neg h1]; by_cases h2 : (gaddS s.gs up xs.length).2.1 ≠ 0
   · rw [if_pos h2]; exact ⟨h, fun _ => rfl, fun e => absurd e h2⟩
   · rw [if_neg h2]; obtain ⟨j, hj, hf, e1, e2, hG⟩ := h.gs.add hx (by simpa using h2); rw [e1, e2]; refine ⟨⟨h.n8, h.len, h.line, h.srv, hG, ⟨by show (s.acc.set _ _).length = 16; rw [List.length_set]; exact h.acc.1, fun i hi => ?_⟩, h.pslen, h.psat, h.names, fun x t ht => ?_, h.on, h.cnt⟩, fun e => absurd rfl e, fun _ => ⟨j, hj, hf, rfl⟩⟩
     · show FreeA ((s.acc.set _ _).getD i default).1 _ _ _ ∨ _; simp only [setAcc, setG]; rw [Int.toNat_natCast, getD_set_acc _ _ _ _ (by rw [h.acc.1]; exact hj)]; split
       · have hb : goodB q p q 0 = true := by
          by_cases e : goodB q p q 0 = true
          · exact e
          · exfalso; apply h1; unfold newP; rw [if_neg e]; decide
         unfold newP; rw [if_pos hb]; unfold goodB at hb; exact of_decide_eq_true hb
       · exact h.acc.2 i hi
     · have hT := h.task x t ht; exact ⟨hT.id, hT.w, hT.mask, hT.st, hT.core, hT.has, hT.lag, by show hasG (s.gs.set j (true, up)) t.group = true; rw [hasG_set h.gs.len hj, hT.grp]; simp⟩
def spawnF (s : Sy) (w m g : Int) : Int × Int × Sy :=
 if goodW w = false then (0, 1, s) else if goodM m s.cores.length = false then (0, 5, s) else if hasG s.gs g = false then (0, 2, s)
 else if (takeP s.ps).2.1 = 0 then ((takeP s.ps).1, 0, ⟨s.cores, s.gs, s.acc, (takeP s.ps).2.2, fun x => if x = (takeP s.ps).1 then some (newTk (takeP s.ps).1 w m g) else s.tasks x, s.cnt + 1⟩) else (0, 3, s)
def RunR (s : Sy) (z x y : Int) (s' : Sy) : Prop :=
 ((z < 0 ∨ (s.cores.length : Int) ≤ z) ∧ x = 0 ∧ y = 2 ∧ s' = s) ∨
 (∃ i : Nat, z = (i : Int) ∧ i < s.cores.length ∧ y = 0 ∧ ∃ c', (x = -1 ∧ coreRun s.cores[i]! = (-1, 0, c') ∧ s' = setCo s i c') ∨
   (∃ (t : Tk) (xs : List G16) (ids : List Int), coreRun s.cores[i]! = (x, 0, c') ∧ s.tasks x = some t ∧ IsPath s.gs t.group xs ∧ ids.Perm (listP s.ps) ∧ ids.Pairwise (fun a b => ¬ b < a) ∧ s' = ids.foldl holdS (setAcc (setCo s i c') (xs.foldl useA s.acc))))
def TickR (s : Sy) (N y : Int) (s' : Sy) : Prop :=
 (N < 0 ∧ y = 1 ∧ s' = s) ∨ (0 ≤ N ∧ y = 0 ∧ ∃ ids : List Int, ids.Perm (listP s.ps) ∧ ids.Pairwise (fun a b => ¬ b < a) ∧ s' = ids.foldl tickS (setAcc s ((allTo s.gs 16).foldl (tkA N) s.acc)))
def EvenR (s : Sy) (x : Int) (ok : Bool) (s' : Sy) : Prop :=
 ∃ ids : List Int, ids.Perm (listP s.ps) ∧ ids.Pairwise (fun a b => ¬ b < a) ∧ ((ok = false ∧ (lmvL (loadsY s) (evL s ids)).2.2 = false ∧ s' = s) ∨
  (ok = true ∧ (lmvL (loadsY s) (evL s ids)).2.2 = true ∧ x = (lmvL (loadsY s) (evL s ids)).1 ∧ s' = (moveF s x (lmvL (loadsY s) (evL s ids)).2.1).2))
theorem InvY.sized {k : Nat} {b : Int} {n : Nat} {s : Sy} (h : InvY k b n s) (hk : k ≤ 400) : Sized s.ps :=
 ⟨by rw [h.pslen]; exact Nat.le_refl _, fun j hj => by have := h.psat j (by rw [← h.pslen]; exact hj); omega⟩
theorem InvY.dom {k : Nat} {b : Int} {n : Nat} {s : Sy} (h : InvY k b n s) (hk : k ≤ 400) : DomY s := fun x hx => by
 obtain ⟨t, xs, ht, -⟩ := h.some_ hx; have := h.idle ht; exact ⟨by omega, t, ht, (h.task x t ht).id⟩
theorem AccOk.tick {N : Int} {acc : List Acc4} (h : AccOk acc) (g : Int) (hg : 0 ≤ g ∧ g < 16) : AccOk (tkA N acc g) := by
 refine ⟨(tkA_len N acc g).trans h.1, fun i hi => ?_⟩; unfold tkA; rw [getD_set_acc _ _ _ _ (by rw [h.1]; omega)]; split
 · rename_i e; have := h.2 g.toNat (by omega); revert this
   generalize (acc.getD g.toNat default).1 = q; generalize (acc.getD g.toNat default).2.1 = p; generalize (acc.getD g.toNat default).2.2.1 = l; generalize (acc.getD g.toNat default).2.2.2 = f; intro this; unfold tickP; by_cases hh : FullA q p l f ∧ 0 < N
   · rw [if_pos hh]; right
     obtain ⟨⟨a1, a2, a3, a4, a5, a6, a7, a8⟩, -⟩ := hh; have hm := Int.emod_nonneg (f + N % p) (show p ≠ 0 by omega); have hm2 := Int.emod_lt_of_pos (f + N % p) (show 0 < p by omega); split
     · exact ⟨a1, a2, a3, a4, by simp only; omega, by simp only; omega, hm, hm2⟩
     · exact ⟨a1, a2, a3, a4, a5, a6, hm, hm2⟩
   · rw [if_neg hh]; exact this
 · exact h.2 i hi
theorem AccOk.ticks {N : Int} : ∀ (ids : List Int) (acc : List Acc4), AccOk acc → (∀ g ∈ ids, 0 ≤ g ∧ g < 16) → AccOk (ids.foldl (tkA N) acc)
 | [], acc, h, _ => h
 | g :: ids, acc, h, hg => AccOk.ticks ids _ (h.tick g (hg g List.mem_cons_self)) (fun x hx => hg x (List.mem_cons_of_mem _ hx))
theorem AccOk.uses : ∀ (xs : List G16) (acc : List Acc4), AccOk acc → AccOk (xs.foldl useA acc)
 | [], acc, h => h
 | x :: xs, acc, h => AccOk.uses xs _ (h.use x)
theorem holds_gs : ∀ (ids : List Int) (s : Sy), (ids.foldl holdS s).gs = s.gs
 | [], s => rfl
 | id :: ids, s => (holds_gs ids _).trans (holdS_same s id).2.1
section
variable {k n : Nat} {b : Int} {s : Sy} {sb : Nat} {cbs : List Nat} {own : Nat → Option Own} {W : World}
theorem sys_spawn (h : ∃ gb nb pb mb n cv D tb, SysAt W sb gb nb pb mb n cv D cbs tb own s) (hI : InvY k b n s) (hk : k ≤ 400) (w m g : Int) (hm : 0 ≤ m ∧ m < 65536) :
 InvY (k + 1) b n (spawnF s w m g).2.2 ∧ (spawnF s w m g).2.2.gs = s.gs ∧
 Calls Tryz.prog 47 #[.pointer (some ⟨sb, 0, none⟩), .int .i64 w, .int .u16 m, .int .i64 g] W fun e w' => e = .returned (.tuple #[.int .i64 (spawnF s w m g).1, .int .i64 (spawnF s w m g).2.1]) ∧ YQ sb cbs own (spawnF s w m g).2.2 W w' := by
 have hmn : InvY (k + 1) b n s := hI.mono (Nat.le_succ k) (Int.le_refl b); unfold spawnF; by_cases hw : goodW w = false
 · rw [if_pos hw]; exact ⟨hmn, rfl, spawn_bad sb cbs own s w m g W h hw⟩
 · rw [if_neg hw]; have hw' : goodW w = true := by simpa using hw
   by_cases hg : goodM m s.cores.length = false
   · rw [if_pos hg]; exact ⟨hmn, rfl, spawn_mask sb cbs own s w m g W h hw' hm hg⟩
   · rw [if_neg hg]; have hg' : goodM m s.cores.length = true := by simpa using hg
     by_cases hh : hasG s.gs g = false
     · rw [if_pos hh]; exact ⟨hmn, rfl, spawn_group sb cbs own s w m g W h hw' hm hg' hh⟩
     · rw [if_neg hh]; have hh' : hasG s.gs g = true := by simpa using hh
       obtain ⟨xs, hx, hx4⟩ := hI.gs.path g; have hxn : xs ≠ [] := fun e => by
        subst e; replace hx : hasG s.gs g = false := hx; rw [hh'] at hx; cases hx
       by_cases ht : (takeP s.ps).2.1 = 0
       · rw [if_pos ht]; have hw20 : 1 ≤ w ∧ w ≤ 20 := by
          unfold goodW at hw'; simp only [Bool.and_eq_true, decide_eq_true_eq] at hw'; exact hw'
         obtain ⟨p1, p2, p3⟩ := hI.spawn hk ht hw20 ⟨hm, by rw [← hI.len]; exact hg'⟩ hh'; have htp : takeP s.ps = ((takeP s.ps).1, 0, (takeP s.ps).2.2) := by rw [← ht]
         exact ⟨p3, rfl, spawn_any_ok sb cbs own s w m g _ _ W h hw' hm hg' xs hx hxn (by omega) (hI.sized hk) htp (by omega) p2 (by have := hI.cnt; omega)⟩
       · rw [if_neg ht]; exact ⟨hmn, rfl, spawn_full sb cbs own s w m g W h hw' hm hg' xs hx hxn (by omega) (hI.sized hk) ht⟩
theorem sys_run (h : ∃ gb nb pb mb n cv D tb, SysAt W sb gb nb pb mb n cv D cbs tb own s) (hI : InvY k b n s) (hk : k ≤ 300) (hb : b ≤ 900000000000000000) (z : Int) :
 Calls Tryz.prog 55 #[.pointer (some ⟨sb, 0, none⟩), .int .i64 z] W fun e w' => ∃ x y s', e = .returned (.tuple #[.int .i64 x, .int .i64 y]) ∧ RunR s z x y s' ∧ YQ sb cbs own s' W w' ∧ InvY (k + 1) (b + 10000000000000) n s' ∧ s'.gs = s.gs := by
 obtain ⟨gb, nb, pb, mb, nn, cv, D, tb, hS⟩ := h; have hn := hS.num; have hl := hI.len; by_cases hz : z < 0 ∨ (s.cores.length : Int) ≤ z
 · exact (run_nocore sb gb nb pb mb nn cv D cbs tb own s z W hS (by rw [hn]; exact hz)).mono (fun e w' ⟨he, hY⟩ => ⟨0, 2, s, he, .inl ⟨hz, rfl, rfl, rfl⟩, hY.q, hI.mono (Nat.le_succ k) (by omega), rfl⟩)
 · obtain ⟨i, rfl⟩ := Int.eq_ofNat_of_zero_le (show 0 ≤ z by omega); have hi : i < n := by omega
   have hln := hI.line i hi; have hfit := hI.fitsY (by omega) (by omega) i (by omega); have hsrv := hI.srv i hi; obtain ⟨c', hI', hc⟩ := hI.run1 (by omega) (by omega) hi; rcases hc with hc | ⟨id, t, hc, ht, h2, h3⟩
   · have hno : s.tasks (-1) = none := by
      by_cases e : s.tasks (-1) = none
      · exact e
      · obtain ⟨t, ht⟩ := Option.ne_none_iff_exists'.1 e; have := hI.idle ht; omega
     exact (run_idle sb gb nb pb mb nn cv D cbs tb own s i c' W hS (by omega) hfit hln.nn (by omega) hc hno).mono (fun e w' ⟨he, hY⟩ => ⟨-1, 0, _, he, .inr ⟨i, rfl, by omega, rfl, c', .inl ⟨rfl, hc, rfl⟩⟩, hY.q, hI'.mono (Nat.le_refl _) (by omega), rfl⟩)
   · obtain ⟨xs, hx, -⟩ := hI.gs.path t.group; have hA : InvY (k + 1) (b + (k + 1 : Nat) * 232792560) n (setAcc (setCo s i c') (xs.foldl useA s.acc)) := hI'.accs (AccOk.uses xs _ hI.acc); have hks := kS (k + 1) (by omega); have hfold : ∀ ids : List Int, ids.Perm (listP s.ps) → HoldOk (setAcc (setCo s i c') (xs.foldl useA s.acc)) ids ∧ InvY (k + 1) (b + 10000000000000) n (ids.foldl holdS (setAcc (setCo s i c') (xs.foldl useA s.acc))) := fun ids hp => by
      obtain ⟨q1, q2⟩ := hI.perm hp; have hm : (ids.length : Int) * (((k + 1 : Nat) : Int) * 232792560) ≤ 64 * 100000000000 := Int.mul_le_mul (by omega) hks.1 hks.2 (by omega); obtain ⟨r1, r2⟩ := InvY.holds (by omega) ids _ _ hA (by omega) q2; exact ⟨r1, r2.mono (Nat.le_refl _) (by omega)⟩
     have hidle := hI.idle ht; refine (run_task sb gb nb pb mb nn cv D cbs tb own s i id c' t xs W hS (by omega) hfit hln.nn (by omega) hc (by omega) ht hx hI.acc (hI.sized (by omega)) (hI.dom (by omega)) (fun ids hp => (hfold ids hp).1)).mono ?_; rintro e w' ⟨he, ids, hp, hso, hY⟩; exact ⟨id, 0, _, he, .inr ⟨i, rfl, by omega, rfl, c', .inr ⟨t, xs, ids, hc, ht, hx, hp, hso, rfl⟩⟩, hY.q, (hfold ids hp).2, holds_gs _ _⟩
theorem sys_tick (h : ∃ gb nb pb mb n cv D tb, SysAt W sb gb nb pb mb n cv D cbs tb own s) (hI : InvY k b n s) (hk : k ≤ 300) (hb : b ≤ 900000000000000000) (N : Int) (hN : N ≤ 9223372036854775807) :
 Calls Tryz.prog 56 #[.pointer (some ⟨sb, 0, none⟩), .int .i64 N] W fun e w' => ∃ y s', e = .returned (.int .i64 y) ∧ TickR s N y s' ∧ YQ sb cbs own s' W w' ∧ InvY k (b + 10000000000000) n s' ∧ s'.gs = s.gs := by
 by_cases h0 : N < 0
 · obtain ⟨gb, nb, pb, mb, nn, cv, D, tb, hS⟩ := h; exact (tick_neg sb N W h0).mono (fun e w' ⟨he, hw⟩ => ⟨1, s, he, .inl ⟨h0, rfl, rfl⟩, hw ▸ YQ.below hS (Below.refl _ _), hI.mono (Nat.le_refl _) (by omega), rfl⟩)
 · have hall : ∀ g ∈ allTo s.gs 16, 0 ≤ g ∧ g < 16 := fun g hg => by
    have := allTo_mem (k := 16) hg; omega
   have htk := tick_ok sb cbs own s N W h; unfold TickR; generalize allTo s.gs 16 = gl at hall htk ⊢; have hA : InvY k b n (setAcc s (gl.foldl (tkA N) s.acc)) := hI.accs (AccOk.ticks gl s.acc hI.acc hall); have hks := kS k (by omega); have hfold : ∀ ids : List Int, ids.Perm (listP s.ps) → TickOk (setAcc s (gl.foldl (tkA N) s.acc)) ids ∧ InvY k (b + 10000000000000) n (ids.foldl tickS (setAcc s (gl.foldl (tkA N) s.acc))) ∧ (ids.foldl tickS (setAcc s (gl.foldl (tkA N) s.acc))).gs = s.gs := fun ids hp => by
    obtain ⟨q1, q2⟩ := hI.perm hp; have hm : (ids.length : Int) * ((k : Int) * 232792560) ≤ 64 * 100000000000 := Int.mul_le_mul (by omega) hks.1 hks.2 (by omega); obtain ⟨r1, r2, r3⟩ := InvY.ticks (by omega) ids _ _ hA (by omega) q2; exact ⟨r1, r2.mono (Nat.le_refl _) (by omega), r3⟩
   refine (htk ⟨by omega, hN⟩ hI.acc.1 (hI.sized (by omega)) (hI.dom (by omega)) (fun ids hp => (hfold ids hp).1)).mono ?_; rintro e w' ⟨he, ids, hp, hso, hY⟩; exact ⟨0, _, he, .inr ⟨by omega, rfl, ids, hp, hso, rfl⟩, hY, (hfold ids hp).2.1, (hfold ids hp).2.2⟩
theorem mvTo_some {xs : List Int} {l : List Lt} {fr : Int} : ∀ k, (mvTo xs l fr k).2.2 = true → ∃ j : Nat, j < k ∧ (mvTo xs l fr k).1 = (j : Int) ∧ l[j]!.core = fr ∧ (leastL xs (dropM l[j]!.mask l[j]!.core.toNat)).2 = true ∧ (mvTo xs l fr k).2.1 = (leastL xs (dropM l[j]!.mask l[j]!.core.toNat)).1
 | 0, h => by cases h
 | k + 1, h => by
  have ih := mvTo_some (xs := xs) (l := l) (fr := fr) k; show ∃ j : Nat, j < k + 1 ∧ (mvStep xs l fr (mvTo xs l fr k) k).1 = _ ∧ _ ∧ _ ∧ (mvStep xs l fr (mvTo xs l fr k) k).2.1 = _; replace h : (mvStep xs l fr (mvTo xs l fr k) k).2.2 = true := h; unfold mvStep at h ⊢; by_cases hc : l[k]!.core = fr ∧ (leastL xs (dropM l[k]!.mask l[k]!.core.toNat)).2 = true ∧ xs.getD (leastL xs (dropM l[k]!.mask l[k]!.core.toNat)).1.toNat 0 + l[k]!.w < xs.getD fr.toNat 0 ∧ ((mvTo xs l fr k).2.2 = false ∨ l[(mvTo xs l fr k).1.toNat]!.w < l[k]!.w)
  · rw [if_pos hc]; exact ⟨k, Nat.lt_succ_self k, rfl, hc.1, hc.2.1, rfl⟩
  · rw [if_neg hc] at h ⊢; obtain ⟨j, hj, r⟩ := ih h; exact ⟨j, by omega, r⟩
theorem lmv_some (hI : InvY k b n s) (hk : k ≤ 400) {ids : List Int} (hp : ids.Perm (listP s.ps)) (h : (lmvL (loadsY s) (evL s ids)).2.2 = true) :
 ∃ t i j, s.tasks (lmvL (loadsY s) (evL s ids)).1 = some t ∧ t.state = 2 ∧ t.core = ((i : Nat) : Int) ∧ i < n ∧ (lmvL (loadsY s) (evL s ids)).2.1 = ((j : Nat) : Int) ∧ j < n ∧ j ≠ i ∧ hasM t.mask (j : Int) = true := by
 unfold lmvL at h ⊢; by_cases hc : (mvTo (loadsY s) (evL s ids) (mostL (loadsY s)) (evL s ids).length).2.2 = true
 · rw [if_pos hc]; obtain ⟨j, hj, e1, e2, e3, e4⟩ := mvTo_some _ hc; simp only
   rw [e1, e4, Int.toNat_natCast]; obtain ⟨x, t, hx, ht, h2, e5⟩ := evL_mem hj; have hT := hI.task x t ht; obtain ⟨i, hi, hin, -⟩ := hI.at_ ht h2; obtain ⟨d, hd, hdl, hdm⟩ := leastL_some e3; have hll : (loadsY s).length = n := by simp [loadsY, hI.len]
   have h8 := hI.n8; rw [e5] at hd hdm e3 ⊢; simp only at hd hdm e3 ⊢; rw [hi, Int.toNat_natCast] at hd hdm; have hm := hT.mask.1; obtain ⟨a, ha⟩ := Int.eq_ofNat_of_zero_le hm.1; rw [ha] at hd hdm; obtain ⟨m', hm', hlt, hbit⟩ := dropM_bit a (by omega) i (by omega); rw [hm'] at hdm; rw [hasM_bit m' hlt d (by omega), hbit d (by omega)] at hdm; simp only [Bool.and_eq_true, decide_eq_true_eq] at hdm; refine ⟨t, i, d, by rw [hT.id]; exact ht, h2, hi, hin, ?_, by omega, hdm.2, ?_⟩
   · rw [hi, Int.toNat_natCast, ha]; exact hd
   · rw [ha, hasM_bit a (by omega) d (by omega)]; exact hdm.1
 · rw [if_neg hc] at h; cases h
theorem sys_even (h : ∃ gb nb pb mb n cv D tb, SysAt W sb gb nb pb mb n cv D cbs tb own s) (hI : InvY k b n s) (hk : k ≤ 400) (hb : b ≤ 1000000000000000000) :
 Calls Tryz.prog 57 #[.pointer (some ⟨sb, 0, none⟩)] W fun e w' => ∃ x ok s', e = .returned (.tuple #[.int .i64 x, .bool ok]) ∧ EvenR s x ok s' ∧ YQ sb cbs own s' W w' ∧ InvY k (b + k * 232792560 + k * 232792560) n s' ∧ s'.gs = s.gs := by
 have h' := h; obtain ⟨gb, nb, pb, mb, nn, cv, D, tb, hS⟩ := h; have hn := hS.num; have hl := hI.len; have h8 := hI.n8; have hfit := hI.fitsY hk hb; have hks := kS k hk; have hmv : ∀ ids : List Int, ids.Perm (listP s.ps) → (lmvL (loadsY s) (evL s ids)).2.2 = true → (∀ W', SysAt W' sb gb nb pb mb nn cv D cbs tb own s → Calls Tryz.prog 54 #[.pointer (some ⟨sb, 0, none⟩), .int .i64 (lmvL (loadsY s) (evL s ids)).1, .int .i64 (lmvL (loadsY s) (evL s ids)).2.1] W' fun e w' => e = .returned (.int .i64 0) ∧ YP sb gb nb pb mb nn cv D cbs tb own (moveF s (lmvL (loadsY s) (evL s ids)).1 (lmvL (loadsY s) (evL s ids)).2.1).2 W' w') ∧
  InvY k (b + k * 232792560 + k * 232792560) n (moveF s (lmvL (loadsY s) (evL s ids)).1 (lmvL (loadsY s) (evL s ids)).2.1).2 ∧ (moveF s (lmvL (loadsY s) (evL s ids)).1 (lmvL (loadsY s) (evL s ids)).2.1).2.gs = s.gs := fun ids hp hs => by
  obtain ⟨t, i, j, ht, h2, hi, hin, hj, hjn, hji, hm⟩ := lmv_some hI hk hp hs; rw [hj]; generalize (lmvL (loadsY s) (evL s ids)).1 = id at ht ⊢; have hT := hI.task id t ht; have hidle := hI.idle ht; obtain ⟨a, c⟩ := hI.moveG hk ht h2 hi hin hjn t.mask hT.mask hm; have hmt : maskT t t.mask = t := rfl; rw [hmt, setTk_self ht] at a c; have hmf : moveF s id (j : Int) = (0, moveY s id t i j) := by
   unfold moveF; rw [ht]; simp only
   rw [if_neg, if_neg (by omega), Int.toNat_natCast, show t.core.toNat = i from by omega]; rintro (e | e | e)
   · unfold onT at e; rw [h2] at e; exact absurd e (by decide)
   · rw [hm] at e; cases e
   · rw [hi] at e; exact hji (by omega)
  rw [hmf]; exact ⟨fun W' hS' => move_ok sb gb nb pb mb nn cv D cbs tb own s id t i j W' hS' (by omega) (by omega) ht hT.mask.1 h2 hm hi hji (by omega) (by omega) hfit a, c, leaveY_else.1⟩
 refine (even_any sb gb nb pb mb nn cv D cbs tb own s W hS (hI.sized hk) (hI.dom hk) hfit (by omega) (by omega) (fun i hi => ?_) (fun x t ht h2 => ?_) (fun ids => (moveF s (lmvL (loadsY s) (evL s ids)).1 (lmvL (loadsY s) (evL s ids)).2.1).2) (fun ids hp hs => (hmv ids hp hs).1)).mono ?_
 · have hi' : i < s.cores.length := by omega
   have e : (loadsY s).getD i 0 = sumW (formL s.cores[i]!.l) := by
    unfold loadsY; rw [List.getD_eq_getElem?_getD, List.getElem?_map, List.getElem?_eq_getElem hi', getElem!_pos s.cores i hi']; rfl
   have hf := hfit i hi'; have := sumW_le (formL s.cores[i]!.l) (formL s.cores[i]!.l).length (formL_w _ hf); rw [List.take_length] at this; have hlen : (formL s.cores[i]!.l).length ≤ 64 := by simp only [formL, List.length_map]; exact hf.1
   rw [e]; omega
 · have hT := hI.task x t ht; obtain ⟨i, hi, hin, -⟩ := hI.at_ ht h2; exact ⟨⟨hT.w.1, hT.w.2, by omega, by omega⟩, hT.mask.1⟩
 · rintro e w' ⟨ids, hp, hso, hc⟩; rcases hc with ⟨he, hf, hY⟩ | ⟨he, hf, hY⟩
   · exact ⟨0, false, s, he, ⟨ids, hp, hso, .inl ⟨rfl, hf, rfl⟩⟩, hY.q, hI.mono (Nat.le_refl _) (by omega), rfl⟩
   · exact ⟨_, true, _, he, ⟨ids, hp, hso, .inr ⟨rfl, hf, rfl, rfl⟩⟩, hY.q, (hmv ids hp hf).2.1, (hmv ids hp hf).2.2⟩
end
end Go.Proofs.YtoiajjobecinpaaGreat
