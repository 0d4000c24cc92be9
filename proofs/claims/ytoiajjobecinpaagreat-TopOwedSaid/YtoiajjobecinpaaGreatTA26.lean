/- Tick: the accounts go on, and who was held comes back. hold: who may not run leaves. -/
import Derived.RangeFuncWrites
import Derived.Test.YtoiajjobecinpaaGreatTA25
set_option maxHeartbeats 4000000
namespace Go.Proofs.YtoiajjobecinpaaGreat
open Go.RowKit Go.Shelf Go.Lib Go.Proofs
set_option linter.unusedVariables false
set_option linter.unusedSimpArgs false
section
attribute [local go_sem] Oper.semAt_some
def tkA (N : Int) (acc : List Acc4) (g : Int) : List Acc4 :=
 acc.set g.toNat (tickP (acc.getD g.toNat default).1 (acc.getD g.toNat default).2.1 (acc.getD g.toNat default).2.2.1 (acc.getD g.toNat default).2.2.2 N).1
theorem tkA_len (N : Int) (acc : List Acc4) (g : Int) : (tkA N acc g).length = acc.length := by simp [tkA]
theorem tkAs_len (N : Int) (ids : List Int) (acc : List Acc4) : (ids.foldl (tkA N) acc).length = acc.length := by
 induction ids generalizing acc with
 | nil => rfl
 | cons a l ih => exact (ih _).trans (tkA_len N acc a)
noncomputable def heldY (s : Sy) (t : Tk) : Bool := @decide (∃ xs, IsPath s.gs t.group xs ∧ xs.any (spentA s) = true) (Classical.propDecidable _)
theorem heldY_of {s : Sy} {t : Tk} {xs : List G16} (h : IsPath s.gs t.group xs) : heldY s t = xs.any (spentA s) := by
 unfold heldY; cases hx : xs.any (spentA s) with
 | true => exact @decide_eq_true _ (Classical.propDecidable _) ⟨xs, h, hx⟩
 | false =>
  refine @decide_eq_false _ (Classical.propDecidable _) ?_; rintro ⟨ys, h1, h2⟩; rw [h1.unique h, hx] at h2; cases h2
noncomputable def tickS (s : Sy) (id : Int) : Sy :=
 match s.tasks id with
 | none => s
 | some t => if t.state = 5 ∧ heldY s t = false then (enterY s id t false t.core.toNat 7 true).2 else s
def TickOk : Sy → List Int → Prop
 | _, [] => True
 | s, id :: ids => (∃ t xs, s.tasks id = some t ∧ IsPath s.gs t.group xs ∧ (t.state = 5 → xs.any (spentA s) = false → ∃ i : Nat, t.core = i ∧ i < s.cores.length ∧ FitsY s ∧ (enterY s id t false i 7 true).1 = 0)) ∧ TickOk (tickS s id) ids
theorem allTo_mem {gs : List (Bool × Int)} {x : Int} : ∀ {k : Nat}, x ∈ allTo gs k → 0 ≤ x ∧ x < k
 | 0, h => by cases h
 | k + 1, h => by
  rcases List.mem_append.1 (show x ∈ allTo gs k ++ _ from h) with h | h
  · have := allTo_mem h; omega
  · split at h
    · rw [List.mem_singleton] at h; omega
    · cases h
theorem take_foldl {α β : Type} (f : β → α → β) (s : β) (l : List α) (k : Nat) (h : k < l.length) : (l.take (k + 1)).foldl f s = f ((l.take k).foldl f s) l[k] := by
 rw [List.take_succ_eq_append_getElem h, List.foldl_append]; rfl
set_option maxRecDepth 100000 in
theorem tick_neg (sb : Nat) (N : Int) (W : World) (hN : N < 0) : Calls Tryz.prog 56 #[.pointer (some ⟨sb, 0, none⟩), .int .i64 N] W fun e w' => e = .returned (.int .i64 1) ∧ W = w' := by
 go_enter Tryz.func56, Tryz.ntmps56; go_wp2_with fail
 go_ret
 exact ⟨rfl, rfl⟩
set_option maxRecDepth 100000 in
theorem tick_ok (sb : Nat) (cbs : List Nat) (own : Nat → Option Own) (s : Sy) (N : Int) (W : World) (h : ∃ gb nb pb mb n cv D tb, SysAt W sb gb nb pb mb n cv D cbs tb own s) (hN : 0 ≤ N ∧ N ≤ 9223372036854775807) (hl : s.acc.length = 16) (hz : Sized s.ps) (hd : DomY s)
 (hok : ∀ ids : List Int, ids.Perm (listP s.ps) → TickOk (setAcc s ((allTo s.gs 16).foldl (tkA N) s.acc)) ids) :
 Calls Tryz.prog 56 #[.pointer (some ⟨sb, 0, none⟩), .int .i64 N] W
  (fun e w' => e = .returned (.int .i64 0) ∧ ∃ ids : List Int, ids.Perm (listP s.ps) ∧ ids.Pairwise (fun a b => ¬ b < a) ∧ YQ sb cbs own (ids.foldl tickS (setAcc s ((allTo s.gs 16).foldl (tkA N) s.acc))) W w') := by
 obtain ⟨gb, nb, pb, mb, n, cv, D, tb, hS⟩ := h; have hall := gall_any gb s.gs W hS.groups; have c1 := hS.c1; have hmem : ∀ x ∈ allTo s.gs 16, 0 ≤ x ∧ x < 16 := fun x hx => by have := allTo_mem hx; omega
 have hlen := allTo_len s.gs 16; obtain ⟨ids, hids⟩ : ∃ ids, allTo s.gs 16 = ids := ⟨_, rfl⟩
 rw [hids] at hall hmem hok hlen ⊢; obtain ⟨m, hm⟩ : ∃ m, ids.length = m := ⟨_, rfl⟩
 rw [hm] at hall hlen; obtain ⟨S1, hS1e⟩ : ∃ S1, setAcc s (ids.foldl (tkA N) s.acc) = S1 := ⟨_, rfl⟩
 rw [hS1e] at hok ⊢; have HE := lH hS1e; have HM := lH hm; have HMEM := lH hmem; have HS := lH hS; have HL := lH hl; have HZ := lH hz; have HD := lH hd; have HOK := lH hok; obtain ⟨hN1, hN2⟩ := hN; clear hS hl hz hd hok hids hm hmem hS1e; go_enter Tryz.func56, Tryz.ntmps56; go_wp2_with fail
 refine hall.mono ?_; rintro e w1 ⟨v, rfl, hrow, hb1⟩; obtain ⟨p, c, hv⟩ : ∃ p c, v = .slice p m c := by
  rcases hrow.2 with ⟨e, h0⟩ | ⟨g, cap, cur, e, _⟩
  · exact ⟨none, 0, by rw [e, h0]⟩
  · exact ⟨_, _, e⟩
 subst hv; have HR := lH hrow; have HB := lH hb1; have HS1 := lH (HS.out.below hb1); have hsbw := HS.out.lt sb (by rw [HS.out.osb]; simp); clear hall hrow hb1 c1; go_wp2_with fail
 go_loopw [18] (fun x wr => ∃ k : Nat, k ≤ m ∧ x = .int .i64 k ∧ Hid (SysAt wr sb gb nb pb mb n cv D cbs tb own (setAcc s ((ids.take k).foldl (tkA N) s.acc))) ∧ Hid (Touch (fun j => j = sb) w1 wr)) (fun x _ => m - (intOf x).toNat)
 case atStart => exact ⟨0, Nat.zero_le _, rfl, lH HS1.out, lH (Touch.refl _ _)⟩
 case round =>
  obtain ⟨k, hk, rfl, HSr, HTr⟩ := hrel; by_cases hkm : k < m
  · have hk1 : (k : Int) < (m : Int) := by omega
    have hk0 : 0 ≤ (k : Int) := by omega
    have hkl : k < ids.length := by rw [HM.out]; exact hkm
    obtain ⟨g, hp⟩ : ∃ g, p = some ⟨g, 0, none⟩ := by
     rcases HR.out.2 with ⟨_, h0⟩ | ⟨g, cap, cur, e, _⟩
     · omega
     · simp only [Value.slice.injEq] at e; exact ⟨g, e.1⟩
    subst hp; have hgl := HR.out.lt g rfl; have hcell : wr.cell? ⟨g, k, none⟩ = some (.int .i64 (ids[k]'hkl)) := by
     refine (World.cell?_of_block (a := ⟨g, k, none⟩) (HTr.out.block g hgl.2 (by omega))).trans ?_; have := HR.out.cells (g := g) rfl k (.int .i64 (ids[k]'hkl)) (by rw [List.getElem?_map, List.getElem?_eq_getElem hkl]; rfl); simpa [Addr.add_lit] using this
    have hgm := HMEM.out (ids[k]'hkl) (List.getElem_mem hkl); have hstep := take_foldl (tkA N) s.acc ids k hkl; obtain ⟨j, hj⟩ := Int.eq_ofNat_of_zero_le hgm.1; rw [hj] at hcell hstep hgm; have hj16 : j < 16 := by omega
    have hj16i : (j : Int) < 16 := by omega
    have hj0 : 0 ≤ (j : Int) := by omega
    obtain ⟨ac, hac⟩ : ∃ ac, (ids.take k).foldl (tkA N) s.acc = ac := ⟨_, rfl⟩
    have hacl : ac.length = 16 := by rw [← hac, tkAs_len]; exact HL.out
    rw [hac] at hstep; have hSr := HSr.out; rw [hac] at hSr; have HSR := lH hSr; have HACL := lH hacl; obtain ⟨a0, a1, a2, a3⟩ := hSr.acc j hj16; simp only [setAcc] at a0 a1 a2 a3; have hst : tkA N ac j = ac.set j (tickP (ac.getD j default).1 (ac.getD j default).2.1 (ac.getD j default).2.2.1 (ac.getD j default).2.2.2 N).1 := by simp [tkA]
    rw [hst] at hstep; generalize (ac.getD j default).1 = q0 at a0 hstep; generalize (ac.getD j default).2.1 = q1 at a1 hstep; generalize (ac.getD j default).2.2.1 = q2 at a2 hstep; generalize (ac.getD j default).2.2.2 = q3 at a3 hstep; have htick := fun W' => atick_any q0 q1 q2 q3 N W' (by omega) hN2; obtain ⟨⟨⟨u0, u1, u2, u3⟩, ue⟩, hu⟩ : ∃ r, tickP q0 q1 q2 q3 N = r := ⟨_, rfl⟩
    rw [hu] at htick hstep; simp only [accT] at htick hstep; have HST := lH hstep; clear hst hu hstep hgm hj hac hacl hSr; go_wp2_with fail
    have hS3 := HSR.out.drew1; have l0 := hS3.live (2 + j * 4); have l1 := hS3.live (2 + j * 4 + 1); have l2 := hS3.live (2 + j * 4 + 2); have l3 := hS3.live (2 + j * 4 + 3); have HT3 := lH HTr.out.drew; obtain ⟨wd, hwd⟩ : ∃ wd, wr.drew = wd := ⟨_, rfl⟩
    have HWD := lH hwd; clear hwd; have HS3 := lH hS3; clear hS3 hcell; go_region_law (go_simp; go_at_call 116; refine (htick _).mono ?_; rintro e w9 ⟨rfl, hb9⟩; have HS9 := lH (HS3.out.below hb9); have HT9 := lH (HT3.out.self (Touch.of_below hb9)); obtain ⟨b0, b1, b2, b3⟩ := HS9.out.acc j hj16; simp only [setAcc] at b0 b1 b2 b3; have m0 := HS9.out.live (2 + j * 4); have m1 := HS9.out.live (2 + j * 4 + 1); have m2 := HS9.out.live (2 + j * 4 + 2); have m3 := HS9.out.live (2 + j * 4 + 3))
    have hS5 := HS9.out.setA j hj16 HACL.out u0 u1 u2 u3; have hT5 := (((HT9.out.setCell (c := sb) (i := 2 + j * 4) (t := none) (Or.inl rfl) (.int .i64 u0)).setCell (c := sb) (i := 2 + j * 4 + 1) (t := none) (Or.inl rfl) (.int .i64 u1)).setCell (c := sb) (i := 2 + j * 4 + 2) (t := none) (Or.inl rfl) (.int .i64 u2)).setCell (c := sb) (i := 2 + j * 4 + 3) (t := none) (Or.inl rfl) (.int .i64 u3); have hS6 : SysAt ((((w9.setCell ⟨sb, 2 + j * 4, none⟩ (.int .i64 u0)).setCell ⟨sb, 2 + j * 4 + 1, none⟩ (.int .i64 u1)).setCell ⟨sb, 2 + j * 4 + 2, none⟩ (.int .i64 u2)).setCell ⟨sb, 2 + j * 4 + 3, none⟩ (.int .i64 u3)) sb gb nb pb mb n cv D cbs tb own (setAcc s ((ids.take (k + 1)).foldl (tkA N) s.acc)) := by rw [HST.out]; exact hS5
    have HS6 := lH hS6; have HT5 := lH hT5; clear hS5 hS6 hT5 b0 b1 b2 b3 m0 m1 m2 m3 l0 l1 l2 l3 a0 a1 a2 a3; go_wp2_with fail
    go_roundw
    case rel => exact ⟨k + 1, hkm, by go_num, HS6, HT5⟩
    case measure => simp [intOf]; omega
  · obtain rfl : k = m := by omega
    obtain ⟨wA, rfl⟩ : ∃ x, x = wr := ⟨_, rfl⟩
    have hSr := HSr.out; rw [show ids.take k = ids from List.take_of_length_le (by rw [HM.out]; exact Nat.le_refl _)] at hSr; have hps : S1.ps = s.ps := by rw [← HE.out]; rfl
    have hz1 : Sized S1.ps := by rw [hps]; exact HZ.out
    have hd1 : DomY S1 := by rw [← HE.out]; exact HD.out
    rw [HE.out] at hSr; have hsort := sorted_all sb gb nb pb mb n cv D cbs tb own S1 wA hSr hz1 hd1; rw [hps] at hsort; have HSR := lH hSr; clear hps hz1 hd1 hSr; go_wp2_with fail
    refine hsort.mono ?_; rintro e w3 ⟨v, ids2, rfl, hperm, hpw, hrow, hb3⟩; obtain ⟨m2, hm2⟩ : ∃ m2, ids2.length = m2 := ⟨_, rfl⟩
    obtain ⟨p2, c2, hv⟩ : ∃ p c, v = .slice p m2 c := by
     rcases hrow.2 with ⟨e, h0⟩ | ⟨g, cap, cur, e, _⟩
     · exact ⟨none, 0, by rw [e, ← hm2, h0]⟩
     · exact ⟨_, _, by rw [e, hm2]⟩
    subst hv; have hlen2 : m2 ≤ 64 := by rw [← hm2, hperm.length_eq]; exact Nat.le_trans (listFrom_len _ _) HZ.out.1
    have HR2 := lH hrow; have HB3 := lH hb3; have HP2 := lH hperm; have HPW := lH hpw; have HM2 := lH hm2; have HS3 := lH (HSR.out.below hb3); clear hsort hrow hb3 hperm hpw hm2; go_wp2_with fail
    go_loopw [42] (fun x WZ => ∃ q : Nat, q ≤ m2 ∧ x = .int .i64 q ∧ Hid (∃ own', SysAt WZ sb gb nb pb mb n cv D cbs tb own' ((ids2.take q).foldl tickS S1) ∧ (∀ j, j < w3.heap.size → own' j = own j) ∧ Touch (fun j => own j ≠ none) w3 WZ) ∧ Hid (TickOk ((ids2.take q).foldl tickS S1) (ids2.drop q))) (fun x _ => m2 - (intOf x).toNat)
    case atStart => exact ⟨0, Nat.zero_le _, rfl, lH ⟨own, HS3.out, fun _ _ => rfl, Touch.refl _ _⟩, lH (HOK.out _ HP2.out)⟩
    case round =>
     obtain ⟨q, hq, rfl, HSq, HKq⟩ := hrel; by_cases hqm : q < m2
     · have hq1 : (q : Int) < (m2 : Int) := by omega
       have hq0 : 0 ≤ (q : Int) := by omega
       have hql : q < ids2.length := by rw [HM2.out]; exact hqm
       obtain ⟨g2, hp⟩ : ∃ g, p2 = some ⟨g, 0, none⟩ := by
        rcases HR2.out.2 with ⟨_, h0⟩ | ⟨g, cap, cur, e, _⟩
        · have := HM2.out; omega
        · simp only [Value.slice.injEq] at e; exact ⟨g, e.1⟩
       subst hp; have hg2 := HR2.out.lt g2 rfl; obtain ⟨own', hSz, ho', hT'⟩ := HSq.out; have hog2 : own g2 = none := by
        cases e : own g2 with
        | none => rfl
        | some o => have := HSR.out.lt g2 (by rw [e]; simp); omega
       have hcell : wr.cell? ⟨g2, q, none⟩ = some (.pointer (some ⟨tb (ids2[q]'hql), 0, none⟩)) := by
        refine (World.cell?_of_block (a := ⟨g2, q, none⟩) (hT'.block g2 hg2.2 (by simp [hog2]))).trans ?_; have := HR2.out.cells (g := g2) rfl q (.pointer (some ⟨tb (ids2[q]'hql), 0, none⟩)) (by rw [List.getElem?_map, List.getElem?_eq_getElem hql]; rfl); simpa [Addr.add_lit] using this
       have hKd := HKq.out; rw [List.drop_eq_getElem_cons hql] at hKd; have hstep2 : (ids2.take (q + 1)).foldl tickS S1 = tickS ((ids2.take q).foldl tickS S1) (ids2[q]'hql) := by
        rw [List.take_succ_eq_append_getElem hql, List.foldl_append]; rfl
       obtain ⟨S, hSe⟩ : ∃ S, (ids2.take q).foldl tickS S1 = S := ⟨_, rfl⟩
       rw [hSe] at hKd hstep2 hSz; obtain ⟨⟨t, xs, ht, hL, hcond⟩, hKn⟩ := hKd; obtain ⟨id, hid⟩ : ∃ id, ids2[q]'hql = id := ⟨_, rfl⟩
       rw [hid] at hcell ht hstep2 hcond hKn; have hheld := heldY_of hL; obtain ⟨hTk, hto⟩ := hSz.task id t ht; have hst := hTk.state; have hsp := spent_any sb gb nb pb mb n cv D cbs tb own' S (tb id) t xs wr hSz hTk hL; have hST : tickS S id = if t.state = 5 ∧ heldY S t = false then (enterY S id t false t.core.toNat 7 true).2 else S := by unfold tickS; rw [ht]
       have HSZ := lH hSz; have HO' := lH ho'; have HT' := lH hT'; have HKN := lH hKn; have HCO := lH hcond; have HTA := lH ht; have HLL := lH hL; obtain ⟨b, hb⟩ : ∃ b, tb id = b := ⟨_, rfl⟩
       rw [hb] at hcell hst hsp; have HBB := lH hb; rw [hheld] at hST; obtain ⟨hd, hhd⟩ : ∃ x, xs.any (spentA S) = x := ⟨_, rfl⟩
       rw [hhd] at hsp hST; have HHD := lH hhd; have HS2 := lH hstep2; have HSTT := lH hST; clear hKn hcond ht hL hheld hTk hto hST hb hhd hid hSz ho' hT' hstep2 hSe; by_cases h5 : t.state = 5
       · rw [h5] at hst; cases hd with
         | true =>
          have hres : (ids2.take (q + 1)).foldl tickS S1 = S := by rw [HS2.out, HSTT.out, if_neg (by simp)]
          have hKN := HKN.out; rw [HSTT.out, if_neg (by simp)] at hKN; have HRES := lH hres; clear hres; go_wp2_with fail
          refine hsp.mono ?_; rintro e w5 ⟨rfl, hb5⟩; have HB5 := lH hb5; clear hb5 hsp; go_wp2_with fail
          go_roundw
          case rel => exact ⟨q + 1, hqm, by go_num, lH ⟨own', by rw [HRES.out]; exact HSZ.out.below HB5.out, HO'.out, HT'.out.self (Touch.of_below HB5.out)⟩, lH (by rw [HRES.out]; exact hKN)⟩
          case measure => simp [intOf]; omega
         | false =>
          obtain ⟨i, hi, hil, hfi, hen⟩ := HCO.out h5 HHD.out; have hci : t.core.toNat = i := by omega
          have hres : (ids2.take (q + 1)).foldl tickS S1 = (enterY S id t false i 7 true).2 := by rw [HS2.out, HSTT.out, if_pos ⟨h5, rfl⟩, hci]
          have hKN := HKN.out; rw [HSTT.out, if_pos ⟨h5, rfl⟩, hci] at hKN; have hent := fun W' (hB : Below wr.heap.size wr W') => enter_any sb gb nb pb mb n cv D cbs tb own' S id 7 t true xs i W' (HSZ.out.below hB) HTA.out HLL.out hi (by rw [HSZ.out.num]; exact hil) hfi; rw [HHD.out, hen, HBB.out] at hent; have HRES := lH hres; have HKN2 := lH hKN; have HI := lH hi; clear hres hKN hi hci hen; go_wp2_with fail
          refine hsp.mono ?_; rintro e w5 ⟨rfl, hb5⟩; have hent5 := hent w5 hb5; have HB5 := lH hb5; clear hb5 hsp hent; go_wp2_with fail
          refine hent5.mono ?_; rintro e w6 ⟨rfl, own6, hS6, ho6, ht6⟩; have HS6 := lH hS6; have hz3 := HT'.out.size; have hz5 := HB5.out.size; have HO6 : Hid (∀ j, j < w3.heap.size → own6 j = own j) := lH (fun j hj => (ho6 j (by omega)).trans (HO'.out j hj)); have HT6 : Hid (Touch (fun j => own j ≠ none) w3 w6) := lH (((HT'.out.self (Touch.of_below HB5.out))).trans (fun j hj => by
           by_cases hl : j < w3.heap.size
           · left; show own j ≠ none; rw [← HO'.out j hl]; exact hj
           · right; omega) ht6)
          clear hS6 ho6 ht6 hent5; go_wp2_with fail
          go_roundw
          case rel => exact ⟨q + 1, hqm, by go_num, lH ⟨own6, by rw [HRES.out]; exact HS6.out, HO6.out, HT6.out⟩, lH (by rw [HRES.out]; exact HKN2.out)⟩
          case measure => simp [intOf]; omega
       · have hres : (ids2.take (q + 1)).foldl tickS S1 = S := by rw [HS2.out, HSTT.out, if_neg (fun e => h5 e.1)]
         have hKN := HKN.out; rw [HSTT.out, if_neg (fun e => h5 e.1)] at hKN; have HRES := lH hres; have HKN2 := lH hKN; clear hres hKN hsp; go_wp2_with fail
         go_roundw
         case rel => exact ⟨q + 1, hqm, by go_num, lH ⟨own', by rw [HRES.out]; exact HSZ.out, HO'.out, HT'.out⟩, lH (by rw [HRES.out]; exact HKN2.out)⟩
         case measure => simp [intOf]; omega
     · obtain rfl : q = m2 := by omega
       obtain ⟨own', hSz, ho', hT'⟩ := HSq.out; rw [show ids2.take q = ids2 from List.take_of_length_le (by rw [HM2.out]; exact Nat.le_refl _)] at hSz; have HSZ := lH hSz; have HO' := lH ho'; have HT' := lH hT'; clear hSz ho' hT'; go_wp2_with fail
       go_ret
       have z1 := HB.out.size; have z2 := HTr.out.size; have z3 := HB3.out.size; refine ⟨rfl, ids2, HP2.out, HPW.out, own', ⟨gb, nb, pb, mb, n, cv, D, tb, HSZ.out⟩, fun j hj => ?_, ?_⟩
       · by_cases hl : j < w3.heap.size
         · left; rw [← HO'.out j hl]; exact hj
         · right; omega
       · have hsbo : own sb ≠ none := by rw [HS.out.osb]; simp
         have t1 : Touch (fun k => own k ≠ none) W wA := (Touch.of_below HB.out).self (HTr.out.wider (fun k hk => by rw [hk]; exact hsbo)); exact (t1.self (Touch.of_below HB3.out)).self HT'.out
end
section
attribute [local go_sem] Oper.semAt_some
noncomputable def holdS (s : Sy) (id : Int) : Sy :=
 match s.tasks id with
 | none => s
 | some t => if t.state = 2 ∧ heldY s t = true then setTk (leaveY s id t t.core.toNat) id (stT (leaveT s t t.core.toNat) (nxt t.state 6).1) else s
def HoldOk : Sy → List Int → Prop
 | _, [] => True
 | s, id :: ids => (∃ t xs, s.tasks id = some t ∧ IsPath s.gs t.group xs ∧ (t.state = 2 → ∃ i : Nat, t.core = i ∧ i < s.cores.length ∧ FitsY s)) ∧ HoldOk (holdS s id) ids
theorem MarksOk.touch {n₀ : Nat} {F : Nat → Prop} {W W' : World} {ds : List Deferred} (h : MarksOk n₀ ds W) (hT : Touch F W W') (hF : ∀ k, F k → k < n₀) : MarksOk n₀ ds W' :=
 h.kept (fun r hr hrr _ => (hT.block r (lt_of_some hrr) (fun hf => by have := hF r hf; omega)).trans hrr)
set_option maxRecDepth 100000 in
theorem hold_all (sb gb nb pb mb n : Nat) (cv : Value) (D : DataW Unit) (cbs : List Nat) (tb : Int → Nat) (own : Nat → Option Own) (s : Sy) (w : World)
 (h : SysAt w sb gb nb pb mb n cv D cbs tb own s) (hz : Sized s.ps) (hd : DomY s)
 (hok : ∀ ids : List Int, ids.Perm (listP s.ps) → HoldOk s ids) :
 Calls Tryz.prog 114 #[.pointer (some ⟨sb, 0, none⟩)] w fun e W' => e = .returned (.tuple #[]) ∧ ∃ ids : List Int, ids.Perm (listP s.ps) ∧ ids.Pairwise (fun a b => ¬ b < a) ∧ YO sb gb nb pb mb n cv D cbs tb own (ids.foldl holdS s) w W' := by
 have hsort := fun W hW => sorted_all sb gb nb pb mb n cv D cbs tb own s W hW hz hd; have hlen64 : (listP s.ps).length ≤ 64 := Nat.le_trans (listFrom_len _ _) hz.1; have hB0 : Below w.heap.size w (w.alloc (.cells #[.pointer (some ⟨sb, 0, none⟩)] 81)) := (Below.refl _ w).alloc (Nat.le_refl _) _; have hsort1 := hsort _ (h.below hB0); have HS := lH h; have HD := lH hd; have HOK := lH hok; have q0 := cell_new_l w (.pointer (some ⟨sb, 0, none⟩)) 81; clear h hd hok hz hsort; refine callsIn_wide.1 (callsIn_of_wp_marks (n := 5) Tryz.func114 rfl trivial (wpIn_wide.2 ?_) rfl); simp only [Tryz.ntmps114, List.size_toArray, List.length_cons, List.length_nil, Nat.reduceAdd, Nat.reduceSub, Array.replicate_succ, Array.replicate_zero, List.push_toArray, List.append_toArray, List.nil_append, List.cons_append]; go_wp2_with fail
 refine wp_scope_straight ?_; refine wp_seq ?_; refine wp_label ?_; show Code.wp _ _ _ _ _; go_wp2_with fail
 refine hsort1.mono ?_; rintro e w1 ⟨v, ids, rfl, hperm, hpw, hrow, hb1⟩; obtain ⟨p, c, hv⟩ : ∃ p c, v = .slice p ids.length c := by
  rcases hrow.2 with ⟨e, h0⟩ | ⟨g, cap, cur, e, _⟩
  · exact ⟨none, 0, by rw [e, h0]⟩
  · exact ⟨_, _, e⟩
 subst hv; have HP := lH hperm; have HPW := lH hpw; have HB1 : Hid (Below w.heap.size w w1) := lH (hB0.trans (hb1.mono hB0.size)); have HS1 := lH (HS.out.below HB1.out); have HOL : Hid (∀ k, own k ≠ none → k < w.heap.size) := lH HS.out.lt; have HR := lH hrow; have HB := lH hb1; obtain ⟨m, hm⟩ : ∃ m, ids.length = m := ⟨_, rfl⟩
 rw [hm]; have HM := lH hm; have hm64 : m ≤ 64 := by rw [← hm, hperm.length_eq]; exact hlen64
 clear hsort1 hperm hpw hrow hb1 hm; go_wp2_with fail
 refine wp_loop (fun a' wr => ∃ (k : Nat) (y : Int) (ds : List Deferred) (u3 u4 u9 u10 u11 u12 u13 u14 u15 u16 u17 u18 u19 u20 u21 u22 u23 u24 u25 u26 u27 u28 u29 u30 u31 u32 u33 u34 u35 u36 u37 u38 u39 : Value), (y = (k : Int) ∧ k ≤ m ∧ Hid (SysAt wr sb gb nb pb mb n cv D cbs tb own ((ids.take k).foldl holdS s) ∧ Touch (fun j => own j ≠ none) w1 wr ∧ HoldOk ((ids.take k).foldl holdS s) (ids.drop k)) ∧ Hid (MarksOk w.heap.size ds wr)) ∧
  a' = { tmps := #[Value.pointer (some ⟨sb, 0, none⟩), .pointer (some ⟨w.heap.size, 0, none⟩), undef, u3, u4, .pointer (some ⟨sb, 0, none⟩), .slice p m c, .int .i64 m, .int .i64 y, u9, u10, u11, u12, u13, u14, u15, u16, u17, u18, u19, u20, u21, u22, u23, u24, u25, u26, u27, u28, u29, u30, u31, u32, u33, u34, u35, u36, u37, u38, u39], defers := ds })
  (fun a' _ => m - (intOf (a'.tmps.getD 8 undef)).toNat) ?start ?round
 case start => exact ⟨0, 0, [], _, _, _, _, _, _, _, _, _, _, _, _, _, _, _, _, _, _, _, _, _, _, _, _, _, _, _, _, _, _, _, _, _, ⟨rfl, Nat.zero_le _, lH ⟨HS1.out, Touch.refl _ _, HOK.out _ HP.out⟩, lH trivial⟩, rfl⟩
 case round =>
  rintro _ wr ⟨k, y, ds, u3, u4, u9, u10, u11, u12, u13, u14, u15, u16, u17, u18, u19, u20, u21, u22, u23, u24, u25, u26, u27, u28, u29, u30, u31, u32, u33, u34, u35, u36, u37, u38, u39, ⟨rfl, hk, HBR, HMK⟩, rfl⟩; obtain ⟨hS, hTr, hKd⟩ := HBR.out; by_cases hkm : k < m
  · have hk1 : (k : Int) < (m : Int) := by omega
    have hk0 : 0 ≤ (k : Int) := by omega
    have hkl : k < ids.length := by rw [HM.out]; exact hkm
    obtain ⟨g, hp⟩ : ∃ g, p = some ⟨g, 0, none⟩ := by
     rcases HR.out.2 with ⟨_, h0⟩ | ⟨g, cap, cur, e, _⟩
     · omega
     · simp only [Value.slice.injEq] at e; exact ⟨g, e.1⟩
    subst hp; have hgw := HR.out.lt g rfl; have hzb := hB0.size; have hcell : wr.cell? ⟨g, k, none⟩ = some (.pointer (some ⟨tb (ids[k]'hkl), 0, none⟩)) := by
     refine (World.cell?_of_block (a := ⟨g, k, none⟩) (hTr.block g hgw.2 (fun e => by have := HOL.out g e; omega))).trans ?_; have := HR.out.cells (g := g) rfl k (.pointer (some ⟨tb (ids[k]'hkl), 0, none⟩)) (by rw [List.getElem?_map, List.getElem?_eq_getElem hkl]; rfl); simpa [Addr.add_lit] using this
    rw [List.drop_eq_getElem_cons hkl] at hKd; have hstep2 : (ids.take (k + 1)).foldl holdS s = holdS ((ids.take k).foldl holdS s) (ids[k]'hkl) := by
     rw [List.take_succ_eq_append_getElem hkl, List.foldl_append]; rfl
    obtain ⟨S, hSe⟩ : ∃ S, (ids.take k).foldl holdS s = S := ⟨_, rfl⟩
    rw [hSe] at hKd hstep2 hS; obtain ⟨⟨t, xs, ht, hL, hcond⟩, hKn⟩ := hKd; obtain ⟨id, hid⟩ : ∃ id, ids[k]'hkl = id := ⟨_, rfl⟩
    rw [hid] at hcell ht hstep2 hKn; have hheld := heldY_of hL; obtain ⟨hT, hto⟩ := hS.task id t ht; have hst := hT.state; have hHO : holdS S id = if t.state = 2 ∧ heldY S t = true then setTk (leaveY S id t t.core.toNat) id (stT (leaveT S t t.core.toNat) (nxt t.state 6).1) else S := by unfold holdS; rw [ht]
    obtain ⟨b, hb⟩ : ∃ b, tb id = b := ⟨_, rfl⟩
    rw [hb] at hcell hst hT hto; have hbl : b < wr.heap.size := World.block_lt_of_cell? _ _ hT.id; have hq : wr.cell? ⟨w.heap.size, 0, none⟩ = some (.pointer (some ⟨sb, 0, none⟩)) := (World.cell?_of_block (a := ⟨w.heap.size, 0, none⟩) (hTr.block w.heap.size (by have := HB.out.size; rw [World.size_alloc] at this; omega) (fun e => by have := HOL.out _ e; omega))).trans ((HB.out.cell (p := ⟨w.heap.size, 0, none⟩) (by simp)).trans q0.1)
    have hwz : w.heap.size < wr.heap.size := World.block_lt_of_cell? _ _ hq; have hgl := hS.groups.lt; have hsl := hS.lt sb (by rw [hS.osb]; simp); have HSS := lH hS; have HTT := lH hT; have HTO := lH hto; have HBB := lH hb; have HTR := lH hTr; have HKN := lH hKn; have HCO := lH hcond; have HTA := lH ht; have HLL := lH hL; have HHE := lH hheld; have HHO := lH hHO; have HS2 := lH hstep2; have HC := lH (And.intro hS.c1 hT.group); clear hS hT hL hcond hKn ht hheld hHO hstep2 hSe hid hTr hb hto; by_cases h2 : t.state = 2
    · rw [h2] at hst; go_wp2_with fail
      have k0 := c2a (.cells #[.pointer (some ⟨b, 0, none⟩)] 188) hq; have k1 := c2a (.cells #[.pointer (some ⟨b, 0, none⟩)] 188) HC.out.1; have k2 := c2a (.cells #[.pointer (some ⟨b, 0, none⟩)] 188) HC.out.2; have k3 := (cell_new_l wr (.pointer (some ⟨b, 0, none⟩)) 188).1; have hz0 : (wr.alloc (.cells #[.pointer (some ⟨b, 0, none⟩)] 188)).heap.size = wr.heap.size + 1 := by simp
      have hBr : Below wr.heap.size wr (wr.alloc (.cells #[.pointer (some ⟨b, 0, none⟩)] 188)) := (Below.refl _ _).alloc (Nat.le_refl _) _; generalize wr.alloc (.cells #[.pointer (some ⟨b, 0, none⟩)] 188) = W0 at k0 k1 k2 k3 hz0 hBr ⊢; go_region_held3 (fun W2 => W2.cell? ⟨w.heap.size, 0, none⟩ = some (.pointer (some ⟨sb, 0, none⟩)) ∧ W2.cell? ⟨sb, 1, none⟩ = some (.pointer (some ⟨gb, 0, none⟩)) ∧ W2.cell? ⟨b, 2, none⟩ = some (.int .i64 t.group) ∧ W2.cell? ⟨wr.heap.size, 0, none⟩ = some (.pointer (some ⟨b, 0, none⟩))) (first | exact ⟨k0, k1, k2, k3⟩ | exact ⟨c2a _ (c2a _ k0), c2a _ (c2a _ k1), c2a _ (c2a _ k2), c2a _ (c2a _ k3)⟩) (first | (go_at_call 112; refine (path_any gb t.group _).mono ?_; rintro e w9 ⟨rfl, rfl⟩) | fail)
      have kg := c2a (.cells #[.int .i64 t.group] 3) (cell_new_l W0 (.pointer (some ⟨gb, 0, none⟩)) 113).1; have ki := (cell_new_l (W0.alloc (.cells #[.pointer (some ⟨gb, 0, none⟩)] 113)) (.int .i64 t.group) 3).1; rw [World.size_alloc] at ki; rw [hz0] at kg ki; have kb := c2a (.cells #[.int .i64 t.group] 3) (c2a (.cells #[.pointer (some ⟨gb, 0, none⟩)] 113) k0); have kt := c2a (.cells #[.int .i64 t.group] 3) (c2a (.cells #[.pointer (some ⟨gb, 0, none⟩)] 113) k3); have hB2 : Below wr.heap.size wr ((W0.alloc (.cells #[.pointer (some ⟨gb, 0, none⟩)] 113)).alloc (.cells #[.int .i64 t.group] 3)).drew := ((hBr.alloc (by omega) _).alloc (by simp; omega) _).drew; have hz2 : ((W0.alloc (.cells #[.pointer (some ⟨gb, 0, none⟩)] 113)).alloc (.cells #[.int .i64 t.group] 3)).drew.heap.size = wr.heap.size + 1 + 1 + 1 := by show ((W0.alloc _).alloc _).heap.size = _; simp; omega
      change World.cell? ((W0.alloc (.cells #[.pointer (some ⟨gb, 0, none⟩)] 113)).alloc (.cells #[.int .i64 t.group] 3)).drew _ = _ at kg ki kb kt; generalize ((W0.alloc (.cells #[.pointer (some ⟨gb, 0, none⟩)] 113)).alloc (.cells #[.int .i64 t.group] 3)).drew = W2 at kg ki kb kt hB2 hz2 ⊢; clear k0 k1 k2 k3; go_wp2_with fail
      have h1 : 1 ≤ 5 := by omega
      have hS2 := HSS.out.below hB2; refine (wpIn_wide (n := 5)).1 (wpIn_rangeFunc_ownG rfl h1 (gf := 155) (lb := #[.pointer (some ⟨wr.heap.size + 1 + 1, 0, none⟩), .pointer (some ⟨wr.heap.size + 1, 0, none⟩)]) rfl trivial (enters_of Tryz.func155 (by kernel_rfl) rfl)
       (path_stops (5 - 1) (by omega) (wr.heap.size + 1 + 1) (wr.heap.size + 1) gb S.gs t.group xs W2 (by omega) (by omega) (by omega) ki kg hS2.groups HLL.out) KpG.t (KpG.b (by omega) (by omega)) (Below.refl _ _) (fun _ => rfl)
       (fun pre W => pre.any (spentA S) = false ∧ Below W2.heap.size W2 W)
       (fun c pre W => c = .exit 1 ∧ pre.any (spentA S) = true ∧ SysAt W sb gb nb pb mb n cv D cbs tb own (setTk (leaveY S id t t.core.toNat) id (stT (leaveT S t t.core.toNat) (nxt t.state 6).1)) ∧ Touch (fun j => own j ≠ none) W2 W)
       (OwnFrom.and (Own.from (fun s A B row hs hg hr => hs) _) (ownFrom_below (Nat.le_refl _) (Nat.le_refl _)))
       (fun c pre A B row hs hg hr => ⟨hs.1, hs.2.1, hs.2.2.1.own_steps (fun k hk => by have := HSS.out.lt k hk; omega) hg (fun r hr' => (hr r hr').1), touch_own hs.2.2.2 hg (fun r hr' => (hr r hr').1)⟩)
       ⟨rfl, Below.refl _ _⟩
       (fun x => { tmps := #[Value.pointer (some ⟨sb, 0, none⟩), .pointer (some ⟨w.heap.size, 0, none⟩), undef, .pointer (some ⟨wr.heap.size, 0, none⟩), .int .i64 x.1, .pointer (some ⟨sb, 0, none⟩), .slice (some ⟨g, 0, none⟩) m c, .int .i64 m, .int .i64 k, .bool true, .pointer (some ⟨g, k, none⟩), .pointer (some ⟨b, 0, none⟩), .pointer (some ⟨b, 0, none⟩), .pointer (some ⟨b, 0, none⟩), .pointer (some ⟨b, 4, none⟩), .int .i64 2, .bool false, .pointer (some ⟨sb, 0, none⟩), .pointer (some ⟨sb, 0, none⟩), .pointer (some ⟨sb, 1, none⟩), .pointer (some ⟨gb, 0, none⟩), .pointer (some ⟨b, 0, none⟩), .pointer (some ⟨b, 0, none⟩), .pointer (some ⟨b, 2, none⟩), .int .i64 t.group, .func (.func 155) #[] #[.pointer (some ⟨wr.heap.size + 1 + 1, 0, none⟩), .pointer (some ⟨wr.heap.size + 1, 0, none⟩)], .int .i64 x.1, u27, u28, u29, u30, u31, u32, u33, u34, u35, u36, u37, u38, u39], defers := [] }) ?assign ?body ?done ?stop)
      case assign =>
       intro l x W K hK; gi_wp2
       simpa using hK
      case body =>
       rintro l pre ⟨x, hx0, hx1⟩ W ⟨hpa, hBB⟩ hpl; have e1 : 1 ≤ 5 - 1 - 1 := by omega
       obtain ⟨j, rfl⟩ := Int.eq_ofNat_of_zero_le hx0; have hBW2 : Below wr.heap.size wr W := hB2.trans (hBB.mono hB2.size)
       have hSW := HSS.out.below hBW2; obtain ⟨a0, a1, a2, a3⟩ := hSW.acc j (by omega); have hs : spentA S ⟨(j : Int), hx0, hx1⟩ = spentB (S.acc.getD j default).1 (S.acc.getD j default).2.1 (S.acc.getD j default).2.2.1 (S.acc.getD j default).2.2.2 := by unfold spentA; simp
       have hany : (pre ++ [(⟨(j : Int), hx0, hx1⟩ : G16)]).any (spentA S) = spentB (S.acc.getD j default).1 (S.acc.getD j default).2.1 (S.acc.getD j default).2.2.1 (S.acc.getD j default).2.2.2 := by rw [List.any_append, hpa, List.any_cons, List.any_nil, Bool.or_false, Bool.false_or, hs]
       generalize (S.acc.getD j default).1 = q0 at a0 hany; generalize (S.acc.getD j default).2.1 = q1 at a1 hany; generalize (S.acc.getD j default).2.2.1 = q2 at a2 hany; generalize (S.acc.getD j default).2.2.2 = q3 at a3 hany; have hsp := aspent_any q0 q1 q2 q3; generalize spentB q0 q1 q2 q3 = r at hsp hany; have hwb : W.cell? ⟨w.heap.size, 0, none⟩ = some (.pointer (some ⟨sb, 0, none⟩)) := (hBW2.cell (p := ⟨w.heap.size, 0, none⟩) hwz).trans hq; have hwt : W.cell? ⟨wr.heap.size, 0, none⟩ = some (.pointer (some ⟨b, 0, none⟩)) := (hBB.cell (p := ⟨wr.heap.size, 0, none⟩) (by show wr.heap.size < W2.heap.size; omega)).trans kt; have HAN := lH hany; have HSW := lH hSW; have HBBH := lH hBB; have hzW := hBB.size; clear hs kg ki kb kt hany hSW hpa hBB; cases r with
       | false =>
        gi_wp2_with (refine ⟨trivial, ?_⟩; gi_at_call 156; refine (CallsIn.inRound l (callsIn_wide.2 (hsp _))).mono ?_; rintro e w' ⟨rfl, hb⟩)
        exact ⟨(keeps_below hb).from _, kpg_below hb (by have := hBW2.size; omega) (by omega), HAN.out, HBBH.out.trans (hb.mono HBBH.out.size)⟩
       | true =>
        gi_wp2_with (refine ⟨trivial, ?_⟩; gi_at_call 156; refine (CallsIn.inRound l (callsIn_wide.2 (hsp _))).mono ?_; rintro e w' ⟨rfl, hb⟩; have hwb' := (hb.cell (p := ⟨w.heap.size, 0, none⟩) (by show w.heap.size < W.heap.size; omega)).trans hwb; have hwt' := (hb.cell (p := ⟨wr.heap.size, 0, none⟩) (by show wr.heap.size < W.heap.size; omega)).trans hwt)
        have hlv := sleave0 sb gb nb pb mb n cv D cbs tb own S id t t.core.toNat w' (HSW.out.below hb) HTA.out (fun _ => by obtain ⟨i, hi, hil, _⟩ := HCO.out h2; rw [hi]; exact ⟨rfl, by rw [HSS.out.num]; exact hil⟩) (by obtain ⟨i, hi, hil, hf⟩ := HCO.out h2; exact hf); rw [HBB.out] at hlv; have HLT := lH (leaveY_task S id t t.core.toNat HTA.out); have HLS := lH (leaveT_state S t t.core.toNat); have HB5 := lH hb; clear hb hsp; refine ⟨trivial, ?_⟩; refine (CallsIn.inRound l (callsIn_wide.2 hlv)).mono ?_; rintro e w5 ⟨rfl, hS5, hT5⟩; have hT5b := hS5.task id _ HLT.out; rw [HBB.out] at hT5b; have hbe := become_any b _ 6 w5 hT5b.1; rw [HLS.out] at hbe; have hzz := HB5.out.size; have hwt5 := (World.cell?_of_block (a := ⟨wr.heap.size, 0, none⟩) (hT5.block wr.heap.size (World.block_lt_of_cell? _ _ hwt') (fun e => by have := HSS.out.lt _ e; omega))).trans hwt'; have HS5 := lH hS5; have HT5 := lH hT5; have HT5B := lH hT5b; clear hS5 hT5 hT5b hlv; gi_wp2_with fail
        refine ⟨trivial, ?_⟩; refine (CallsIn.inRound l (callsIn_wide.2 hbe)).mono ?_; rintro e w6 ⟨rfl, rfl⟩; gi_wp2_with fail
        have hz5 := HT5.out.size; have htt : Touch (fun j => own j ≠ none) W (w5.setCell ⟨b, 4, none⟩ (.int .i64 (nxt 2 6).1)) := ((Touch.of_below HB5.out).self HT5.out).setCell (t := none) (.inl (by show own b ≠ none; rw [HTO.out]; simp)) _; rw [show (nxt t.state 6).1 = (nxt 2 6).1 by rw [h2]]; refine ⟨⟨htt.size, fun q o hq ho _ => (htt.block q (lt_of_some ho) (fun e => by have := HSS.out.lt q e; omega)).trans ho⟩, rfl, HAN.out, HS5.out.setTask HLT.out (by rw [HBB.out]; exact HT5B.out.1.setState _) (by rw [HBB.out]; exact touch1 _ _ _ _), (Touch.of_below HBBH.out).self htt⟩
      case done =>
       rintro D' ys W hD rfl ⟨hpa, hB3⟩ hK; have hres : (ids.take (k + 1)).foldl holdS s = S := by rw [HS2.out, HHO.out, if_neg (fun e => by rw [HHE.out, hpa] at e; cases e.2)]
       have hKN := HKN.out; rw [HHO.out, if_neg (fun e => by rw [HHE.out, hpa] at e; cases e.2)] at hKN; have HRES := lH hres; have HKN2 := lH hKN; clear hres hKN; go_wp2_with fail
       have hB4 : Below wr.heap.size wr W := hB2.trans (hB3.mono hB2.size)
       refine ⟨⟨k + 1, (k : Int) + 1, _, _, _, _, _, _, _, _, _, _, _, _, _, _, _, _, _, _, _, _, _, _, _, _, _, _, _, _, _, _, _, _, _, _, ⟨by omega, by omega, lH ⟨by rw [HRES.out]; exact HSS.out.below hB4, HTR.out.self (Touch.of_below hB4), by rw [HRES.out]; exact HKN2.out⟩, lH (HMK.out.cons hB4 (by omega) (by have := hB2.size; omega) hK)⟩, rfl⟩, ?_⟩; simp [intOf]; omega
      case stop =>
       rintro D' c' pre W hD hpre ⟨rfl, hin, hSW, hTW⟩ hK; have hany : xs.any (spentA S) = true := any_prefix hpre hin; have hres : (ids.take (k + 1)).foldl holdS s = setTk (leaveY S id t t.core.toNat) id (stT (leaveT S t t.core.toNat) (nxt t.state 6).1) := by rw [HS2.out, HHO.out, if_pos ⟨h2, by rw [HHE.out, hany]⟩]
       have hKN := HKN.out; rw [HHO.out, if_pos ⟨h2, by rw [HHE.out, hany]⟩] at hKN; have HRES := lH hres; have HKN2 := lH hKN; have HSWF := lH hSW; have htw : Touch (fun j => own j ≠ none) wr W := (Touch.of_below hB2).self hTW; have HTW := lH htw; clear hres hKN hSW hTW htw; refine wpIn_wide.2 ?_; go_wp2_with fail
       have hmk : MarksOk w.heap.size ({ target := .collected D', args := #[] } :: ds) W := ⟨⟨D', rfl, by omega, hK, fun d' hd' e => by obtain ⟨r, h1, h2⟩ := HMK.out.lt d' hd'; rw [h1] at e; cases e; omega⟩, HMK.out.touch HTW.out (fun j hj => HOL.out j hj)⟩
       refine ⟨⟨k + 1, (k : Int) + 1, _, _, _, _, _, _, _, _, _, _, _, _, _, _, _, _, _, _, _, _, _, _, _, _, _, _, _, _, _, _, _, _, _, _, ⟨by omega, by omega, lH ⟨by rw [HRES.out]; exact HSWF.out, HTR.out.self HTW.out, by rw [HRES.out]; exact HKN2.out⟩, lH hmk⟩, rfl⟩, ?_⟩; simp [intOf]; omega
    · have hres : (ids.take (k + 1)).foldl holdS s = S := by rw [HS2.out, HHO.out, if_neg (fun e => h2 e.1)]
      have hKN := HKN.out; rw [HHO.out, if_neg (fun e => h2 e.1)] at hKN; have HRES := lH hres; have HKN2 := lH hKN; clear hres hKN; go_wp2_with fail
      have hb3 : Below wr.heap.size wr (wr.alloc (.cells #[.pointer (some ⟨b, 0, none⟩)] 188)) := (Below.refl _ _).alloc (Nat.le_refl _) _; refine ⟨⟨k + 1, (k : Int) + 1, ds, _, _, _, _, _, _, _, _, _, _, _, _, _, _, _, _, _, _, _, _, _, _, _, _, _, _, _, _, _, _, _, _, _, ⟨by omega, by omega, lH ⟨by rw [HRES.out]; exact HSS.out.below hb3, HTR.out.self (Touch.of_below hb3), by rw [HRES.out]; exact HKN2.out⟩, lH (HMK.out.below hb3)⟩, rfl⟩, ?_⟩; simp [intOf]; omega
  · obtain rfl : k = m := by omega
    rw [show ids.take k = ids from List.take_of_length_le (by rw [HM.out]; exact Nat.le_refl _)] at hS; have HSF := lH hS; have HTF := lH hTr; clear hS hTr hKd; go_wp2_with fail
    have hzw : w.heap.size ≤ wr.heap.size := Nat.le_trans HB1.out.size HTF.out.size; refine leaves_marks ds wr HMK.out hzw (fun W' hW' => ?_); refine ⟨_, results_none rfl _ _ _, rfl, ids, HP.out, HPW.out.imp (fun h => by omega), HSF.out.same hW'.size (fun j hj => hW'.block j (HOL.out j hj)), ?_⟩; have tf : Touch (fun j => own j ≠ none) w wr := (Touch.of_below HB1.out).self HTF.out; exact ⟨hW'.os.trans tf.os, hW'.tape.trans tf.tape, hW'.output.trans tf.output, Nat.le_trans tf.size hW'.size, fun j hj hf => (hW'.block j hj).trans (tf.block j hj hf)⟩
end
end Go.Proofs.YtoiajjobecinpaaGreat
