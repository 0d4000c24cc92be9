import Derived.Test.YtoiajjobecinpaaGreatTA36
set_option maxHeartbeats 4000000
namespace Go.Proofs.YtoiajjobecinpaaGreat
open Go.RowKit Go.Shelf Go.Lib Go.Proofs
set_option linter.unusedVariables false
set_option linter.unusedSimpArgs false
theorem good_line {k : Nat} {b : Int} {l : Ln} (h : LnK k b l) (hk : k ≤ 400) (h64 : l.ps.length ≤ 64) : GoodI l.cur (formL l) := by
 have hl : (formL l).length = l.ps.length := by simp [formL]
 have hat : ∀ j (hj : j < l.ps.length), (formL l)[j]! = itP l.base l.ps[j] := fun j hj => by
  rw [getElem!_pos _ j (by omega)]; simp [formL]
 refine ⟨by omega, ?_, fun j hj => ?_, ?_⟩
 · rcases h.cur with e | ⟨p, hp, e⟩
   · exact .inl e
   · right
     rcases posI_cases (formL l) l.cur with ⟨-, hn⟩ | ⟨j, hj, hp, -, -⟩
     · exact absurd e (hn (itP l.base p) (List.mem_map_of_mem hp))
     · omega
 · rw [hl] at hj; rw [hat j hj]; have hp := List.getElem_mem hj; have h1 := h.nn _ hp; have h2 := h.w _ hp; have h3 := h.lag _ hp; refine ⟨?_, fun h0 => ?_⟩
   · unfold mayI itP; rw [goodW_in h2]; simp only [Bool.and_eq_true, decide_eq_true_eq, true_and]; omega
   · rw [hat (j - 1) (by omega)]; exact List.pairwise_iff_getElem.1 h.ids (j - 1) j (by omega) hj (by omega)
 · rcases h.least with e | ⟨p, hp, e⟩
   · left; simp [formL, e]
   · right
     obtain ⟨j, hj, rfl⟩ := List.mem_iff_getElem.1 hp; exact ⟨j, by omega, by rw [hat j hj]; show 0 ≤ l.base - l.ps[j].v; omega⟩
section
variable {k n : Nat} {b : Int} {s : Sy}
theorem taskY_of {x : Int} {t : Tk} (ht : s.tasks x = some t) : taskY s x = toldT s t := by
 unfold taskY; rw [ht]; rfl
theorem ready_item (h : InvY k b n s) {x : Int} (hx : x ∈ listP s.ps) (h2 : (taskY s x).state = 2) : ∃ i : Nat, (taskY s x).core = (i : Int) ∧ i < n ∧ 0 ≤ posI (formL s.cores[i]!.l) (taskY s x).id ∧
 (itemI (formL s.cores[i]!.l) (taskY s x).id).w = (taskY s x).w ∧ (itemI (formL s.cores[i]!.l) (taskY s x).id).lag = (taskY s x).lag := by
 obtain ⟨t, xs, ht, -⟩ := h.some_ hx; have e := taskY_of ht; rw [e] at h2 ⊢; have h2' : t.state = 2 := h2; obtain ⟨i, hi, hin, hh⟩ := h.at_ ht h2'; have hid := (h.task x t ht).id; obtain ⟨p, hp, e1, e2⟩ := hh; rcases posI_cases (formL s.cores[i]!.l) t.id with ⟨-, hn⟩ | ⟨j, hj, hpj, hjd, -⟩
 · exact absurd (e1.trans hid.symm) (hn (itP _ p) (List.mem_map_of_mem hp))
 · have hl : (formL s.cores[i]!.l).length = s.cores[i]!.l.ps.length := by simp [formL]
   refine ⟨i, hi, hin, by show 0 ≤ posI _ t.id; omega, ?_, ?_⟩
   · show (itemI (formL s.cores[i]!.l) t.id).w = t.w; unfold itemI; rw [if_pos (by omega), hpj, Int.toNat_natCast, getElem!_pos _ j hj]; have hw : hasL s.cores[i]!.l x (s.cores[i]!.l.ps[j]'(by omega)).w := ⟨_, List.getElem_mem (by omega), by
      have : (formL s.cores[i]!.l)[j].id = (s.cores[i]!.l.ps[j]'(by omega)).id := by simp [formL, itP]
      rw [← this, hjd, hid], rfl⟩
     obtain ⟨u, hu, -, -, hw2⟩ := (h.on i hin x _).1 hw; rw [ht, Option.some.injEq] at hu; subst hu; rw [hw2]; simp [formL, itP]
   · show (itemI (formL s.cores[i]!.l) t.id).lag = lagY s t; unfold lagY; rw [if_pos h2', hi, Int.toNat_natCast]
def rdC (s : Sy) (c : Nat) (x : Int) : Bool := decide ((taskY s x).state = 2 ∧ (taskY s x).core = (c : Int))
def rdB (s : Sy) (c : Nat) (x : Int) : Bool := decide ((taskY s x).state = 2 ∧ 0 ≤ (taskY s x).core ∧ (taskY s x).core < (c : Int))
def rdA (s : Sy) (x : Int) : Bool := decide ((taskY s x).state = 2)
theorem listP_nodup (h : InvY k b n s) : (listP s.ps).Nodup :=
 List.Pairwise.imp (fun {a b} (hab : a % 64 < b % 64) => by omega) (listFrom_mod s.ps 0 (by rw [h.pslen]; omega))
theorem core_len (h : InvY k b n s) {c : Nat} (hc : c < n) : s.cores[c]!.l.ps.length = ((listP s.ps).filter (rdC s c)).length := by
 have hnd : (s.cores[c]!.l.ps.map (·.id)).Nodup := List.Pairwise.map _ (fun a b (hab : a.id < b.id) => by omega) (h.line c hc).ids; have hmem : ∀ x, x ∈ s.cores[c]!.l.ps.map (·.id) ↔ x ∈ (listP s.ps).filter (rdC s c) := fun x => by
  rw [List.mem_map, List.mem_filter]; constructor
  · rintro ⟨p, hp, rfl⟩; obtain ⟨t, ht, h2, h3, -⟩ := (h.on c hc p.id p.w).1 ⟨p, hp, rfl, rfl⟩; refine ⟨(h.names p.id).1 (by rw [ht]; simp), ?_⟩; unfold rdC; rw [taskY_of ht]; exact decide_eq_true ⟨h2, h3⟩
  · rintro ⟨hx, hr⟩; obtain ⟨t, xs, ht, -⟩ := h.some_ hx; unfold rdC at hr; rw [taskY_of ht] at hr; obtain ⟨h2, h3⟩ := of_decide_eq_true hr; obtain ⟨p, hp, e1, e2⟩ := (h.on c hc x t.w).2 ⟨t, ht, h2, h3, rfl⟩; exact ⟨p, hp, e1⟩
 have h1 := nodup_sub _ _ hnd (fun x hx => (hmem x).1 hx); have h2 := nodup_sub _ _ ((listP_nodup h).filter _) (fun x hx => (hmem x).2 hx); rw [List.length_map] at h1 h2; omega
def sumTo (s : Sy) : Nat → Nat
 | 0 => 0
 | c + 1 => sumTo s c + s.cores[c]!.l.ps.length
theorem filter_part (p q r : Int → Bool) : ∀ l : List Int, (∀ x ∈ l, r x = (p x || q x) ∧ (p x && q x) = false) → (l.filter r).length = (l.filter p).length + (l.filter q).length
 | [], _ => rfl
 | a :: l, h => by
  have ih := filter_part p q r l (fun x hx => h x (List.mem_cons_of_mem _ hx)); obtain ⟨h1, h2⟩ := h a List.mem_cons_self; rw [List.filter_cons, List.filter_cons, List.filter_cons, h1]; cases hp : p a <;> cases hq : q a <;> simp [hp, hq] at h2 ⊢ <;> omega
theorem sum_len (h : InvY k b n s) : ∀ c, c ≤ n → sumTo s c = ((listP s.ps).filter (rdB s c)).length
 | 0, _ => by
  have : (listP s.ps).filter (rdB s 0) = [] := List.filter_eq_nil_iff.2 (fun x hx hh => by
   unfold rdB at hh; have := of_decide_eq_true hh; omega)
  rw [this]; rfl
 | c + 1, hc => by
  have ih := sum_len h c (by omega); show sumTo s c + _ = _; rw [ih, core_len h (by omega : c < n), ← filter_part (rdB s c) (rdC s c) (rdB s (c + 1)) (listP s.ps)]; intro x hx; unfold rdB rdC; constructor
  · rw [← Bool.decide_or, decide_eq_decide]; omega
  · rw [← Bool.decide_and, decide_eq_false_iff_not]; omega
theorem sum_all (h : InvY k b n s) : sumTo s n = ((listP s.ps).filter (rdA s)).length := by
 rw [sum_len h n (Nat.le_refl n)]; congr 1
 apply List.filter_congr
 intro x hx; unfold rdB rdA; rw [decide_eq_decide]; constructor
 · exact fun hh => hh.1
 · intro hh; obtain ⟨i, hi, hin, -⟩ := ready_item h hx hh; exact ⟨hh, by omega, by omega⟩
theorem sum_le (h : InvY k b n s) : ∀ c, c ≤ n → sumTo s c ≤ 64 * c
 | 0, _ => Nat.le_refl _
 | c + 1, hc => by
  have ih := sum_le h c (by omega); have := (h.len64 c (by omega)).1; show sumTo s c + _ ≤ _; omega
end
def cntTo (s : Sy) (l : List Int) (i : Nat) : Nat := ((l.take i).filter (rdA s)).length
theorem cntTo_succ {s : Sy} {l : List Int} {i : Nat} (hi : i < l.length) : cntTo s l (i + 1) = cntTo s l i + (if (taskY s (l.getD i 0)).state = 2 then 1 else 0) := by
 unfold cntTo; have e : l.getD i 0 = l[i] := by rw [List.getD_eq_getElem?_getD, List.getElem?_eq_getElem hi]; rfl
 have e2 : l.take (i + 1) = l.take i ++ [l[i]] := by rw [List.take_add_one, List.getElem?_eq_getElem hi]; rfl
 rw [e2, e, List.filter_append, List.length_append]; congr 1
 unfold rdA; by_cases h : (taskY s l[i]).state = 2
 · rw [if_pos h, List.filter_cons, if_pos (decide_eq_true h)]; rfl
 · rw [if_neg h, List.filter_cons, if_neg (by rw [decide_eq_false h]; decide)]; rfl
theorem cntTo_le (s : Sy) (l : List Int) (i : Nat) : cntTo s l i ≤ i := by
 unfold cntTo; exact Nat.le_trans (List.length_filter_le _ _) (by rw [List.length_take]; omega)
theorem cntTo_all (s : Sy) (l : List Int) : cntTo s l l.length = (l.filter (rdA s)).length := by
 unfold cntTo; rw [List.take_length]
theorem flatF_get : ∀ (l : List (Int × Value)) (c : Nat) (hc : c < l.length), (flatF l)[c * 2]? = some (.int .i64 l[c].1) ∧ (flatF l)[c * 2 + 1]? = some l[c].2
 | [], c, h => by simp at h
 | f :: l, 0, _ => by simp [flatF]
 | f :: l, c + 1, h => by
  have ih := flatF_get l c (by simpa using h); have e : flatF (f :: l) = [.int .i64 f.1, f.2] ++ flatF l := by simp [flatF]
  rw [e, List.getElem?_append_right (by simp; omega), List.getElem?_append_right (by simp; omega)]; simp only [List.length_cons, List.length_nil]; rw [show (c + 1) * 2 - (0 + 1 + 1) = c * 2 by omega, show (c + 1) * 2 + 1 - (0 + 1 + 1) = c * 2 + 1 by omega]; exact ih
theorem forms_at {W : World} {P : Nat → Prop} : ∀ (fs : List (Int × Value)) (cs : List Co) (c : Nat), FormsOk W P fs cs → (hc : c < cs.length) → ∃ hf : c < fs.length, fs[c].1 = cs[c].l.cur ∧ FSl W fs[c].2 (formL cs[c].l)
 | [], [], c, h, hc => by simp at hc
 | [], _ :: _, c, h, hc => h.elim
 | _ :: _, [], c, h, hc => by simp at hc
 | f :: fs, d :: cs, 0, h, hc => ⟨by simp, h.1.1, h.1.2.1⟩
 | f :: fs, d :: cs, c + 1, h, hc => by
  obtain ⟨hf, h1, h2⟩ := forms_at fs cs c h.2 (by simpa using hc); exact ⟨by simpa using hf, by simpa using h1, by simpa using h2⟩
section
attribute [local go_sem] Oper.semAt_some
theorem forms_rows {k n : Nat} {b : Int} {s : Sy} (h : InvY k b n s) {W : World} {P : Nat → Prop} {fl : List (Int × Value)} (hf : FormsOk W P fl s.cores) (c : Nat) (hc : c < n) :
 ∃ p q, (flatF fl)[c * 2]? = some (.int .i64 s.cores[c]!.l.cur) ∧ (flatF fl)[c * 2 + 1]? = some (.slice p s.cores[c]!.l.ps.length q) ∧ FSl W (.slice p s.cores[c]!.l.ps.length q) (formL s.cores[c]!.l) := by
 have hc' : c < s.cores.length := by rw [h.len]; exact hc
 obtain ⟨hl, e1, e2⟩ := forms_at fl s.cores c hf hc'; obtain ⟨f1, f2⟩ := flatF_get fl c hl; rw [getElem!_pos s.cores c hc']; obtain ⟨p, q, e3⟩ : ∃ p q, fl[c].2 = .slice p (formL (s.cores[c]'hc').l).length q := by
  rcases e2 with ⟨e, e'⟩ | ⟨g, cap, e, _⟩
  · rw [e, e']; exact ⟨none, 0, rfl⟩
  · exact ⟨_, cap, e⟩
 have hlen : (formL (s.cores[c]'hc').l).length = (s.cores[c]'hc').l.ps.length := by simp [formL]
 rw [hlen] at e3; exact ⟨p, q, by rw [f1, e1], by rw [f2, e3], by rw [← e3]; exact e2⟩
abbrev OwS (W1 : World) (B5 gf T j : Nat) (cc c1 ln qf : Nat) (pf : Option Addr) (tid cu : Int) (W2 : World) : Prop :=
 Below W1.heap.size W1 W2 ∧ W2.cell? ⟨B5, 1, none⟩ = some (.slice (some ⟨gf, 0, none⟩) cc c1) ∧ W2.cell? ⟨T, 3, none⟩ = some (.int .i64 j) ∧ W2.cell? ⟨T, 0, none⟩ = some (.int .i64 tid) ∧ W2.cell? ⟨gf, j * 2, none⟩ = some (.int .i64 cu) ∧ W2.cell? ⟨gf, j * 2 + 1, none⟩ = some (.slice pf ln qf)
theorem OwS.step {W1 : World} {B5 gf T j cc c1 ln qf : Nat} {pf : Option Addr} {tid cu : Int} {W2 W3 : World} (h : OwS W1 B5 gf T j cc c1 ln qf pf tid cu W2) (hb : Below W2.heap.size W2 W3) : OwS W1 B5 gf T j cc c1 ln qf pf tid cu W3 :=
 ⟨h.1.trans (hb.mono h.1.size), keepB hb h.2.1, keepB hb h.2.2.1, keepB hb h.2.2.2.1, keepB hb h.2.2.2.2.1, keepB hb h.2.2.2.2.2⟩
theorem OwS.allocd {W1 : World} {B5 gf T j cc c1 ln qf : Nat} {pf : Option Addr} {tid cu : Int} {W2 : World} (h : OwS W1 B5 gf T j cc c1 ln qf pf tid cu W2) (o : Obj) : OwS W1 B5 gf T j cc c1 ln qf pf tid cu (W2.alloc o) := h.step ((Below.refl _ _).alloc (Nat.le_refl _) _)
theorem OwS.put {W1 : World} {B5 gf T j cc c1 ln qf : Nat} {pf : Option Addr} {tid cu : Int} {W2 : World} (h : OwS W1 B5 gf T j cc c1 ln qf pf tid cu W2) {B8 : Nat} (hB : W1.heap.size ≤ B8) (h5 : B5 < W1.heap.size) (hg : gf < W1.heap.size) (ht : T < W1.heap.size) (x y z : Value) :
 OwS W1 B5 gf T j cc c1 ln qf pf tid cu (((W2.setCell ⟨B8, 0, none⟩ x).setCell ⟨B8, 1, none⟩ y).setCell ⟨B8, 2, none⟩ z) := by
 have hk : ∀ a : Addr, a.block ≠ B8 → (((W2.setCell ⟨B8, 0, none⟩ x).setCell ⟨B8, 1, none⟩ y).setCell ⟨B8, 2, none⟩ z).cell? a = W2.cell? a := fun a ha => by
  rw [cell_setCell_ne _ (fun e => ha (by rw [e])), cell_setCell_ne _ (fun e => ha (by rw [e])), cell_setCell_ne _ (fun e => ha (by rw [e]))]
 exact ⟨((h.1.setCell (show W1.heap.size ≤ B8 from hB) _).setCell (show W1.heap.size ≤ B8 from hB) _).setCell (show W1.heap.size ≤ B8 from hB) _, (hk _ (by show B5 ≠ B8; omega)).trans h.2.1, (hk _ (by show T ≠ B8; omega)).trans h.2.2.1, (hk _ (by show T ≠ B8; omega)).trans h.2.2.2.1, (hk _ (by show gf ≠ B8; omega)).trans h.2.2.2.2.1, (hk _ (by show gf ≠ B8; omega)).trans h.2.2.2.2.2⟩
set_option maxRecDepth 100000 in
theorem owed_any (tp : Option Addr) (tn tc : Nat) (zs : List Int) (p : Option Addr) (len c : Nat) (W : World) (ht : ReadsI W tp tn zs) (hl : ActsAt W p len) :
 Calls Tryz.prog 6 #[.slice tp tn tc, .slice p len c] W fun e w' => e = .returned (.bool true) ∧ Below W.heap.size W w' := by
 have haw := awake2_any W; have HT := lH ht; have HL := lH hl; clear ht hl; go_enter Tryz.func6, Tryz.ntmps6; go_wp2_with fail
 refine haw.mono ?_; rintro e w0 ⟨rfl, hb0⟩; have HB0 := lH hb0; have hfar := far_any w0 tp tn tc p len c (HL.out.below hb0); clear hb0 haw; go_wp2_with fail
 refine hfar.mono ?_; rintro e w1 ⟨f, rfl, rfl, hf⟩; cases f with
 | true =>
  clear hf hfar; go_wp2_with fail
  go_ret
  exact ⟨rfl, HB0.out⟩
 | false =>
  obtain ⟨t8, l150, few⟩ := hf rfl; have hnew := law_new w0 tp tn tc zs (HT.out.below HB0.out) t8; have HF := lH (And.intro t8 (And.intro l150 few)); clear hf hfar t8 l150 few; go_wp2_with fail
  refine hnew.mono ?_; rintro e w1 (⟨rfl, hb1⟩ | ⟨ob, rfl, hW1, h1n⟩)
  · have HB1 := lH (HB0.out.trans (hb1.mono HB0.out.size)); clear hb1 hnew; go_wp2_with fail
    go_ret
    exact ⟨rfl, HB1.out⟩
  · have HST : Hid (CareI w0 ob tn 0 w1) := lH ⟨_, hW1⟩; clear hW1 hnew h1n; go_wp2_with fail
    go_loopw [7] (fun x wr => ∃ (k : Nat), k ≤ len ∧ x = .int .i64 k ∧ Hid (CareI w0 ob tn k wr)) (fun x _ => len - (intOf x).toNat)
    case atStart => exact ⟨0, Nat.zero_le _, rfl, HST⟩
    case round =>
     obtain ⟨k, hk, rfl, HR⟩ := hrel; have hk0 : 0 ≤ (k : Int) := by omega
     have hl150 := HF.out.2.1; by_cases hkn : (k : Int) < (len : Int)
     · obtain ⟨s, hLW⟩ := HR.out; have hbel := hLW.bel; obtain ⟨g, o, rfl, g1, op, a, b, c', n, m, bl, nb, ⟨k0, k1, k2, k3, k4, k5, k6⟩, ⟨⟨aa1, aa2⟩, n2⟩, hbl⟩ := HL.out k (by omega); have g2 : g < w0.heap.size := Nat.lt_of_lt_of_le g1 HB0.out.size; have hnb : nb ≤ 8 := by
        obtain ⟨pb, cb, hv, -⟩ := id hbl; refine HF.out.2.2 k (by omega) g o rfl pb nb cb ?_; rw [← hv]; exact (HB0.out.cell (p := ⟨g, o + k * 7 + 6, none⟩) g1).trans k6
       have hdo := hLW.do_ (by omega) op a b c' n m bl nb (hbl.below HB0.out) hnb aa1 aa2 n2; unfold actV at hdo; have hcc : ∀ i, wr.cell? ⟨g, i, none⟩ = W.cell? ⟨g, i, none⟩ := fun i => (hbel.cell (p := ⟨g, i, none⟩) g2).trans (HB0.out.cell (p := ⟨g, i, none⟩) g1)
       have d0 := (hcc _).trans k0; have d1 := (hcc _).trans k1; have d2 := (hcc _).trans k2; have d3 := (hcc _).trans k3; have d4 := (hcc _).trans k4; have d5 := (hcc _).trans k5; have d6 := (hcc _).trans k6; clear hLW hbel k0 k1 k2 k3 k4 k5 k6 hbl hnb hcc aa1 aa2 n2 g1 g2 HR; go_wp2_with fail
       refine hdo.mono ?_; rintro e w2 ⟨x, y, s', rfl, hact, hL2⟩; generalize (if y = 0 then x else 0) = v2; have HL2 := lH hL2; have HC2 : Hid (CareI w0 ob tn (k + 1) w2) := lH ⟨s', hL2⟩; have hst := law_state w0 w2 ob tn (k + 1) s' hL2 (by omega); rw [accsK_cnt] at hst; obtain ⟨G, hG⟩ : ∃ G, cntG s'.gs = G := ⟨_, rfl⟩
       rw [hG] at hst; obtain ⟨T, hT⟩ : ∃ T, (listP s'.ps).length = T := ⟨_, rfl⟩
       rw [hT] at hst; have HTT := lH hT; have H64 : Hid (T ≤ 64) := lH (by rw [← hT, ← hL2.inv.pslen]; exact listFrom_len _ _); clear hdo hact hL2 hG hT d0 d1 d2 d3 d4 d5 d6; by_cases hcond : (k : Int) % 5 = 4 ∨ (¬ (k : Int) % 5 = 4 ∧ (k : Int) = (len : Int) - 1)
       · rcases hcond with h5 | ⟨h5, hlast⟩
         all_goals
          go_wp2_with fail
          refine hst.mono ?_; rintro e w5 ⟨a0, a1, a2, a3, a4, c0, c1, c2, c3, c4, fl, P, rfl, hr1, hf, hr2, hb5⟩; have hw6 : Below w5.heap.size w5 (w5.alloc (.cells #[.slice a0 tn c0, .slice a1 tn c1, .slice a2 T c2, .slice a3 G c3, .slice a4 G c4] 44)) := (Below.refl _ w5).alloc (Nat.le_refl _) _; have HC6 : Hid (CareI w0 ob tn (k + 1) (w5.alloc (.cells #[.slice a0 tn c0, .slice a1 tn c1, .slice a2 T c2, .slice a3 G c3, .slice a4 G c4] 44))) := lH ⟨s', HL2.out.below (hb5.alloc hb5.size _)⟩; have HR1 : Hid (RowF (w5.alloc (.cells #[.slice a0 tn c0, .slice a1 tn c1, .slice a2 T c2, .slice a3 G c3, .slice a4 G c4] 44)) a1 (flatF fl)) := lH (hr1.below hw6); have HR2 : Hid (RowF (w5.alloc (.cells #[.slice a0 tn c0, .slice a1 tn c1, .slice a2 T c2, .slice a3 G c3, .slice a4 G c4] 44)) a2 (flatT ((listP s'.ps).map (taskY s')))) := lH (hr2.f.below hw6); have HFM : Hid (∀ c, c < tn → ∃ p q, (flatF fl)[c * 2]? = some (.int .i64 s'.cores[c]!.l.cur) ∧ (flatF fl)[c * 2 + 1]? = some (.slice p s'.cores[c]!.l.ps.length q) ∧ FSl (w5.alloc (.cells #[.slice a0 tn c0, .slice a1 tn c1, .slice a2 T c2, .slice a3 G c3, .slice a4 G c4] 44)) (.slice p s'.cores[c]!.l.ps.length q) (formL s'.cores[c]!.l)) := lH (fun c hc => by
           obtain ⟨p, q, f1, f2, f3⟩ := forms_rows HL2.out.inv hf c hc; exact ⟨p, q, f1, f2, f3.below hw6⟩)
          have HBX := lH (heap_alloc_new w5 (.cells #[.slice a0 tn c0, .slice a1 tn c1, .slice a2 T c2, .slice a3 G c3, .slice a4 G c4] 44)); have HSZ := lH (show (w5.alloc (.cells #[.slice a0 tn c0, .slice a1 tn c1, .slice a2 T c2, .slice a3 G c3, .slice a4 G c4] 44)).heap.size = w5.heap.size + 1 by simp); have HSL := lH (fun c (hc : c ≤ tn) => sum_le HL2.out.inv c hc); clear hw6 hr1 hf hr2 hb5 hst; go_wp2_with fail
          obtain ⟨W6, hW6⟩ : ∃ x, w5.alloc (.cells #[.slice a0 tn c0, .slice a1 tn c1, .slice a2 T c2, .slice a3 G c3, .slice a4 G c4] 44) = x := ⟨_, rfl⟩
          rw [hW6] at HC6 HR1 HR2 HFM HBX HSZ ⊢; obtain ⟨B5, hB5⟩ : ∃ x, w5.heap.size = x := ⟨_, rfl⟩
          rw [hB5] at HBX HSZ ⊢; clear hW6 hB5; go_loopw [9, 10] (fun nx cx wr => ∃ cc : Nat, cc ≤ tn ∧ cx = .int .i64 cc ∧ nx = .int .i64 (sumTo s' cc) ∧ Hid (Below W6.heap.size W6 wr)) (fun _ cx _ => tn - (intOf cx).toNat)
          case atStart => exact ⟨0, Nat.zero_le _, rfl, rfl, lH (Below.refl _ _)⟩
          case round =>
           obtain ⟨cc, hcc, rfl, rfl, HBQ⟩ := hrel; have hcc0 : 0 ≤ (cc : Int) := by omega
           have htn8 := HF.out.1; have hsl := HSL.out cc hcc; have hsz := HSZ.out; have hbx : wr.heap[B5]? = _ := (HBQ.out.block B5 (by omega)).trans HBX.out; obtain ⟨⟨b0, b1, b2, b3, b4⟩, -, -⟩ := cells5 hbx; by_cases hct : cc < tn
           · obtain ⟨pf, qf, f1, f2, f3⟩ := HFM.out cc hct; have hln := HL2.out.inv.line cc hct; have h64 := (HL2.out.inv.len64 cc hct).1; have hgd := good_line hln (by omega) h64; obtain ⟨gf, rfl, u0, z0⟩ := HR1.out _ _ f1; obtain ⟨g', hg', u1, z1⟩ := HR1.out _ _ f2; simp only [Option.some.injEq, Addr.mk.injEq, and_true] at hg'; subst hg'; have z0' := (HBQ.out.cell (p := ⟨gf, cc * 2, none⟩) u0).trans z0; have z1' := (HBQ.out.cell (p := ⟨gf, cc * 2 + 1, none⟩) u1).trans z1; have hgood := good_any s'.cores[cc]!.l.cur _ (formL s'.cores[cc]!.l) wr (f3.below HBQ.out) (by unfold formL; rw [List.length_map]; omega); have HSU : Hid (sumTo s' (cc + 1) = sumTo s' cc + s'.cores[cc]!.l.ps.length) := lH rfl; obtain ⟨cu, hcu⟩ : ∃ x, s'.cores[cc]!.l.cur = x := ⟨_, rfl⟩
             obtain ⟨ln, hlen⟩ : ∃ x, s'.cores[cc]!.l.ps.length = x := ⟨_, rfl⟩
             rw [hcu] at z0' hgood hgd; rw [hlen] at z1' hgood HSU h64; have HGD := lH hgd; have hct' : (cc : Int) < (tn : Int) := by omega
             have HU := lH (And.intro u0 u1); clear f1 f2 f3 hln hgd u0 u1 z0 z1 hcu hlen hbx; obtain ⟨sm, hsm⟩ : ∃ x, sumTo s' cc = x := ⟨_, rfl⟩
             rw [hsm] at HSU hsl ⊢; clear hsm; go_wp2_with fail
             refine hgood.mono ?_; rintro e w6 ⟨bb, rfl, hbb, hb6⟩; obtain rfl : bb = true := hbb.2 HGD.out; have HB6 := lH hb6; have b1' := (hb6.cell (p := ⟨B5, 1, none⟩) (by have := HBQ.out.size; show B5 < _; omega)).trans b1; have z1'' := (hb6.cell (p := ⟨gf, cc * 2 + 1, none⟩) (Nat.lt_of_lt_of_le HU.out.2 HBQ.out.size)).trans z1'; have HBQ6 := lH (HBQ.out.trans (hb6.mono HBQ.out.size)); have hln64 : ln ≤ 64 := h64; clear hbb hb6 hgood b0 b1 b2 b3 b4 z0' z1'; go_wp2_with fail
             go_roundw
             case rel => exact ⟨cc + 1, by omega, by go_num, by rw [HSU.out]; go_num, HBQ6⟩
             case measure => simp [intOf]; omega
           · obtain rfl : cc = tn := by omega
             obtain ⟨SM, hSM⟩ : ∃ x, sumTo s' cc = x := ⟨_, rfl⟩
             have HSM := lH hSM; rw [hSM] at hsl ⊢; clear hSM; go_wp2_with fail
             obtain ⟨wA, hwA⟩ : ∃ x, x = wr := ⟨_, rfl⟩
             have HBQ0 := HBQ; rw [← hwA] at HBQ0 ⊢; clear hwA HBQ b0 b1 b2 b3 b4 hbx; go_loopw [9, 11] (fun nx kx wr => ∃ i : Nat, i ≤ T ∧ kx = .int .i64 i ∧ nx = .int .i64 ((SM : Int) - (cntTo s' (listP s'.ps) i : Nat)) ∧ Hid (Below W6.heap.size W6 wr)) (fun _ kx _ => T - (intOf kx).toNat)
             case atStart => exact ⟨0, Nat.zero_le _, rfl, by show Value.int .i64 (SM : Int) = .int .i64 ((SM : Int) - ((0 : Nat) : Int)); simp, HBQ0⟩
             case round =>
              obtain ⟨i, hi, rfl, rfl, HBQ⟩ := hrel; have hi0 : 0 ≤ (i : Int) := by omega
              have h64 := H64.out; have hbx : wr.heap[B5]? = _ := (HBQ.out.block B5 (by omega)).trans HBX.out; obtain ⟨⟨b0, b1, b2, b3, b4⟩, -, -⟩ := cells5 hbx; have hcl := cntTo_le s' (listP s'.ps) i; by_cases hiT : i < T
              · obtain ⟨t, htk, hid, hin, r0, r1, r2, r3, r4, r5, r6⟩ := tasks_rows HL2.out.inv HTT.out i hiT; have hcs := cntTo_succ (s := s') (l := listP s'.ps) (i := i) (by rw [HTT.out]; exact hiT); have hrd := ready_item HL2.out.inv hin; rw [← htk] at hcs hrd; have HCS := lH hcs; have HRD := lH hrd; obtain ⟨gt, rfl, u0, s0⟩ := HR2.out _ _ r0; have hall : ∀ f z, (flatT ((listP s'.ps).map (taskY s')))[i * 7 + f]? = some z → wr.cell? ⟨gt, i * 7 + f, none⟩ = some z := fun f z hz => by
                 obtain ⟨g', hg', u1, s1⟩ := HR2.out _ _ hz; simp only [Option.some.injEq, Addr.mk.injEq, and_true] at hg'; subst hg'; exact (HBQ.out.cell (p := ⟨gt, i * 7 + f, none⟩) u1).trans s1
                have z0 := hall 0 _ r0; have z1 := hall 1 _ r1; have z2 := hall 2 _ r2; have z3 := hall 3 _ r3; have z4 := hall 4 _ r4; have z5 := hall 5 _ r5; have z6 := hall 6 _ r6; rw [Nat.add_zero] at z0; have hiT' : (i : Int) < (T : Int) := by omega
                obtain ⟨ct, hct⟩ : ∃ x, cntTo s' (listP s'.ps) i = x := ⟨_, rfl⟩
                rw [hct] at HCS hcl ⊢; clear hcs hrd hin r0 r1 r2 r3 r4 r5 r6 u0 s0 hall htk hid hct b0 b3 b4 hbx; obtain ⟨tid, tw, tg, tcr, tst, tms, tlg⟩ := t; simp only at z0 z1 z2 z3 z4 z5 z6; have hsz6 := HSZ.out; have hwz := HBQ.out.size; have hB5l : B5 < wr.heap.size := by omega
                by_cases h2 : tst = 2
                · subst h2; obtain ⟨j, hj, hjn, hpos, hw, hlag⟩ := HRD.out rfl; simp only at hj hpos hw hlag; subst hj; obtain ⟨pf, qf, f1, f2, f3⟩ := HFM.out j hjn; obtain ⟨gf, rfl, v0, y0⟩ := HR1.out _ _ f1; obtain ⟨g', hg', v1, y1⟩ := HR1.out _ _ f2; simp only [Option.some.injEq, Addr.mk.injEq, and_true] at hg'; subst hg'; have y0' := (HBQ.out.cell (p := ⟨gf, j * 2, none⟩) v0).trans y0; have y1' := (HBQ.out.cell (p := ⟨gf, j * 2 + 1, none⟩) v1).trans y1; have h64j := (HL2.out.inv.len64 j hjn).1; have hbt := heap_alloc_new wr (.cells #[.int .i64 tid, .int .i64 tw, .int .i64 tg, .int .i64 j, .int .i64 2, .int .u16 tms, .int .i64 tlg] 60); have hBT : Below wr.heap.size wr (wr.alloc (.cells #[.int .i64 tid, .int .i64 tw, .int .i64 tg, .int .i64 j, .int .i64 2, .int .u16 tms, .int .i64 tlg] 60)) := (Below.refl _ wr).alloc (Nat.le_refl _) _; have hfi : ∀ W', Below (wr.alloc (.cells #[.int .i64 tid, .int .i64 tw, .int .i64 tg, .int .i64 j, .int .i64 2, .int .u16 tms, .int .i64 tlg] 60)).heap.size (wr.alloc (.cells #[.int .i64 tid, .int .i64 tw, .int .i64 tg, .int .i64 j, .int .i64 2, .int .u16 tms, .int .i64 tlg] 60)) W' → Calls Tryz.prog 22 #[.agg #[.int .i64 s'.cores[j]!.l.cur, .slice pf s'.cores[j]!.l.ps.length qf], .int .i64 tid] W' (FindP (formL s'.cores[j]!.l) tid W') := fun W' hb => finditem_any _ _ _ _ W' (((f3.below HBQ.out).below hBT).below hb) (by unfold formL; rw [List.length_map]; omega); unfold FindP at hfi; rw [decide_eq_true hpos, hw, hlag] at hfi; obtain ⟨cu, hcu⟩ : ∃ x, s'.cores[j]!.l.cur = x := ⟨_, rfl⟩
                  obtain ⟨ln, hlen⟩ : ∃ x, s'.cores[j]!.l.ps.length = x := ⟨_, rfl⟩
                  obtain ⟨ii, hii⟩ : ∃ x, (itemI (formL s'.cores[j]!.l) tid).id = x := ⟨_, rfl⟩
                  rw [hcu] at y0' hfi; rw [hlen] at y1' hfi; rw [hii] at hfi; have hj0 : 0 ≤ (j : Int) := by omega
                  have hj1 : (j : Int) < (cc : Int) := by omega
                  have HCT : Hid (cntTo s' (listP s'.ps) (i + 1) = ct + 1) := lH (by rw [HCS.out]; rfl); have hgfl : gf < wr.heap.size := Nat.lt_of_lt_of_le v0 HBQ.out.size; have HGF := lH hgfl; clear f1 f2 f3 v0 v1 y0 y1 hpos hw hlag hcu hlen hii h64j HRD HCS; go_wp2_with fail
                  have hsz1 : (wr.alloc (.cells #[.int .i64 tid, .int .i64 tw, .int .i64 tg, .int .i64 j, .int .i64 2, .int .u16 tms, .int .i64 tlg] 60)).heap.size = wr.heap.size + 1 := by simp
                  have k1 := keepB hBT b1; have k2 := keepB hBT y0'; have k3 := keepB hBT y1'; have HB1 := lH (HBQ.out.alloc HBQ.out.size (.cells #[.int .i64 tid, .int .i64 tw, .int .i64 tg, .int .i64 j, .int .i64 2, .int .u16 tms, .int .i64 tlg] 60)); obtain ⟨Bt, hBtE⟩ : ∃ x, wr.heap.size = x := ⟨_, rfl⟩
                  obtain ⟨W1, hW1⟩ : ∃ x, wr.alloc (.cells #[.int .i64 tid, .int .i64 tw, .int .i64 tg, .int .i64 j, .int .i64 2, .int .u16 tms, .int .i64 tlg] 60) = x := ⟨_, rfl⟩
                  rw [hW1] at hfi hsz1 k1 k2 k3 HB1 hbt ⊢; rw [hBtE] at hsz1 hbt hgfl hB5l ⊢; clear hW1 hBtE hBT b1 b2 y0' y1' z0 z1 z2 z3 z4 z5 z6; have t0 : W1.cell? ⟨Bt, 0, none⟩ = some (.int .i64 tid) := by simp only [World.cell?, hbt]; rfl
                  have t1 : W1.cell? ⟨Bt, 1, none⟩ = some (.int .i64 tw) := by simp only [World.cell?, hbt]; rfl
                  have t3 : W1.cell? ⟨Bt, 3, none⟩ = some (.int .i64 j) := by simp only [World.cell?, hbt]; rfl
                  have t6 : W1.cell? ⟨Bt, 6, none⟩ = some (.int .i64 tlg) := by simp only [World.cell?, hbt]; rfl
                  have hl5 : B5 < W1.heap.size := by omega
                  have hlg : gf < W1.heap.size := by omega
                  have hlt : Bt < W1.heap.size := by omega
                  have hS : OwS W1 B5 gf Bt j cc c1 ln qf pf tid cu W1.drew := ⟨(Below.refl _ _).drew, k1, t3, t0, k2, k3⟩
                  have HT1 := lH (And.intro t1 t6); clear hbt k1 k2 k3 t0 t1 t3 t6 hsz1 hwz hsz6; go_region_held3 (OwS W1 B5 gf Bt j cc c1 ln qf pf tid cu) (first | (with_reducible exact hS) | exact hS | exact hS.allocd _ | exact hS.put hz9 hl5 hlg hlt _ _ _) (first | (go_at_call 22; refine (hfi _ hS.1).mono ?_; rintro e w9 ⟨rfl, hb9⟩; replace hS := hS.step hb9) | (go_at_call 22; refine (hfi _ (hS.allocd (.cells #[.int .i64 0, .int .i64 0, .int .i64 0] 77)).1).mono ?_; rintro e w9 ⟨rfl, hb9⟩; have hz9 : W1.heap.size ≤ W1.heap.size := Nat.le_refl _; have hI9 : IBox w9 W1.heap.size ⟨0, 0, 0⟩ := (ibox_new W1.drew ⟨0, 0, 0⟩).below hb9 (ibox_new W1.drew ⟨0, 0, 0⟩).lt; obtain ⟨⟨ic0, ic1, ic2⟩, if0, if1, if2⟩ := hI9.cells; replace hS := (hS.allocd _).step hb9) | fail)
                  all_goals
                   rename_i hHd; first
                    | (have hE : RdE W1 w9.heap.size ⟨ii, tw, tlg⟩ (w9.alloc (.cells #[.int .i64 ii, .int .i64 tw, .int .i64 tlg] 77)) := ⟨hHd.1, hS.1.size, ibox_new w9 ⟨ii, tw, tlg⟩⟩
                       clear hHd hS; generalize w9.alloc (.cells #[.int .i64 ii, .int .i64 tw, .int .i64 tlg] 77) = Wf at hE ⊢; generalize w9.heap.size = B8 at hE ⊢)
                    | (have hE : RdE W1 W1.heap.size ⟨ii, tw, tlg⟩ (((w9.setCell ⟨W1.heap.size, 0, none⟩ (.int .i64 ii)).setCell ⟨W1.heap.size, 1, none⟩ (.int .i64 tw)).setCell ⟨W1.heap.size, 2, none⟩ (.int .i64 tlg)) := ⟨hHd.1, hz9, hI9.set ⟨ii, tw, tlg⟩⟩
                       clear hHd hS hI9 ic0 ic1 ic2 if0 if1 if2; generalize ((w9.setCell ⟨W1.heap.size, 0, none⟩ (.int .i64 ii)).setCell ⟨W1.heap.size, 1, none⟩ (.int .i64 tw)).setCell ⟨W1.heap.size, 2, none⟩ (.int .i64 tlg) = Wf at hE ⊢; generalize W1.heap.size = B8 at hE ⊢)
                  all_goals
                   obtain ⟨hbE, hzE, hIE⟩ := hE; have i1 := hIE.cells.1.2.1; have i2 := hIE.cells.1.2.2; simp only at i1 i2; have t1 := keepB hbE HT1.out.1; have t6 := keepB hbE HT1.out.2; have HBF := lH (HB1.out.trans (hbE.mono HB1.out.size)); clear hbE hzE hIE hfi hb9; go_wp2_with fail
                   go_roundw
                   case rel => exact ⟨i + 1, by omega, by go_num, by rw [HCT.out]; congr 1; omega, HBF⟩
                   case measure => simp [intOf]; omega
                · have HCT : Hid (cntTo s' (listP s'.ps) (i + 1) = ct) := lH (by rw [HCS.out, if_neg (by exact h2)]; rfl); clear HRD HCS; go_wp2_with fail
                  go_roundw
                  case rel => exact ⟨i + 1, by omega, by go_num, by rw [HCT.out], lH (HBQ.out.alloc HBQ.out.size _)⟩
                  case measure => simp [intOf]; omega
              · obtain rfl : i = T := by omega
                have hall0 : cntTo s' (listP s'.ps) i = SM := by
                 have e1 := cntTo_all s' (listP s'.ps); rw [HTT.out] at e1; rw [e1, ← HSM.out, sum_all HL2.out.inv]
                rw [hall0, Int.sub_self]; have HQ : Hid (CareI w0 ob cc (k + 1) wr) := lH (by
                 obtain ⟨s2, h2⟩ := HC6.out; exact ⟨s2, h2.below HBQ.out⟩)
                clear hall0 hcl; go_wp2_with fail
                go_roundw
                case rel => exact ⟨k + 1, by omega, by go_num, HQ⟩
                case measure => simp [intOf]; omega
       · have hc1 : ¬ (k : Int) % 5 = 4 := fun h => hcond (.inl h); have hc2 : ¬ (k : Int) = (len : Int) - 1 := fun h => hcond (.inr ⟨hc1, h⟩); have hb1 : ((k : Int) % 5 != 4) = true := by simpa using hc1
         have hb2 : ((k : Int) != (len : Int) - 1) = true := by simpa using hc2
         clear hcond hst; go_wp2_with fail
         go_roundw
         case rel => exact ⟨k + 1, by omega, by go_num, HC2⟩
         case measure => simp [intOf]; omega
     · obtain ⟨s, hLW⟩ := HR.out; have HQ := lH (HB0.out.trans (hLW.bel.mono HB0.out.size)); clear hLW HR; go_wp2_with fail
       go_ret
       exact ⟨rfl, HQ.out⟩
end
end Go.Proofs.YtoiajjobecinpaaGreat

