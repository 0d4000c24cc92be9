/- slices.Delete of one point. Leave: a task out of a line. The greatest load; a set of one core. Masks. Whether a group on -/
import Derived.Shelf.RegionOpenPlain
import Derived.Deep.LoopGhost
import Derived.Lib.Walk
import Derived.Sort.WalkB12
import Derived.Lib.SliceRun
import Derived.Test.YtoiajjobecinpaaGreatTA07
set_option maxHeartbeats 4000000
namespace Go.Proofs.YtoiajjobecinpaaGreat
open Go.RowKit Go.Shelf Go.Lib Go.Proofs
set_option linter.unusedVariables false
set_option linter.unusedSimpArgs false
theorem setCells_touch (g : Nat) : ∀ (vs : List Value) (o : Nat) (W : World), Touch (fun k => k = g) W (W.setCells g o vs)
 | [], _, W => Touch.refl _ W
 | v :: r, o, W => (touch1 W g o v).self (setCells_touch g r (o + 1) _)
theorem setCells_row (g : Nat) (T : TypeId) : ∀ (vs : List Value) (o : Nat) (W : World) (cur : Array Value), W.heap[g]? = some (.cells cur T (0, 0)) →
 ∃ cur' : Array Value, (W.setCells g o vs).heap[g]? = some (.cells cur' T (0, 0)) ∧ cur'.size = cur.size ∧ ∀ j, j < cur.size → cur'[j]? = if o ≤ j ∧ j < o + vs.length then vs[j - o]? else cur[j]?
 | [], o, W, cur, h => ⟨cur, h, rfl, fun j hj => by rw [if_neg (by simp only [List.length_nil]; omega)]⟩
 | v :: r, o, W, cur, h => by
  obtain ⟨cur', h1, h2, h3⟩ := setCells_row g T r (o + 1) (W.setCell ⟨g, o, none⟩ v) _ (heap_setCell_row h); refine ⟨cur', h1, by rw [h2]; simp, fun j hj => ?_⟩; rw [h3 j (by simpa using hj)]; by_cases e : o = j
  · subst e; rw [if_neg (by omega), if_pos (by simp), Array.getElem?_setIfInBounds]; simp [hj]
  · by_cases e2 : o + 1 ≤ j ∧ j < o + 1 + r.length
    · rw [if_pos e2, if_pos (by simp only [List.length_cons]; omega)]; rw [show j - o = (j - (o + 1)) + 1 by omega, List.getElem?_cons_succ]
    · rw [if_neg e2, if_neg (by simp only [List.length_cons]; omega), Array.getElem?_setIfInBounds, if_neg e]
theorem flatP_one : ∀ (ps : List Pt) (v : Value), v ∈ flatP ps → v.oneCell' = true
 | [], v, h => by simp [flatP] at h
 | p :: l, v, h => by
  rw [flatP, List.mem_append] at h; rcases h with h | h
  · simp [Pt.cells] at h
    rcases h with rfl | rfl | rfl | rfl <;> rfl
  · exact flatP_one l v h
def zero4 : List Value := [.int .i64 0, .int .i64 0, .int .i64 0, .int .i64 0]
theorem zv338 (w : World) : (zeroValue 338).run Tryz.prog w = .ok (.agg #[.int .i64 0, .int .i64 0, .int .i64 0, .int .i64 0]) w := Tryz.zeroValue338 w
theorem clear_one (W : World) (ty : TypeId) (g o c : Nat) (hc : ∀ j, j < 4 → (W.cell? ⟨g, o + j, none⟩).isSome = true) (hf : ∀ j, j < 4 → W.frozen? ⟨g, o + j, none⟩ = false) :
 (Builtin.clear_ #[265] ty #[.slice (some ⟨g, o, none⟩) 1 c]).run Tryz.prog W = .ok (.tuple #[]) (W.setCells g o zero4) := by
 have hzc : (Builtin.zeroCells (Value.agg #[.int .i64 0, .int .i64 0, .int .i64 0, .int .i64 0]).cells 1).toList = zero4 := by simp [Builtin.zeroCells, Value.cells, zero4, List.range_succ]
 have hst := run_storeCells_cells (P := Tryz.prog) g o zero4 0 W (by simpa [zero4] using hc) (by simpa [zero4] using hf) (by intro v hv'; simp [zero4] at hv'; rw [hv']; rfl); simp only [Nat.add_zero] at hst; simp [Builtin.clear_, run_underlying Tryz.underlying265, zv338, hzc, hst]
set_option maxRecDepth 100000 in
theorem delete_any (g cap n i j : Nat) (ps : List Pt) (W : World) (h : W.ownsRow 0 338 4 (.slice (some ⟨g, 0, none⟩) n cap) n (flatP ps)) (hn : ps.length = n) (hi : i < n) (hj : j = i + 1) :
 Calls Tryz.prog 280 #[.slice (some ⟨g, 0, none⟩) n cap, .int .i64 i, .int .i64 j] W fun e w' => e = .returned (.slice (some ⟨g, 0, none⟩) (n - 1) cap) ∧
  w'.ownsRow 0 338 4 (.slice (some ⟨g, 0, none⟩) (n - 1) cap) (n - 1) (flatP (ps.eraseIdx i)) ∧ Touch (fun k => k = g) W w' := by
 obtain ⟨cur, hgg, hnc, hcm, hsz, htk⟩ : ∃ cur, W.heap[g]? = some (.cells cur 338 (0, 0)) ∧ n ≤ cap ∧ cap ≤ maxLen ∧ cur.size = cap * 4 ∧ cur.toList.take (n * 4) = flatP ps := by
  rcases h.2 with ⟨e, _⟩ | ⟨g', cap', cur, e, _, hgg, h1, h2, h3, h4⟩
  · cases e
  · simp only [Value.slice.injEq, Option.some.injEq, Addr.mk.injEq] at e; obtain ⟨⟨rfl, _⟩, _, rfl⟩ := e; exact ⟨cur, hgg, h1, h2, h3, h4⟩
 obtain ⟨i0, hi0, hz0, hz1, hz2⟩ := info_parts info338; have hcell : ∀ t, t < cap * 4 → ∃ v, cur[t]? = some v ∧ W.cell? ⟨g, t, none⟩ = some v := fun t ht => by
  rw [← hsz] at ht; exact ⟨cur[t], Array.getElem?_eq_getElem ht, by simp [World.cell?, hgg, Array.getElem?_eq_getElem ht]⟩
 have hfro : ∀ t, W.frozen? ⟨g, t, none⟩ = false := fun t => by simp [World.frozen?, hgg]
 have hps : ∀ t, t < n * 4 → cur[t]? = (flatP ps)[t]? := fun t ht => by
  rw [← htk, List.getElem?_take, if_pos ht, Array.getElem?_toList]
 obtain ⟨news, hnews⟩ : ∃ news, news = flatP (ps.drop j) := ⟨_, rfl⟩
 have hdr : flatP ps = flatP (ps.take j) ++ flatP (ps.drop j) := by rw [← flatP_append, List.take_append_drop]
 have hlen : news.length = (n - j) * 4 := by rw [hnews, flatP_length, List.length_drop, hn]
 have hget : ∀ t, t < (n - j) * 4 → news[t]? = cur[j * 4 + t]? := fun t ht => by
  rw [hps _ (by omega), hdr, hnews, List.getElem?_append_right (by rw [flatP_length, List.length_take]; omega), flatP_length, List.length_take]; congr 1; omega
 obtain ⟨A, hA, hsrc⟩ : ∃ A : Addr, (if cap = j then (some ⟨g, 0, none⟩ : Option Addr) else some ⟨g, j * 4, none⟩) = some A ∧ Hid (∀ t u, news[t]? = some u → W.drew.cell? (A.add t) = some u) := by
  by_cases e : cap = j
  · refine ⟨⟨g, 0, none⟩, by simp [e], fun t u hu => ?_⟩; have h0 : news.length = 0 := by rw [hlen]; omega
    rw [List.length_eq_zero_iff.1 h0] at hu; simp at hu
  · refine ⟨⟨g, j * 4, none⟩, by simp [e], fun t u hu => ?_⟩; have ht : t < (n - j) * 4 := by
     have := (List.getElem?_eq_some_iff.1 hu).1; rwa [hlen] at this
    rw [hget t ht] at hu; rw [Addr.add_lit]; obtain ⟨v, h1, h2⟩ := hcell (j * 4 + t) (by omega); rw [h1] at hu; cases hu; exact h2
 have s1 : Hid (news.length = (n - j) * 4) := hlen; have s2 : Hid (∀ u ∈ news, u.oneCell' = true) := by rw [hnews]; exact flatP_one _
 have s3 : Hid (∀ t, t < news.length → (W.drew.cell? ⟨g, 0 + i * 4 + t, none⟩).isSome = true ∧ W.drew.frozen? ⟨g, 0 + i * 4 + t, none⟩ = false) := by
  intro t ht; rw [hlen] at ht; obtain ⟨v, h1, h2⟩ := hcell (0 + i * 4 + t) (by omega); exact ⟨by show (W.cell? _).isSome = true; rw [h2]; rfl, hfro _⟩
 obtain ⟨W1, hW1⟩ : ∃ W1, W1 = W.drew.setCells g (0 + i * 4) news := ⟨_, rfl⟩
 obtain ⟨c1, hg1, hs1, ht1⟩ := setCells_row g 338 news (0 + i * 4) W.drew cur hgg; rw [← hW1] at hg1; have hcl : ∀ ty, (Builtin.clear_ #[265] ty #[.slice (some ⟨g, (i + (n - j)) * 4, none⟩) (n - (i + (n - j))) (cap - (i + (n - j)))]).run Tryz.prog W1 = .ok (.tuple #[]) (W1.setCells g ((i + (n - j)) * 4) zero4) := fun ty => by
  rw [show n - (i + (n - j)) = 1 by omega]; refine clear_one W1 ty g _ _ (fun t ht => ?_) (fun t ht => by simp [World.frozen?, hg1]); simp only [World.cell?, hg1]; rw [Array.getElem?_eq_getElem (by omega)]; rfl
 have HX : Hid ((W1.setCells g ((i + (n - j)) * 4) zero4).ownsRow 0 338 4 (.slice (some ⟨g, 0, none⟩) (n - 1) cap) (n - 1) (flatP (ps.eraseIdx i)) ∧ Touch (fun k => k = g) W (W1.setCells g ((i + (n - j)) * 4) zero4)) := by
  obtain ⟨c2, hg2, hs2, ht2⟩ := setCells_row g 338 zero4 ((i + (n - j)) * 4) W1 c1 hg1; refine ⟨⟨by rw [flatP_length, List.length_eraseIdx, if_pos (by omega), hn], .inr ⟨g, cap, c2, rfl, Nat.zero_le _, hg2, by omega, hcm, by rw [hs2, hs1, hsz], ?_⟩⟩, ?_⟩
  · rw [List.eraseIdx_eq_take_drop_succ, flatP_append, ← hj, ← hnews]; apply List.ext_getElem?
    intro t; have e4 : zero4.length = 4 := rfl; by_cases ht : t < (n - 1) * 4
    · rw [List.getElem?_take, if_pos ht, Array.getElem?_toList, ht2 t (by omega), if_neg (by omega), ht1 t (by omega)]; by_cases e : t < i * 4
      · rw [if_neg (by omega), hps t (by omega), List.getElem?_append_left (by rw [flatP_length, List.length_take]; omega)]; have : flatP ps = flatP (ps.take i) ++ flatP (ps.drop i) := by rw [← flatP_append, List.take_append_drop]
        rw [this, List.getElem?_append_left (by rw [flatP_length, List.length_take]; omega)]
      · rw [if_pos (by omega), List.getElem?_append_right (by rw [flatP_length, List.length_take]; omega), flatP_length, List.length_take]; congr 1; omega
    · rw [List.getElem?_take, if_neg ht, List.getElem?_eq_none]; rw [List.length_append, flatP_length, List.length_take, hlen]; omega
  · rw [hW1]; exact ((Touch.refl _ W).drew.self (setCells_touch g _ _ _)).self (setCells_touch g _ _ _)
 have hW : Hid (W1 = W.drew.setCells g (0 + i * 4) news) := hW1; have hic : i ≤ cap := by omega
 have hjc : j ≤ cap := by omega
 have hjn : j ≤ n := by omega
 have hij : i ≤ j := by omega
 have hne : ¬ ((i : Int) = (j : Int)) := by omega
 have hne2 : (j : Int) = (i : Int) + 1 := by omega
 have hmx : Tryz.prog.follows .mixedOrders = true := by kernel_rfl
 have HJ := lH hj; clear hj hW1 hg1 hs1 ht1 hget hlen hdr hps hcell hfro htk hgg hnews h hne2; go_enter Tryz.func280, Tryz.ntmps280; go_wp2_with fail
 go_region_law_o (refine step_append_room rfl (.tmp 22) (.tmp 25) 265 rfl 338 i0 4 Tryz.underlying265 hi0 hz1 g 0 i cap (by simp [Act.eval, Act.put]) A (n - j) (cap - j) news (by simp [Act.eval, Act.put]) s1.out hsrc.out s2.out (by omega) s3.out ?_; rw [← hW.out])
 go_wp2
 go_ret
 exact ⟨by rw [show n - 1 = i + (n - j) by have := HJ.out; omega]; rfl, HX.out⟩
theorem below_dN (B : Nat) (W : World) (q : Nat) : Below B W (W.drewN q) := ⟨rfl, rfl, rfl, Nat.le_refl _, fun _ _ => rfl⟩
def leaveL (l : Ln) (id : Int) : Int × Int × Ln :=
 if posP l.ps id < 0 then (0, 2, l)
 else (l.base - (l.ps[(posP l.ps id).toNat]!).v, 0, ⟨growB l.base (l.ps.eraseIdx (posP l.ps id).toNat), if l.cur = id then -1 else l.cur, l.ps.eraseIdx (posP l.ps id).toNat⟩)
def LeaveP (b : Nat) (v : Value) (r : Int × Int × Ln) (W : World) (e : Ending) (w' : World) : Prop :=
 e = .returned (.tuple #[.int .i64 r.1, .int .i64 r.2.1]) ∧ ∃ v', LineAt w' b v' r.2.2 ∧ Touch (lfp b v) W w' ∧ (∀ k, v'.ownBlock = some k → v.ownBlock = some k)
set_option maxRecDepth 100000 in
theorem leave_any (b : Nat) (v : Value) (l : Ln) (id : Int) (W : World) (h : LineAt W b v l) (hlen : l.ps.length ≤ 64) (hb0 : -2305843009213693952 ≤ l.base ∧ l.base ≤ 2305843009213693952)
 (hv : ∀ p ∈ l.ps, -2305843009213693952 ≤ p.v ∧ p.v ≤ 4611686018427387904) :
 Calls Tryz.prog 272 #[.pointer (some ⟨b, 0, none⟩), .int .i64 id] W (LeaveP b v (leaveL l id) W) := by
 have hfind := find_any b v l id W h; rcases posP_cases l.ps id with ⟨hp, _⟩ | ⟨k, hk, hp, _⟩
 · have hr : leaveL l id = (0, 2, l) := by unfold leaveL; rw [if_pos (by omega)]
   rw [hp] at hfind; unfold LeaveP; rw [hr]; have HL := lH h; clear h hp hr; go_enter Tryz.func272, Tryz.ntmps272; go_wp2_with fail
   refine hfind.mono ?_; rintro e w1 ⟨rfl, hb⟩; have HB := lH hb; clear hfind hb; go_wp2_with fail
   go_ret2
   exact ⟨rfl, v, HL.out.below HB.out, Touch.of_below HB.out, fun k hk => hk⟩
 · obtain ⟨p, hpk⟩ : ∃ p, l.ps[k]! = p := ⟨_, rfl⟩
   have hvp := hv p (by rw [← hpk, getElem!_pos l.ps k hk]; exact List.getElem_mem hk); have hr : leaveL l id = (l.base - p.v, 0, ⟨growB l.base (l.ps.eraseIdx k), if l.cur = id then -1 else l.cur, l.ps.eraseIdx k⟩) := by
    unfold leaveL; rw [hp, if_neg (by omega)]; simp only [Int.toNat_natCast]; rw [hpk]
   rw [hp] at hfind; unfold LeaveP; rw [hr]; obtain ⟨C, hC⟩ : ∃ C, (if l.cur = id then (-1 : Int) else l.cur) = C := ⟨_, rfl⟩
   rw [hC]; have HC := lH hC; clear hC; obtain ⟨g, cap, hvv⟩ := h.form (by omega); subst hvv; obtain ⟨n, hn⟩ : ∃ n, l.ps.length = n := ⟨_, rfl⟩
   rw [hn] at hk hlen h; have HN := lH hn; have HL := lH h; have HPK := lH hpk; have b1 := hb0.1; have b2 := hb0.2; obtain ⟨v1, v2⟩ := hvp; have hk0 : ¬ (k : Int) < 0 := by omega
   have hk1 : (k : Int) < (n : Int) := by omega
   have hk2 : 0 ≤ (k : Int) := by omega
   clear hn h hpk hp hr hv hb0; go_enter Tryz.func272, Tryz.ntmps272; go_wp2_with fail
   refine hfind.mono ?_; rintro e w1 ⟨rfl, hb⟩; have hL1 := HL.out.below hb; obtain ⟨c0, c1, c2, c3⟩ := hL1.cells (by rw [HN.out]; exact hk) HPK.out; have cb := hL1.base; have cs := hL1.sl; have HL1 := lH hL1; have HB := lH hb; clear hfind hb hL1; go_wp2_with fail
   go_quiet (fail)
   have hL2 := HL1.out.below (below_dN w1.heap.size w1 nq); have hrow := hL2.row; rw [HN.out] at hrow; have hdel := delete_any g cap n k (k + 1) l.ps _ hrow HN.out hk rfl; rw [show ((k + 1 : Nat) : Int) = (k : Int) + 1 by omega] at hdel; have cs2 := hL2.sl; have HL2 := lH hL2; clear hL2 hrow c0 c1 c2 c3 cb cs; go_wp2_with fail
   refine hdel.mono ?_; rintro e w2 ⟨rfl, hrow2, ht2⟩; have hbg : b ≠ g := fun e => HL2.out.ne (by rw [e]; rfl); have hbb : w2.heap[b]? = (w1.drewN nq).heap[b]? := ht2.block b (HL2.out.lt b (.inl rfl)) hbg; have d0 := (World.cell?_of_block (a := ⟨b, 0, none⟩) hbb).trans HL2.out.base; have d1 := (World.cell?_of_block (a := ⟨b, 1, none⟩) hbb).trans HL2.out.cur; have d2 := (World.cell?_of_block (a := ⟨b, 2, none⟩) hbb).trans HL2.out.sl; have f1 := (World.frozen?_of_block (a := ⟨b, 1, none⟩) hbb).trans (HL2.out.live 1)
   have f2 := (World.frozen?_of_block (a := ⟨b, 2, none⟩) hbb).trans (HL2.out.live 2)
   have hel : (l.ps.eraseIdx k).length = n - 1 := by rw [List.length_eraseIdx, if_pos (by rw [HN.out]; exact hk), HN.out]
   have hL3 := HL2.out.reslice (v' := .slice (some ⟨g, 0, none⟩) (n - 1) cap) (ps' := l.ps.eraseIdx k) hbb (by rw [hel]; exact hrow2) HL2.out.ne; have HB2 := lH (HB.out.trans (below_dN _ w1 nq)); have HT2 := lH ht2; have HEL := lH hel; have HL3 := lH hL3; clear hdel hrow2 ht2 hbb hel hL3 cs2; have hT3 : Touch (lfp b (.slice (some ⟨g, 0, none⟩) l.ps.length cap)) W (w2.setCell ⟨b, 2, none⟩ (.slice (some ⟨g, 0, none⟩) (n - 1) cap)) := by
    refine ((Touch.of_below (HB.out.trans (below_dN _ w1 nq))).self (HT2.out.wider (fun k hk => ?_))).self ((touch1 w2 b 2 _).wider (fun k hk => .inl hk)); exact .inr (by rw [hk]; rfl)
   have HT3 := lH hT3; clear hT3; by_cases hcur : l.cur = id
   · have hgr := grow_any b _ _ _ (HL3.out.setCur (-1)) (by show (l.ps.eraseIdx k).length ≤ 64; rw [HEL.out]; omega); simp only at hgr; obtain rfl : C = -1 := by rw [← HC.out, if_pos hcur]
     have HCUR := lH hcur; rw [hcur] at d1; clear hcur; go_wp2_with fail
     refine hgr.mono ?_; rintro e w4 ⟨rfl, hL4, ht4⟩; have HL4 := lH hL4; have HT4 := lH ((HT3.out.self ((touch1 _ b 1 (.int .i64 (-1))).wider (fun k hk => .inl hk))).self (ht4.wider (fun k hk => .inl hk))); clear hL4 ht4 hgr; go_wp2_with fail
     go_ret2
     exact ⟨rfl, _, HL4.out, HT4.out, fun k hk => hk⟩
   · have hgr := grow_any b _ _ _ HL3.out (by show (l.ps.eraseIdx k).length ≤ 64; rw [HEL.out]; omega); simp only at hgr; obtain rfl : C = l.cur := by rw [← HC.out, if_neg hcur]
     go_wp2_with fail
     refine hgr.mono ?_; rintro e w4 ⟨rfl, hL4, ht4⟩; have HL4 := lH hL4; have HT4 := lH (HT3.out.self (ht4.wider (fun k hk => .inl hk))); clear hL4 ht4 hgr; go_wp2_with fail
     go_ret2
     exact ⟨rfl, _, HL4.out, HT4.out, fun k hk => hk⟩
section
attribute [local go_sem] Oper.semAt_some
def maxTo (xs : List Int) : Nat → Int
 | 0 => xs.getD 0 0
 | k + 1 => max (maxTo xs k) (xs.getD (k + 1) 0)
theorem smax_any (g c N : Nat) (xs : List Int) (W : World) (hn : 1 ≤ N) (hx : ∀ i, i < N → W.cell? ⟨g, i, none⟩ = some (.int .i64 (xs.getD i 0))) (hl : N < 1000000) :
 Calls Tryz.prog 202 #[.slice (some ⟨g, 0, none⟩) N c] W fun e w' => e = .returned (.int .i64 (maxTo xs (N - 1))) ∧ W = w' := by
 have c0 := hx 0 (by omega); have HX := lH hx; have h0 : maxTo xs 0 = xs.getD 0 0 := rfl; rw [← h0] at c0; have hn1 : ¬ (N : Int) < 1 := by omega
 have hn2 : 0 < (N : Int) := by omega
 clear hx h0; go_enter Tryz.func202, Tryz.ntmps202; go_wp2_with fail
 go_loop [3, 4] (fun x3 x4 => ∃ k : Nat, 1 ≤ k ∧ k ≤ N ∧ x4 = .int .i64 (k : Int) ∧ x3 = .int .i64 (maxTo xs (k - 1))) (fun _ i => N - (intOf i).toNat)
 case atStart => exact ⟨1, by omega, by omega, rfl, rfl⟩
 case round =>
  obtain ⟨k, hk1, hk, rfl, rfl⟩ := hrel; by_cases hkn : k < N
  · have c1 := HX.out k (by omega); have hm : maxTo xs (k + 1 - 1) = max (maxTo xs (k - 1)) (xs.getD k 0) := by
     obtain ⟨j, rfl⟩ : ∃ j, k = j + 1 := ⟨k - 1, by omega⟩
     rfl
    generalize xs.getD k 0 = y at c1 hm; generalize maxTo xs (k - 1) = z at hm ⊢; have HM := lH hm; have k1 : (k : Int) < (N : Int) := by omega
    have k0 : 0 ≤ (k : Int) := by omega
    clear hm; go_wp2_with fail
    go_round
    case rel => exact ⟨k + 1, by omega, by omega, by go_num, by rw [HM.out]⟩
    case measure => simp [intOf]; omega
  · obtain rfl : k = N := by omega
    go_wp2_with fail
    go_ret
    exact ⟨rfl, rfl⟩
def idxL (xs : List Int) (v : Int) : Int := match xs.findIdx? (fun x => x == v) with | some i => (i : Int) | none => -1
theorem idxL_at {xs : List Int} {v : Int} {k : Nat} (hk : k < xs.length) (h : ∀ j, j < k → xs.getD j 0 ≠ v) (hv : xs.getD k 0 = v) : idxL xs v = k := by
 have hfi : xs.findIdx? (fun x => x == v) = some k := by
  rw [List.findIdx?_eq_some_iff_getElem]; have hg : ∀ j (hj : j < xs.length), xs.getD j 0 = xs[j] := fun j hj => by rw [List.getD_eq_getElem?_getD, List.getElem?_eq_getElem hj]; rfl
  refine ⟨hk, by rw [← hg k hk, hv]; simp, fun j hj => ?_⟩; rw [← hg j (by omega)]; simpa using h j hj
 unfold idxL; rw [hfi]
theorem idxL_none {xs : List Int} {v : Int} (h : ∀ j, j < xs.length → xs.getD j 0 ≠ v) : idxL xs v = -1 := by
 have hfi : xs.findIdx? (fun x => x == v) = none := by
  rw [List.findIdx?_eq_none_iff]; intro x hx; obtain ⟨j, hj, rfl⟩ := List.mem_iff_getElem.1 hx; have := h j hj; rw [List.getD_eq_getElem?_getD, List.getElem?_eq_getElem hj] at this; simpa using this
 unfold idxL; rw [hfi]
theorem sidx_any (g c N : Nat) (xs : List Int) (v : Int) (W : World) (hN : xs.length = N) (hx : ∀ i, i < N → W.cell? ⟨g, i, none⟩ = some (.int .i64 (xs.getD i 0))) (hl : N < 1000000) :
 Calls Tryz.prog 201 #[.slice (some ⟨g, 0, none⟩) N c, .int .i64 v] W fun e w' => e = .returned (.int .i64 (idxL xs v)) ∧ W = w' := by
 have HX := lH hx; have HN := lH hN; obtain ⟨r, hr⟩ : ∃ r, idxL xs v = r := ⟨_, rfl⟩
 rw [hr]; have HR := lH hr; clear hx hN hr; go_enter Tryz.func201, Tryz.ntmps201; go_wp2_with fail
 go_loop [8] (fun x8 => ∃ k : Nat, k ≤ N ∧ x8 = .int .i64 (k : Int) ∧ Hid (∀ j, j < k → xs.getD j 0 ≠ v)) (fun i => N - (intOf i).toNat)
 case atStart => exact ⟨0, by omega, rfl, lH (fun j hj => by omega)⟩
 case round =>
  obtain ⟨k, hk, rfl, HT⟩ := hrel; by_cases hkn : k < N
  · have c1 := HX.out k (by omega); obtain ⟨y, hy⟩ : ∃ y, xs.getD k 0 = y := ⟨_, rfl⟩
    rw [hy] at c1; have HY := lH hy; have k1 : (k : Int) < (N : Int) := by omega
    have k0 : 0 ≤ (k : Int) := by omega
    clear hy; by_cases e : v = y
    · have HRR := lH (idxL_at (by rw [HN.out]; exact hkn) HT.out (HY.out.trans e.symm)); go_wp2_with fail
      go_ret
      rw [← HR.out, HRR.out]; exact ⟨rfl, rfl⟩
    · go_wp2_with fail
      go_round
      case rel => exact ⟨k + 1, by omega, by go_num, lH (fun j hj => by
       by_cases e2 : j = k
       · subst e2; rw [HY.out]; exact fun e3 => e e3.symm
       · exact HT.out j (by omega))⟩
      case measure => simp [intOf]; omega
  · obtain rfl : k = N := by omega
    have HRR := lH (idxL_none (by rw [HN.out]; exact HT.out)); go_wp2_with fail
    go_ret
    rw [← HR.out, HRR.out]; exact ⟨rfl, rfl⟩
def mostL (xs : List Int) : Int := idxL xs (maxTo xs (xs.length - 1))
theorem most_any (g c N : Nat) (xs : List Int) (W : World) (hN : xs.length = N) (h1 : 1 ≤ N) (hx : ∀ i, i < N → W.cell? ⟨g, i, none⟩ = some (.int .i64 (xs.getD i 0))) (hl : N < 1000000) :
 Calls Tryz.prog 183 #[.slice (some ⟨g, 0, none⟩) N c] W fun e w' => e = .returned (.tuple #[.int .i64 (mostL xs), .bool true]) ∧ W = w' := by
 have hm := smax_any g c N xs W h1 hx hl; have hi := sidx_any g c N xs (maxTo xs (N - 1)) W hN hx hl; have hn1 : ¬ (N : Int) = 0 := by omega
 unfold mostL; rw [hN]; generalize maxTo xs (N - 1) = y at hm hi ⊢; generalize idxL xs y = z at hi ⊢; clear hN h1 hx hl; go_enter Tryz.func183, Tryz.ntmps183; go_wp2_with fail
 refine hm.mono ?_; rintro e w' ⟨rfl, rfl⟩; go_wp2_with fail
 refine hi.mono ?_; rintro e w' ⟨rfl, rfl⟩; go_wp2_with fail
 go_ret2
 exact ⟨rfl, rfl⟩
theorem or_pow : ∀ c : Nat, c < 16 → bits BinOp.or .u16 0 (IntKind.u16.wrap (2 ^ c)) = 2 ^ c := by decide
theorem mof_any (g cp c : Nat) (W : World) (hc : c < 16) (hx : W.cell? ⟨g, 0, none⟩ = some (.int .i64 c)) :
 Calls Tryz.prog 184 #[.slice (some ⟨g, 0, none⟩) 1 cp] W fun e w' => e = .returned (.int .u16 (2 ^ c)) ∧ W = w' := by
 have hc1 : (c : Int) < 16 := by omega
 have hc0 : 0 ≤ (c : Int) := by omega
 go_enter Tryz.func184, Tryz.ntmps184; go_wp2_with fail
 refine wp_loop_rounds 2 ?_; rw [rounds_succ]; go_wp2_with fail
 rw [rounds_succ]; go_wp2_with fail
 go_ret
 exact ⟨by rw [or_pow c hc]; rfl, rfl⟩
end
section
attribute [local go_sem] Oper.semAt_some
def hasM (m c : Int) : Bool := decide (0 ≤ c) && (decide (c < 16) && (bits BinOp.and IntKind.u16 (m / 2 ^ c.toNat) 1 == 1))
theorem mhas_any (m c : Int) (hm : 0 ≤ m ∧ m < 65536) (W : World) :
 Calls Tryz.prog 20 #[.int .u16 m, .int .i64 c] W fun e w' => e = .returned (.bool (hasM m c)) ∧ W = w' := by
 unfold hasM; by_cases h1 : 0 ≤ c
 · by_cases h2 : c < 16
   · rw [decide_eq_true h1, decide_eq_true h2]; go_enter Tryz.func20, Tryz.ntmps20; go_wp2
     go_ret
     exact ⟨by simp, rfl⟩
   · rw [decide_eq_false h2]; go_enter Tryz.func20, Tryz.ntmps20; go_wp2
     go_ret
     exact ⟨by simp, rfl⟩
 · rw [decide_eq_false h1]; go_enter Tryz.func20, Tryz.ntmps20; go_wp2
   go_ret
   exact ⟨by simp, rfl⟩
def all16 : List G16 := (List.finRange 16).map fun i => ⟨(i.val : Int), by omega, by omega⟩
def listM (m : Int) : List G16 := all16.filter fun x => hasM m x.1
theorem all16_len : all16.length = 16 := by simp [all16]
theorem all16_get (k : Nat) (hk : k < 16) : all16[k]'(by rw [all16_len]; exact hk) = ⟨(k : Int), by omega, by omega⟩ := by simp [all16]
theorem all16_take (m : Int) (k : Nat) (hk : k < 16) : (all16.take (k + 1)).filter (fun x => hasM m x.1) = (all16.take k).filter (fun x => hasM m x.1) ++ (if hasM m k = true then [⟨(k : Int), by omega, by omega⟩] else []) := by
 rw [List.take_succ_eq_append_getElem (by rw [all16_len]; exact hk), List.filter_append, all16_get k hk]; simp [List.filter_cons]
theorem listM_len (m : Int) (k : Nat) (hk : k < 16) (h : hasM m k = true) : ((all16.take k).filter (fun x => hasM m x.1)).length < (listM m).length := by
 have h1 := all16_take m k hk; rw [if_pos h] at h1; have h2 : ((all16.take (k + 1)).filter (fun x => hasM m x.1)).length ≤ (listM m).length := ((List.take_sublist _ _).filter _).length_le; rw [h1, List.length_append] at h2; simp at h2; omega
theorem listM_all (m : Int) (k : Nat) (hk : ¬ k < 16) : (all16.take k).filter (fun x => hasM m x.1) = listM m := by
 rw [List.take_of_length_le (by rw [all16_len]; omega)]; rfl
theorem listM_pre (m : Int) (k : Nat) : (all16.take k).filter (fun x => hasM m x.1) <+: listM m := by
 unfold listM; conv => rhs; rw [← List.take_append_drop k all16, List.filter_append]
 exact List.prefix_append _ _
set_option maxRecDepth 100000 in
theorem mall1_in (n : Nat) (hn : 2 ≤ n) (l Bm : Nat) (m : Int) (hm : 0 ≤ m ∧ m < 65536) (J Jx : List G16 → World → Prop)
 (hY : ∀ pre x W, J pre W → pre.length < (listM m).length → YieldAt Fence.wide (n - 1) Tryz.prog l #[.int .i64 x.1] W fun e W' =>
  (e = .returned (.bool true) ∧ J (pre ++ [x]) W' ∧ KpG Bm Bm W W') ∨ (e = .returned (.bool false) ∧ Jx (pre ++ [x]) W'))
 (W : World) (hBm : W.cell? ⟨Bm, 0, none⟩ = some (.int .u16 m)) (h0 : J [] W) :
 CallsIn Fence.wide n Tryz.prog 190 #[.func (.yield l) #[] #[], .pointer (some ⟨Bm, 0, none⟩)] W fun e W' => (∃ v, e = .returned v) ∧
  ((∃ ys, ys = listM m ∧ J ys W') ∨ (∃ pre, pre <+: listM m ∧ Jx pre W')) := by
 have h1 : 1 ≤ n := by omega
 have h2 : 1 ≤ n - 1 := by omega
 refine callsIn_of_wp Tryz.func190 rfl trivial ?_ rfl; simp only [Tryz.ntmps190, List.size_toArray, List.length_cons, List.length_nil, Nat.reduceAdd, Nat.reduceSub, Array.replicate_succ, Array.replicate_zero, List.push_toArray, List.append_toArray, List.nil_append, List.cons_append]; gi_wp2
 gi_loopw [4] (fun p wr => ∃ k : Nat, k ≤ 16 ∧ p = .int .i64 k ∧ J ((all16.take k).filter (fun x => hasM m x.1)) wr ∧ wr.cell? ⟨Bm, 0, none⟩ = some (.int .u16 m))
  (fun p wr => 16 - (intOf p).toNat)
 case atStart =>
  exact ⟨0, by omega, rfl, h0, hBm⟩
 case round =>
  obtain ⟨k, hk, rfl, hJs, hgc⟩ := hrel; by_cases hk16 : k < 16
  · have hi : (k : Int) < 16 := by omega
    have htk := all16_take m k hk16; have hhas := mhas_any m k hm wr; by_cases hh : hasM m k = true
    · rw [if_pos hh] at htk; rw [hh] at hhas; obtain ⟨fn, tmps, assign, body, hy, hR⟩ := hY _ ⟨(k : Int), by omega, by omega⟩ wr hJs (listM_len m k hk16 hh); dsimp only at hy
      gi_wp2_with (refine ⟨trivial, ?_⟩; gi_at_call 20; refine (callsIn_wide.2 hhas).mono ?_; rintro e w' ⟨rfl, rfl⟩)
      refine hR.mono ?_; rintro e W3 (⟨rfl, hJ3, hk3⟩ | ⟨rfl, hJx3⟩)
      · have hgc3 : W3.cell? ⟨Bm, 0, none⟩ = some (.int .u16 m) := (World.cell?_of_block (a := ⟨Bm, 0, none⟩) hk3.2).trans hgc; rw [← htk] at hJ3; gi_wp2
        go_roundw
        case rel => exact ⟨k + 1, by omega, by go_num, hJ3, hgc3⟩
        case measure => simp [intOf]; omega
      · gi_wp2
        refine bodyPost_ret (results_none rfl _ _ _) rfl ?_; refine ⟨⟨_, rfl⟩, .inr ⟨_, ?_, hJx3⟩⟩; rw [← htk]; exact listM_pre m (k + 1)
    · rw [if_neg hh, List.append_nil] at htk; rw [Bool.not_eq_true] at hh; rw [hh] at hhas; rw [← htk] at hJs; gi_wp2_with (refine ⟨trivial, ?_⟩; gi_at_call 20; refine (callsIn_wide.2 hhas).mono ?_; rintro e w' ⟨rfl, rfl⟩)
      refine ⟨fun _ h => (by cases h), ?_⟩; gi_wp2
      go_roundw
      case rel => exact ⟨k + 1, by omega, by go_num, hJs, hgc⟩
      case measure => simp [intOf]; omega
  · have hi : ¬ (k : Int) < 16 := by omega
    rw [listM_all m k hk16] at hJs; gi_wp2
    go_end0
    exact ⟨⟨_, rfl⟩, .inl hJs⟩
theorem mall_any (m : Int) (W : World) :
 Calls Tryz.prog 178 #[.int .u16 m] W fun e w' => e = .returned (.func (.func 190) #[] #[.pointer (some ⟨W.heap.size, 0, none⟩)]) ∧ W.alloc (.cells #[.int .u16 m] 58) = w' := by
 go_enter Tryz.func178, Tryz.ntmps178; go_wp2
 go_ret
 exact ⟨by simp, rfl⟩
theorem mall_stops (n : Nat) (hn : 2 ≤ n) (Bm : Nat) (m : Int) (hm : 0 ≤ m ∧ m < 65536) (w : World) (hBm : Bm < w.heap.size) (c1 : w.cell? ⟨Bm, 0, none⟩ = some (.int .u16 m)) :
 SeqStopsK Fence.wide n Tryz.prog 190 #[.pointer (some ⟨Bm, 0, none⟩)] (fun x : G16 => #[Value.int .i64 x.1]) (KpG Bm Bm) (fun ys => ys = listM m) (fun pre => pre <+: listM m) (listM m).length w := fun l J Jx W hW _ _ hY h0 =>
 mall1_in n hn l Bm m hm J Jx hY W ((hW.cell (p := ⟨Bm, 0, none⟩) hBm).trans c1) h0
end
section
attribute [local go_sem] Oper.semAt_some
def spentA (s : Sy) (x : G16) : Bool := spentB (s.acc.getD x.1.toNat default).1 (s.acc.getD x.1.toNat default).2.1 (s.acc.getD x.1.toNat default).2.2.1 (s.acc.getD x.1.toNat default).2.2.2
theorem keeps_below {W W' : World} (h : Below W.heap.size W W') : KeepsOthers W W' := ⟨h.size, fun k o hk _ => (h.block k (Array.getElem?_eq_some_iff.1 hk).1).trans hk⟩
theorem kpg_below {gb Bg : Nat} {W W' : World} (h : Below W.heap.size W W') (h1 : gb < W.heap.size) (h2 : Bg < W.heap.size) : KpG gb Bg W W' := ⟨h.block _ h1, h.block _ h2⟩
theorem any_prefix {α : Type} {p : α → Bool} {xs ys : List α} (h : xs <+: ys) (hx : xs.any p = true) : ys.any p = true := by
 rw [List.any_eq_true] at hx ⊢; obtain ⟨x, h1, h2⟩ := hx; exact ⟨x, h.subset h1, h2⟩
set_option maxRecDepth 100000 in
theorem spent_any (sb gb nb pb mb n : Nat) (cv : Value) (D : DataW Unit) (cbs : List Nat) (tb : Int → Nat) (own : Nat → Option Own) (s : Sy) (b : Nat) (t : Tk) (xs : List G16) (w : World)
 (h : SysAt w sb gb nb pb mb n cv D cbs tb own s) (hT : TaskAt w b t) (hL : IsPath s.gs t.group xs) :
 Calls Tryz.prog 118 #[.pointer (some ⟨sb, 0, none⟩), .pointer (some ⟨b, 0, none⟩)] w fun e W' => e = .returned (.bool (xs.any (spentA s))) ∧ Below w.heap.size w W' := by
 have h1 : 1 ≤ 5 := by omega
 have hgl := h.groups.lt; have hsl := h.lt sb (by rw [h.osb]; simp); have hbl : b < w.heap.size := World.block_lt_of_cell? w _ hT.group; refine callsIn_wide.1 (callsIn_of_wp_marks (n := 5) Tryz.func118 rfl trivial (wpIn_wide.2 ?_) rfl); simp only [Tryz.ntmps118, List.size_toArray, List.length_cons, List.length_nil, Nat.reduceAdd, Nat.reduceSub, Array.replicate_succ, Array.replicate_zero, List.push_toArray, List.append_toArray, List.nil_append, List.cons_append]; go_wp2_with fail
 have k0 := cell_new_l w (.pointer (some ⟨sb, 0, none⟩)) 81; have kr := cell_new_l (w.alloc (.cells #[.pointer (some ⟨sb, 0, none⟩)] 81)) (.bool false) 4; have k1 := c2a (.cells #[.bool false] 4) (c2a (.cells #[.pointer (some ⟨sb, 0, none⟩)] 81) h.c1); have k2 := c2a (.cells #[.bool false] 4) (c2a (.cells #[.pointer (some ⟨sb, 0, none⟩)] 81) hT.group); have hB0 : Below w.heap.size w ((w.alloc (.cells #[.pointer (some ⟨sb, 0, none⟩)] 81)).alloc (.cells #[.bool false] 4)) := ((Below.refl _ w).alloc (Nat.le_refl _) _).alloc (by simp) _; replace k0 := c2a (.cells #[.bool false] 4) k0.1; have hz : ((w.alloc (.cells #[.pointer (some ⟨sb, 0, none⟩)] 81)).alloc (.cells #[.bool false] 4)).heap.size = w.heap.size + 2 := by simp
 simp only [World.size_alloc] at kr; generalize (w.alloc (.cells #[.pointer (some ⟨sb, 0, none⟩)] 81)).alloc (.cells #[.bool false] 4) = W0 at k0 k1 k2 kr hB0 hz ⊢; go_region_held3 (fun W2 => W2.cell? ⟨w.heap.size, 0, none⟩ = some (.pointer (some ⟨sb, 0, none⟩)) ∧ W2.cell? ⟨sb, 1, none⟩ = some (.pointer (some ⟨gb, 0, none⟩)) ∧ W2.cell? ⟨b, 2, none⟩ = some (.int .i64 t.group)) (first | exact ⟨k0, k1, k2⟩ | exact ⟨c2a _ (c2a _ k0), c2a _ (c2a _ k1), c2a _ (c2a _ k2)⟩) (first | (go_at_call 112; refine (path_any gb t.group _).mono ?_; rintro e w9 ⟨rfl, rfl⟩) | fail)
 have hB1 : Below w.heap.size w ((W0.alloc (.cells #[.pointer (some ⟨gb, 0, none⟩)] 113)).alloc (.cells #[.int .i64 t.group] 3)).drew := ((hB0.alloc (by omega) _).alloc (by simp; omega) _).drew; replace k0 := c2a (.cells #[.int .i64 t.group] 3) (c2a (.cells #[.pointer (some ⟨gb, 0, none⟩)] 113) k0); have kr2 := c2a (.cells #[.int .i64 t.group] 3) (c2a (.cells #[.pointer (some ⟨gb, 0, none⟩)] 113) kr.1); have kf2 := frozen_alloc_l (.cells #[.int .i64 t.group] 3) (c2a (.cells #[.pointer (some ⟨gb, 0, none⟩)] 113) kr.1) (frozen_alloc_l (.cells #[.pointer (some ⟨gb, 0, none⟩)] 113) kr.1 kr.2); have kg := c2a (.cells #[.int .i64 t.group] 3) (cell_new_l W0 (.pointer (some ⟨gb, 0, none⟩)) 113).1; have ki := (cell_new_l (W0.alloc (.cells #[.pointer (some ⟨gb, 0, none⟩)] 113)) (.int .i64 t.group) 3).1; rw [World.size_alloc] at ki; rw [hz] at kg ki; change World.cell? ((W0.alloc (.cells #[.pointer (some ⟨gb, 0, none⟩)] 113)).alloc (.cells #[.int .i64 t.group] 3)).drew _ = _ at k0 kr2 kg ki; change World.frozen? ((W0.alloc (.cells #[.pointer (some ⟨gb, 0, none⟩)] 113)).alloc (.cells #[.int .i64 t.group] 3)).drew _ = _ at kf2; have hz1 : ((W0.alloc (.cells #[.pointer (some ⟨gb, 0, none⟩)] 113)).alloc (.cells #[.int .i64 t.group] 3)).drew.heap.size = w.heap.size + 4 := by show ((W0.alloc _).alloc _).heap.size = _; simp; omega
 generalize ((W0.alloc (.cells #[.pointer (some ⟨gb, 0, none⟩)] 113)).alloc (.cells #[.int .i64 t.group] 3)).drew = W1 at k0 kr2 kf2 kg ki hB1 hz1 ⊢; clear k1 k2 kr hB0; go_wp2_with fail
 refine (wpIn_wide (n := 5)).1 (wpIn_rangeFunc_ownF rfl h1 (gf := 155) (lb := #[.pointer (some ⟨w.heap.size + 2 + 1, 0, none⟩), .pointer (some ⟨w.heap.size + 2, 0, none⟩)]) rfl trivial (enters_of Tryz.func155 (by kernel_rfl) rfl)
  (path_stops (5 - 1) (by omega) (w.heap.size + 2 + 1) (w.heap.size + 2) gb s.gs t.group xs W1 (by omega) (by omega) (by omega) ki kg (h.groups.same (hB1.block gb hgl)) hL) KpG.t (KpG.b (by omega) (by omega)) (Below.refl _ _) (fun _ => rfl)
  (fun pre W => (pre.any (spentA s) = false ∧ W1.heap.size ≤ W.heap.size ∧ W.cell? ⟨w.heap.size, 0, none⟩ = some (.pointer (some ⟨sb, 0, none⟩)) ∧ W.cell? ⟨w.heap.size + 1, 0, none⟩ = some (.bool false) ∧ W.frozen? ⟨w.heap.size + 1, 0, none⟩ = false) ∧ Below w.heap.size w W)
  (fun c pre W => (c = .ret ∧ pre.any (spentA s) = true ∧ W.cell? ⟨w.heap.size + 1, 0, none⟩ = some (.bool true)) ∧ Below w.heap.size w W)
  (OwnFrom.and (Own.from (fun s A B row hs hg hr => ⟨hs.1, Nat.le_trans hs.2.1 hg.size, cell_kept hs.2.2.1 hg hr, cell_kept hs.2.2.2.1 hg hr, (frozen_kept hs.2.2.2.1 hg hr).trans hs.2.2.2.2⟩) _) (ownFrom_below (Nat.le_refl _) (by omega)))
  (fun c => OwnFrom.and (Own.from (fun s A B row hs hg hr => ⟨hs.1, hs.2.1, cell_kept hs.2.2 hg hr⟩) _) (ownFrom_below (Nat.le_refl _) (by omega)))
  ⟨⟨rfl, Nat.le_refl _, k0, kr2, kf2⟩, hB1⟩
  (fun x => { tmps := #[Value.pointer (some ⟨sb, 0, none⟩), .pointer (some ⟨b, 0, none⟩), .pointer (some ⟨w.heap.size, 0, none⟩), undef, .pointer (some ⟨w.heap.size + 1, 0, none⟩), .int .i64 x.1, .pointer (some ⟨sb, 0, none⟩), .pointer (some ⟨sb, 0, none⟩), .pointer (some ⟨sb, 1, none⟩), .pointer (some ⟨gb, 0, none⟩), .pointer (some ⟨b, 0, none⟩), .pointer (some ⟨b, 0, none⟩), .pointer (some ⟨b, 2, none⟩), .int .i64 t.group, .func (.func 155) #[] #[.pointer (some ⟨w.heap.size + 2 + 1, 0, none⟩), .pointer (some ⟨w.heap.size + 2, 0, none⟩)], .int .i64 x.1, undef, undef, undef, undef, undef, undef, undef], defers := [] }) ?assign ?body ?done ?stop)
 case assign =>
  intro l x W K hK; gi_wp2
  simpa using hK
 case body =>
  rintro l pre ⟨x, hx0, hx1⟩ W ⟨⟨hp, hwz, hk0, hr, hf⟩, hB⟩ hpl; have e1 : 1 ≤ 5 - 1 - 1 := by omega
  obtain ⟨k, rfl⟩ := Int.eq_ofNat_of_zero_le hx0; obtain ⟨a0, a1, a2, a3⟩ := (h.below hB).acc k (by omega); have hs : spentA s ⟨(k : Int), hx0, hx1⟩ = spentB (s.acc.getD k default).1 (s.acc.getD k default).2.1 (s.acc.getD k default).2.2.1 (s.acc.getD k default).2.2.2 := by unfold spentA; simp
  have hany : (pre ++ [(⟨(k : Int), hx0, hx1⟩ : G16)]).any (spentA s) = spentB (s.acc.getD k default).1 (s.acc.getD k default).2.1 (s.acc.getD k default).2.2.1 (s.acc.getD k default).2.2.2 := by rw [List.any_append, hp, List.any_cons, List.any_nil, Bool.or_false, Bool.false_or, hs]
  generalize (s.acc.getD k default).1 = q0 at a0 hany; generalize (s.acc.getD k default).2.1 = q1 at a1 hany; generalize (s.acc.getD k default).2.2.1 = q2 at a2 hany; generalize (s.acc.getD k default).2.2.2 = q3 at a3 hany; have hsp := aspent_any q0 q1 q2 q3; generalize spentB q0 q1 q2 q3 = r at hsp hany; have hz2 := hB.size; clear hs h hT hL kg ki; cases r with
  | false =>
   gi_wp2_with (refine ⟨trivial, ?_⟩; gi_at_call 156; refine (CallsIn.inRound l (callsIn_wide.2 (hsp _))).mono ?_; rintro e w' ⟨rfl, hb⟩)
   have hb' := hb.mono hB.size; exact ⟨keeps_below hb, kpg_below hb (by omega) (by omega), ⟨hany, Nat.le_trans hwz hb.size, (hb.cell (p := ⟨_, 0, none⟩) (by simp; omega)).trans hk0, (hb.cell (p := ⟨_, 0, none⟩) (by simp; omega)).trans hr, (hb.frozen (p := ⟨_, 0, none⟩) (by simp; omega)).trans hf⟩, hB.trans hb'⟩
  | true =>
   gi_wp2_with (refine ⟨trivial, ?_⟩; gi_at_call 156; refine (CallsIn.inRound l (callsIn_wide.2 (hsp _))).mono ?_; rintro e w' ⟨rfl, hb⟩; have hr' := (hb.cell (p := ⟨w.heap.size + 1, 0, none⟩) (by simp; omega)).trans hr; have hf' := (hb.frozen (p := ⟨w.heap.size + 1, 0, none⟩) (by simp; omega)).trans hf)
   have hb' := hb.mono hB.size; exact ⟨(keeps_below hb).trans (KeepsOthers.setCell _ _ _), ⟨rfl, hany, World.cell?_setCell_same _ _ _ hr'⟩, (hB.trans hb').setCell (p := ⟨w.heap.size + 1, 0, none⟩) (by simp) _⟩
 case done =>
  rintro D' ys W hD rfl ⟨⟨hp, hwz, hk0, hcr, hfr⟩, hB⟩ hK; go_wp2_with fail
  have hK' := (KeepsOthers.setCell W ⟨w.heap.size + 1, 0, none⟩ (.bool false)).same D' _ hK rfl; refine ⟨by simp, .inl ⟨_, _, rfl, run_takeDeferred hK', ?_⟩⟩; have hc5 := cell_kept (World.cell?_setCell_same' W ⟨w.heap.size + 1, 0, none⟩ (.bool false) (by rw [hcr]; rfl)) (grownBy_putObj' _ D' (.deferred none)) (fun r e => by cases e; exact ⟨_, hK', rfl⟩); refine ⟨.bool false, ?_, by rw [hp], (hB.setCell (p := ⟨w.heap.size + 1, 0, none⟩) (by simp) _).trans (belowK_b (w := w) (Nat.le_refl _) _ D' _ _ (by omega) hK' rfl rfl)⟩; simp [results, Tryz.f118, go_sem, hc5]
 case stop =>
  rintro D' c pre W hD hpre ⟨⟨rfl, hin, hcr⟩, hB⟩ hK; refine wpIn_wide.2 ?_; go_wp2_with fail
  refine ⟨by simp, .inl ⟨_, _, rfl, run_takeDeferred hK, ?_⟩⟩; have hc5 := cell_kept hcr (grownBy_putObj' _ D' (.deferred none)) (fun r e => by cases e; exact ⟨_, hK, rfl⟩); refine ⟨.bool true, ?_, by rw [any_prefix hpre hin], hB.trans (belowK_b (w := w) (Nat.le_refl _) W D' _ _ (by omega) hK rfl rfl)⟩; simp [results, Tryz.f118, go_sem, hc5]
end
end Go.Proofs.YtoiajjobecinpaaGreat
