/- A step of a try: whatever its stage. The tries of a system's cores. A system and its tries, side by side; a step of a tr -/
import Derived.Test.YtoiajjobecinpaaGreatTA18
set_option maxHeartbeats 4000000
namespace Go.Proofs.YtoiajjobecinpaaGreat
open Go.RowKit Go.Shelf Go.Lib Go.Proofs
set_option linter.unusedVariables false
set_option linter.unusedSimpArgs false
def VainA (tb cb : Nat) (F : Nat → Prop) (c : Co) (w : World) (w' : World) : Prop := CoreIn w' cb F c ∧ Touch (fun k => k = tb) w w'
theorem touch_tb {tb cb : Nat} {X : Nat → Prop} {a b c : World} (hX : X tb) (h : Touch (fun k => k = tb) a b) (h2 : Touch (fun k => k = tb) b c) : Touch (fun k => X k ∨ k = cb) a c :=
 (h.trans (fun k hk => .inl hk) h2).wider (fun k hk => .inl (hk ▸ hX))
theorem step_vain {tb cb : Nat} {F X : Nat → Prop} {c : Co} {t : Tr} {w : World} {er : Int} {w0 w' : World} {t' : Tr} (hX : X tb) (hXF : ∀ k, X k → ¬ F k) (hlt : ∀ k, X k → k < w.heap.size)
 (hT : TryC w' tb cb { t' with stg := 6, why := er }) (hA : VainA tb cb F c w w0) (ht : Touch (fun k => k = tb) w0 w') : StepP tb cb F X c t w (.returned (.tuple #[.int .i64 6, .int .i64 er])) w' := by
 refine ⟨{ t' with stg := 6, why := er }, c, F, fun k => k = tb, rfl, ⟨hT, rfl, fun k hk => hk ▸ hT.lt, fun h => absurd h (by simp), fun h => ?_⟩, hA.1.tb ht (hXF tb hX), fun k hk => hk ▸ hXF tb hX, .inr rfl, fun h => absurd rfl h, .inl rfl, touch_tb hX hA.2 ht, fun k hk => .inl hk, fun k hk => hk, fun k hk => .inl (hk ▸ hX)⟩; rcases h with h | h <;> exact absurd h (by simp)
theorem BRow.live {W : World} {B : Nat} {v : Value} {n g : Nat} (h : BRow W B v n) (hg : v.ownBlock = some g) (j : Nat) : W.frozen? ⟨g, j, none⟩ = false := by
 obtain ⟨bs, h, -⟩ := h; rcases h.2 with ⟨rfl, _⟩ | ⟨g', cap, cur, rfl, h1, h2, _⟩
 · cases hg
 · obtain rfl : g' = g := by simpa [Value.ownBlock] using hg
   simp [World.frozen?, h2]
theorem trystep_any (tb cb : Nat) (F X : Nat → Prop) (c : Co) (t : Tr) (W : World) (h : TryIn W tb cb t X) (hc : CoreIn W cb F c) (hf : Fits c.l) (hXF : ∀ k, X k → ¬ F k) (h0 : 0 ≤ t.stg) (h4 : t.stg ≤ 4) :
 Calls Tryz.prog 124 #[.pointer (some ⟨tb, 0, none⟩)] W (StepP tb cb F X c t W) := by
 have hFt := hXF tb h.here; have htl := h.at_.lt; have hs : t.stg = 0 ∨ t.stg = 1 ∨ t.stg = 2 ∨ t.stg = 3 ∨ t.stg = 4 := by omega
 rcases hs with hs | hs | hs | hs | hs
 · refine (step_gen tb cb t W 0 (by omega) (by omega) hs h.at_ (VainA tb cb F c W) (fun t' w' => t' = { t with age := c.age } ∧ VainA tb cb F c W w') ((next1_any tb cb F c t W h.at_ hc hFt).mono ?_)).mono ?_
   · rintro e w' (⟨er, t', he, rfl, hT, hC, ht⟩ | ⟨rfl, hT, hC, ht⟩)
     · exact ⟨er, t', rfl, hT, fun _ => ⟨hC, ht⟩, fun h0 => absurd h0 he⟩
     · exact ⟨0, _, rfl, hT, fun h => absurd rfl h, fun _ => ⟨hs, rfl, hC, ht⟩⟩
   · rintro e w' (⟨er, w0, t', rfl, hT, hA, ht⟩ | ⟨w0, t', rfl, hT, ⟨rfl, hA⟩, ht⟩)
     · exact step_vain h.here hXF h.lt hT hA ht
     · refine ⟨_, c, F, fun k => k = tb, rfl, ⟨hT, rfl, fun k hk => hk ▸ hT.lt, fun h => absurd h (by simp), fun h => ?_⟩, hA.1.tb ht hFt, fun k hk => hk ▸ hFt, .inl (by simp [hs]), fun _ => ⟨rfl, rfl⟩, .inl rfl, touch_tb h.here hA.2 ht, fun k hk => .inl hk, fun k hk => hk, fun k hk => .inl (hk ▸ h.here)⟩; rcases h with h | h <;> exact absurd h (by simp)
 · refine (step_gen tb cb t W 1 (by omega) (by omega) hs h.at_ (VainA tb cb F c W) (fun t' w' => ∃ (v : Value) (n : Nat), t' = { t with b := v } ∧ BRow w' W.heap.size v n ∧ n ≤ 1000 ∧ VainA tb cb F c W w') ((next2_any tb cb F c t W h.at_ hc hFt hf).mono ?_)).mono ?_
   · rintro e w' (⟨er, t', he, rfl, hT, hC, ht⟩ | ⟨rfl, v, n, hT, hr, hn, hC, ht⟩)
     · exact ⟨er, t', rfl, hT, fun _ => ⟨hC, ht⟩, fun h0 => absurd h0 he⟩
     · exact ⟨0, _, rfl, hT, fun h => absurd rfl h, fun _ => ⟨hs, v, n, rfl, hr, hn, hC, ht⟩⟩
   · rintro e w' (⟨er, w0, t', rfl, hT, hA, ht⟩ | ⟨w0, t', rfl, hT, ⟨v, n, rfl, hr, hn, hA⟩, ht⟩)
     · exact step_vain h.here hXF h.lt hT hA ht
     · obtain ⟨a, d, rfl, hnd, hd⟩ := hr.form2; have hge : ∀ k, (Value.slice a n d).ownBlock = some k → W.heap.size ≤ k ∧ k < w0.heap.size := fun k hk => hr.lt hk; refine ⟨_, c, F, fun k => k = tb ∨ (Value.slice a n d).ownBlock = some k, rfl, ⟨hT, .inl rfl, fun k hk => ?_, fun _ => ⟨a, n, d, rfl, ?_, by omega, hnd, hd, fun g i hn ha => ?_⟩, fun h => ?_⟩, hA.1.tb ht hFt, fun k hk => ?_, .inl (by simp [hs]), fun _ => ⟨rfl, rfl⟩, .inl rfl, touch_tb h.here hA.2 ht, fun k hk => .inl hk, fun k hk => hk, fun k hk => ?_⟩
       · rcases hk with rfl | hk
         · exact hT.lt
         · exact Nat.lt_of_lt_of_le (hge k hk).2 ht.size
       · refine hr.toSl.same (fun k hk ⟨i, e⟩ => ht.block k hk (fun e2 => ?_)); subst e; have := (hge k rfl).1; omega
       · subst ha; exact ⟨.inr rfl, fun e => by have := (hge g rfl).1; omega, fun j => (World.frozen?_of_block (a := ⟨g, j, none⟩) (ht.block g (hge g rfl).2 (fun e => by have := (hge g rfl).1; omega))).trans (hr.live rfl j)⟩
       · rcases h with h | h <;> exact absurd h (by simp)
       · rcases hk with rfl | hk
         · exact hFt
         · intro hF; have := (hge k hk).1; have := hc.lt k hF; omega
       · rcases hk with rfl | hk
         · exact .inl h.here
         · exact .inr (hge k hk).1
 · obtain ⟨a, n, d, hb, hbs, hn, hnd, hd, -⟩ := h.bytes hs; refine (step_gen tb cb t W 2 (by omega) (by omega) hs h.at_ (VainA tb cb F c W) (fun t' w' => ∃ (qb : Nat) (G : Nat → Prop) (cur : Int) (its : List It), t' = { t with q := .pointer (some ⟨qb, 0, none⟩) } ∧ QIn w' qb G t.tag (seedL t.base cur its) ∧ GoodI cur its ∧ (-1152921504606846976 ≤ t.base ∧ t.base ≤ 1152921504606846976) ∧ (∀ k, G k → W.heap.size ≤ k) ∧ VainA tb cb F c W w') ((next3_any tb cb F c t W h.at_ hc hFt a n d hb hbs hn hnd hd).mono ?_)).mono ?_
   · rintro e w' (⟨er, t', he, rfl, hT, hC, ht⟩ | ⟨rfl, qb, G, cur, its, hT, hQ, hg, hbd, hG, hC, ht⟩)
     · exact ⟨er, t', rfl, hT, fun _ => ⟨hC, ht⟩, fun h0 => absurd h0 he⟩
     · exact ⟨0, _, rfl, hT, fun h => absurd rfl h, fun _ => ⟨hs, qb, G, cur, its, rfl, hQ, hg, hbd, hG, hC, ht⟩⟩
   · rintro e w' (⟨er, w0, t', rfl, hT, hA, ht⟩ | ⟨w0, t', rfl, hT, ⟨qb, G, cur, its, rfl, hQ, hg, hbd, hG, hA⟩, ht⟩)
     · exact step_vain h.here hXF h.lt hT hA ht
     · refine ⟨_, c, F, fun k => k = tb ∨ G k, rfl, ⟨hT, .inl rfl, fun k hk => ?_, fun h => absurd h (by simp), fun _ => ⟨qb, G, cur, its, rfl, ?_, hg, hbd, fun k hk => ⟨.inr hk, fun e => by have := hG k hk; omega⟩⟩⟩, hA.1.tb ht hFt, fun k hk => ?_, .inl (by simp [hs]), fun _ => ⟨rfl, rfl⟩, .inl rfl, touch_tb h.here hA.2 ht, fun k hk => .inl hk, fun k hk => hk, fun k hk => ?_⟩
       · rcases hk with rfl | hk
         · exact hT.lt
         · exact Nat.lt_of_lt_of_le (hQ.lt k hk) ht.size
       · exact hQ.same ht.size (fun k hk => ht.block k (hQ.lt k hk) (fun e => by have := hG k hk; omega))
       · rcases hk with rfl | hk
         · exact hFt
         · intro hF; have := hG k hk; have := hc.lt k hF; omega
       · rcases hk with rfl | hk
         · exact .inl h.here
         · exact .inr (hG k hk)
 · obtain ⟨qb, G, cur, its, hq, hQ, hg, hbd, hGX⟩ := h.queue (.inl hs); refine (step_gen tb cb t W 3 (by omega) (by omega) hs h.at_ (VainA tb cb F c W) (fun t' w' => t' = t ∧ CoreIn w' cb F c ∧ Below W.heap.size W w') ((next4_any tb cb F c t W h.at_ hc hFt hf qb G _ hq hQ (seedL_fits hg hbd)).mono ?_)).mono ?_
   · rintro e w' (⟨er, t', he, rfl, hT, hC, ht⟩ | ⟨rfl, hT, hC, ht⟩)
     · exact ⟨er, t', rfl, hT, fun _ => ⟨hC, ht⟩, fun h0 => absurd h0 he⟩
     · exact ⟨0, _, rfl, hT, fun h => absurd rfl h, fun _ => ⟨hs, rfl, hC, ht⟩⟩
   · rintro e w' (⟨er, w0, t', rfl, hT, hA, ht⟩ | ⟨w0, t', rfl, hT, ⟨rfl, hC, hb⟩, ht⟩)
     · exact step_vain h.here hXF h.lt hT hA ht
     · have hkeep : ∀ k, X k → k ≠ tb → w'.heap[k]? = W.heap[k]? := fun k hk hne => (ht.block k (Nat.lt_of_lt_of_le (h.lt k hk) hb.size) hne).trans (hb.block k (h.lt k hk))
       have hz : W.heap.size ≤ w'.heap.size := Nat.le_trans hb.size ht.size; refine ⟨_, c, F, X, rfl, ⟨hT, h.here, fun k hk => Nat.lt_of_lt_of_le (h.lt k hk) hz, fun h => absurd h (by simp), fun _ => ⟨qb, G, cur, its, hq, hQ.same hz (fun k hk => hkeep k (hGX k hk).1 (hGX k hk).2), hg, hbd, hGX⟩⟩, hC.tb ht hFt, hXF, .inl (by simp [hs]), fun _ => ⟨rfl, rfl⟩, .inl rfl, touch_tb h.here (Touch.of_below hb) ht, fun k hk => .inl hk, fun k hk => hk, fun k hk => .inl hk⟩
 · obtain ⟨qb, G, cur, its, hq, hQ, hg, hbd, hGX⟩ := h.queue (.inr hs); refine (step_gen tb cb t W 4 (by omega) (by omega) hs h.at_ (VainA tb cb F c W) (fun t' w' => t' = t ∧ c.l.cur = (seedL t.base cur its).cur ∧ formL c.l = formL (seedL t.base cur its) ∧ CoreIn w' cb (fun k => F k ∨ G k) ⟨t.tag, seedL t.base cur its, c.age, c.srv⟩ ∧ Touch (fun k => k = cb) W w') ((next5_any tb cb F c t W h.at_ hc hFt hf qb G _ hq hQ (seedL_fits hg hbd) (fun k hk => hXF k (hGX k hk).1) (fun e => (hGX tb e).2 rfl)).mono ?_)).mono ?_
   · rintro e w' (⟨er, t', he, rfl, hT, hC, ht⟩ | ⟨rfl, hT, h1, h2, h3, h4⟩)
     · exact ⟨er, t', rfl, hT, fun _ => ⟨hC, ht⟩, fun h0 => absurd h0 he⟩
     · exact ⟨0, _, rfl, hT, fun h => absurd rfl h, fun _ => ⟨hs, rfl, h1, h2, h3, h4⟩⟩
   · rintro e w' (⟨er, w0, t', rfl, hT, hA, ht⟩ | ⟨w0, t', rfl, hT, ⟨rfl, h1, h2, h3, h4⟩, ht⟩)
     · exact step_vain h.here hXF h.lt hT hA ht
     · have hn : ¬ (F tb ∨ G tb) := by
        rintro (e | e)
        · exact hFt e
        · exact (hGX tb e).2 rfl
       refine ⟨_, _, fun k => F k ∨ G k, fun k => k = tb, rfl, ⟨hT, rfl, fun k hk => hk ▸ hT.lt, fun h => absurd h (by simp), fun h => ?_⟩, h3.tb ht hn, fun k hk => hk ▸ hn, .inl (by simp [hs]), fun _ => ⟨rfl, rfl⟩, .inr ⟨rfl, rfl, rfl, rfl, h1.symm, h2.symm, seedL_sfits hg hbd⟩, ?_, fun k hk => hk.imp id (fun e => (hGX k e).1), fun k hk => .inl hk, fun k hk => .inl (hk ▸ h.here)⟩
       · rcases h with h | h <;> exact absurd h (by simp)
       · exact (h4.wider (fun k hk => .inr hk)).trans (fun k hk => .inl hk) (ht.wider (G := fun k => X k ∨ k = cb) (fun k hk => .inl (hk ▸ h.here)))
section
attribute [local go_sem] Oper.semAt_some
inductive OwnW where
 | swap
 | map
 | row
 | attempt (c : Int)
deriving DecidableEq
structure SwAt (W : World) (wb sb mb n : Nat) (av : Value) (D : DataW Unit) (m : Nat) (tbs : List Nat) (tb : Int → Nat) (cbs : List Nat) (L : Int → Option Tr) (ow : Nat → Option OwnW) : Prop where
 c0 : W.cell? ⟨wb, 0, none⟩ = some (.pointer (some ⟨sb, 0, none⟩))
 c1 : W.cell? ⟨wb, 1, none⟩ = some (.map (some mb))
 c2 : W.cell? ⟨wb, 2, none⟩ = some av
 live : ∀ i, W.frozen? ⟨wb, i, none⟩ = false
 map : W.ownsMap Tryz.prog 3 rptr mb n D
 cnt : n ≤ m
 reads : ∀ c : Int, -9223372036854775808 ≤ c → c ≤ 9223372036854775807 → D.atKey (.int .i64 c) (.lit (.bool false)) = (match L c with | none => .lit (.bool false) | some _ => .lit (.int .i64 (tb c)))
 row : W.ownsRow 0 210 1 av m (ptrs tbs)
 rown : ∀ k, av.ownBlock = some k → ow k = some .row
 tries : ∀ c t, L c = some t → (0 ≤ c ∧ c < cbs.length) ∧ TryIn W (tb c) cbs[c.toNat]! t (fun k => ow k = some (.attempt c))
 owb : ow wb = some .swap
 omb : ow mb = some .map
 lt : ∀ k, ow k ≠ none → k < W.heap.size
theorem SwAt.same {W W' : World} {wb sb mb n : Nat} {av : Value} {D : DataW Unit} {m : Nat} {tbs : List Nat} {tb : Int → Nat} {cbs : List Nat} {L : Int → Option Tr} {ow : Nat → Option OwnW} (h : SwAt W wb sb mb n av D m tbs tb cbs L ow)
 (hs : W.heap.size ≤ W'.heap.size) (hb : ∀ k, ow k ≠ none → W'.heap[k]? = W.heap[k]?) : SwAt W' wb sb mb n av D m tbs tb cbs L ow := by
 have hw := hb wb (by rw [h.owb]; simp); have h0 : ∀ i, W'.cell? ⟨wb, i, none⟩ = W.cell? ⟨wb, i, none⟩ := fun i => World.cell?_of_block hw; have h0' : ∀ i, W'.frozen? ⟨wb, i, none⟩ = W.frozen? ⟨wb, i, none⟩ := fun i => World.frozen?_of_block hw; exact ⟨(h0 0).trans h.c0, (h0 1).trans h.c1, (h0 2).trans h.c2, fun i => (h0' i).trans (h.live i), ownsMap_same h.map (hb mb (by rw [h.omb]; simp)), h.cnt, h.reads, ownsRow_same h.row (fun k hk => hb k (by rw [h.rown k hk]; simp)), h.rown,
  fun c t hc => ⟨(h.tries c t hc).1, (h.tries c t hc).2.same hs (fun k hk => hb k (by rw [hk]; simp))⟩, h.owb, h.omb, fun k hk => Nat.lt_of_lt_of_le (h.lt k hk) hs⟩
theorem SwAt.below {W W' : World} {wb sb mb n : Nat} {av : Value} {D : DataW Unit} {m : Nat} {tbs : List Nat} {tb : Int → Nat} {cbs : List Nat} {L : Int → Option Tr} {ow : Nat → Option OwnW} (h : SwAt W wb sb mb n av D m tbs tb cbs L ow)
 (hb : Below W.heap.size W W') : SwAt W' wb sb mb n av D m tbs tb cbs L ow := h.same hb.size (fun k hk => hb.block k (h.lt k hk))
theorem zero210 (W : World) : (zeroValue 210).run Tryz.prog W = .ok (.pointer none) W := Tryz.zeroValue210 W
theorem SwAt.look {W : World} {wb sb mb n : Nat} {av : Value} {D : DataW Unit} {m : Nat} {tbs : List Nat} {tb : Int → Nat} {cbs : List Nat} {L : Int → Option Tr} {ow : Nat → Option OwnW} (h : SwAt W wb sb mb n av D m tbs tb cbs L ow)
 (c : Int) (h1 : -9223372036854775808 ≤ c) (h2 : c ≤ 9223372036854775807) :
 (Instr.lookup 126 (.map (some mb)) (.int .i64 c) false).run Tryz.prog W = .ok (match L c with | none => .pointer none | some _ => .pointer (some ⟨tb c, 0, none⟩)) W := by
 obtain ⟨v, ps, hrun, hv⟩ := h.map.lookup (t := 126) (e := 210) keyed3 Tryz.underlying126 (zero210 W) (zd := .lit (.bool false)) (zp := []) rfl (key3 h1 h2); rw [h.reads c h1 h2] at hv; rw [hrun]; cases ht : L c with
 | none => rw [ht] at hv; rw [rptr_none hv]
 | some t => rw [ht] at hv; rw [rptr_some hv]
def noTries : Int → Option Tr := fun _ => none
def SwNewP (sb : Nat) (cbs : List Nat) (w : World) (e : Ending) (W' : World) : Prop :=
 ∃ (wb mb : Nat) (ow : Nat → Option OwnW), e = .returned (.tuple #[.pointer (some ⟨wb, 0, none⟩), .int .i64 0]) ∧ SwAt W' wb sb mb 0 (.slice none 0 0) (.map []) 0 [] (fun _ => 0) cbs noTries ow ∧ Below w.heap.size w W' ∧ ∀ k, ow k ≠ none → w.heap.size ≤ k
theorem swnew_any (sb : Nat) (cbs : List Nat) (W : World) : Calls Tryz.prog 24 #[.pointer (some ⟨sb, 0, none⟩)] W (SwNewP sb cbs W) := by
 have hmk := run_makeMap (P := Tryz.prog) 126 W; have hmp : (W.alloc (.map #[] 0)).ownsMap Tryz.prog 3 rptr W.heap.size 0 (.map []) := World.ownsMap_made W _ _ _; have HM := lH hmp; clear hmp; go_enter Tryz.func24, Tryz.ntmps24; go_wp2
 go_ret2
 have hz : (W.alloc (.map #[] 0)).heap.size = W.heap.size + 1 := by simp
 have hh := heap_alloc_new (W.alloc (.map #[] 0)) (.cells #[.pointer (some ⟨sb, 0, none⟩), .map (some W.heap.size), .slice none 0 0] 129); rw [hz] at hh; refine ⟨W.heap.size + 1, W.heap.size, fun k => if k = W.heap.size + 1 then some .swap else if k = W.heap.size then some .map else none, by simp, ⟨?_, ?_, ?_, fun i => ?_, HM.out.alloc _, Nat.le_refl _, fun c _ _ => ?_, World.ownsRow_nil .., (fun k hk => by simp [Value.ownBlock] at hk), (fun c t hc => by unfold noTries at hc; cases hc), by simp, ?_, fun k hk => ?_⟩, ((Below.refl _ _).alloc (Nat.le_refl _) _).alloc (by simp) _, fun k hk => ?_⟩
 · simp only [World.cell?, hh]; rfl
 · simp only [World.cell?, hh]; rfl
 · simp only [World.cell?, hh]; rfl
 · simp only [World.frozen?, hh]; simp
 · rfl
 · show (if _ then _ else _) = _; rw [if_neg (by omega), if_pos rfl]
 · split at hk
   · simp; omega
   · split at hk
     · simp; omega
     · exact absurd rfl hk
 · dsimp only at hk
   split at hk
   · omega
   · split at hk
     · omega
     · exact absurd rfl hk
end
section
attribute [local go_sem] Oper.semAt_some
open Classical in
theorem SysAt.setCore2 {W W' : World} {sb gb nb pb mb n : Nat} {cv : Value} {D : DataW Unit} {cbs : List Nat} {tb : Int → Nat} {own : Nat → Option Own} {s : Sy} (h : SysAt W sb gb nb pb mb n cv D cbs tb own s)
 {i : Nat} (hi : i < cbs.length) {F' : Nat → Prop} {c' : Co} (hc : CoreIn W' cbs[i]! F' c') (ht : Touch (fun k => own k = some (.core i) ∨ own k = none) W W') (hF : ∀ k, F' k → own k = some (.core i) ∨ own k = none) :
 ∃ own', SysAt W' sb gb nb pb mb n cv D cbs tb own' (setCo s i c') ∧ ∀ k, own' k ≠ none → own k ≠ none ∨ F' k := by
 have hdef : ∀ k x, own k = some x → (if own k = none then (if F' k then some (Own.core i) else none) else own k) = some x := fun k x hk => by
  rw [if_neg (by rw [hk]; simp)]; exact hk
 refine ⟨fun k => if own k = none then (if F' k then some (.core i) else none) else own k, ?_, fun k hk => ?_⟩; rotate_left
 · dsimp only at hk
   by_cases e : own k = none
   · rw [if_pos e] at hk; by_cases e2 : F' k
     · exact .inr e2
     · rw [if_neg e2] at hk; exact absurd rfl hk
   · exact .inl e
 have hb : ∀ k x, own k = some x → x ≠ .core i → W'.heap[k]? = W.heap[k]? := fun k x hk hx => ht.block k (h.lt k (by rw [hk]; simp)) (by rw [hk]; simpa using hx); have bsb := hb sb _ h.osb (by simp); have h0 : ∀ i, W'.cell? ⟨sb, i, none⟩ = W.cell? ⟨sb, i, none⟩ := fun i => World.cell?_of_block bsb; have h1 : ∀ i, W'.frozen? ⟨sb, i, none⟩ = W.frozen? ⟨sb, i, none⟩ := fun i => World.frozen?_of_block bsb; have hlt' : ∀ k, (if own k = none then (if F' k then some (Own.core i) else none) else own k) ≠ none → k < W'.heap.size := by
  intro k hk; split at hk
  · split at hk
    · rename_i hk3; exact hc.lt k hk3
    · exact absurd rfl hk
  · exact Nat.lt_of_lt_of_le (h.lt k hk) ht.size
 refine ⟨(h0 _).trans h.head, (h0 _).trans h.c1, fun j hj => ?_, (h0 _).trans h.c66, (h0 _).trans h.c67, fun j => (h1 j).trans (h.live j), h.groups.same (hb gb _ h.ogb (by simp)), h.slots.same (hb nb _ h.onb (by simp)) (hb pb _ h.opb (by simp)),
  ownsMap_same h.map (hb mb _ h.omb (by simp)), h.cnt, h.reads, fun id t hid => ?_, ownsRow_same h.row (fun k hk => hb k _ (h.rown k hk) (by simp)), fun k hk => hdef k _ (h.rown k hk), by simp only [setCo]; rw [List.length_set]; exact h.num, fun j hj => ?_,
  hdef _ _ h.osb, hdef _ _ h.ogb, hdef _ _ h.onb, hdef _ _ h.opb, hdef _ _ h.omb, hlt'⟩
 · obtain ⟨a1, a2, a3, a4⟩ := h.acc j hj; exact ⟨(h0 _).trans a1, (h0 _).trans a2, (h0 _).trans a3, (h0 _).trans a4⟩
 · obtain ⟨t1, t2⟩ := h.task id t hid; exact ⟨t1.same (hb _ _ t2 (by simp)), hdef _ _ t2⟩
 · simp only [setCo]; rw [getElem!_set_co _ _ _ _ (by rw [← h.num]; exact hj)]; by_cases e : i = j
   · subst e; rw [if_pos rfl]; refine hc.wider (fun k hk => ?_) (fun k hk => hlt' k (by rw [hk]; simp)); rcases hF k hk with h5 | h5
     · exact hdef k _ h5
     · rw [if_pos h5, if_pos hk]
   · rw [if_neg e]; have hcj := h.core j hj; have hcj' : CoreIn W' cbs[j]! (fun k => own k = some (.core j)) s.cores[j]! := hcj.same ht.size (fun k hk => hb k _ hk (by simp; omega)); exact hcj'.wider (fun k hk => hdef k _ hk) (fun k hk => hlt' k (by rw [hk]; simp))
def setL (L : Int → Option Tr) (c : Int) (t : Tr) : Int → Option Tr := fun x => if x = c then some t else L x
open Classical in
theorem SwAt.setTry {W W' : World} {wb sb mb n : Nat} {av : Value} {D : DataW Unit} {m : Nat} {tbs : List Nat} {tb : Int → Nat} {cbs : List Nat} {L : Int → Option Tr} {ow : Nat → Option OwnW} (h : SwAt W wb sb mb n av D m tbs tb cbs L ow)
 {i : Nat} {t t' : Tr} {X' : Nat → Prop} (ht : L i = some t) (hT : TryIn W' (tb i) cbs[i]! t' X') (hto : Touch (fun k => ow k = some (.attempt i) ∨ ow k = none) W W') (hX : ∀ k, X' k → ow k = some (.attempt i) ∨ W.heap.size ≤ k) :
 ∃ ow', SwAt W' wb sb mb n av D m tbs tb cbs (setL L i t') ow' ∧ ∀ k, ow' k ≠ none → (X' k ∨ (ow k ≠ none ∧ ow k ≠ some (.attempt i))) := by
 have hnone : ∀ k, W.heap.size ≤ k → ow k = none := fun k hk => by
  by_cases e : ow k = none
  · exact e
  · exact absurd (h.lt k e) (by omega)
 have hX2 : ∀ k, X' k → ow k = some (.attempt i) ∨ ow k = none := fun k hk => (hX k hk).imp id (hnone k); have hdef : ∀ k x, ow k = some x → x ≠ .attempt i → (if X' k then some (OwnW.attempt i) else if ow k = some (.attempt i) then none else ow k) = some x := fun k x hk hx => by
  rw [if_neg (fun e => by rcases hX2 k e with h5 | h5 <;> rw [hk] at h5 <;> simp at h5; exact hx h5), if_neg (by rw [hk]; simpa using hx)]; exact hk
 have hb : ∀ k x, ow k = some x → x ≠ .attempt i → W'.heap[k]? = W.heap[k]? := fun k x hk hx => hto.block k (h.lt k (by rw [hk]; simp)) (by rw [hk]; simpa using hx); have bwb := hb wb _ h.owb (by simp); have h0 : ∀ i, W'.cell? ⟨wb, i, none⟩ = W.cell? ⟨wb, i, none⟩ := fun i => World.cell?_of_block bwb; have h1 : ∀ i, W'.frozen? ⟨wb, i, none⟩ = W.frozen? ⟨wb, i, none⟩ := fun i => World.frozen?_of_block bwb; refine ⟨fun k => if X' k then some (.attempt i) else if ow k = some (.attempt i) then none else ow k,
  ⟨(h0 0).trans h.c0, (h0 1).trans h.c1, (h0 2).trans h.c2, fun i => (h1 i).trans (h.live i), ownsMap_same h.map (hb mb _ h.omb (by simp)), h.cnt, fun c hc1 hc2 => ?_, ownsRow_same h.row (fun k hk => hb k _ (h.rown k hk) (by simp)), fun k hk => hdef k _ (h.rown k hk) (by simp),
   fun x u hu => ?_, hdef _ _ h.owb (by simp), hdef _ _ h.omb (by simp), fun k hk => ?_⟩, fun k hk => ?_⟩
 · rw [h.reads c hc1 hc2]; unfold setL; by_cases e : c = (i : Int)
   · subst e; simp only [if_pos, ht]
   · simp only [if_neg e]
 · unfold setL at hu; by_cases e : x = (i : Int)
   · subst e; simp only [if_pos, Option.some.injEq] at hu; subst hu; refine ⟨(h.tries _ t ht).1, ?_⟩; have hXX : (fun k => (if X' k then some (OwnW.attempt i) else if ow k = some (.attempt i) then none else ow k) = some (OwnW.attempt i)) = X' := by
      funext k
      by_cases hk : X' k
      · simp [hk]
      · simp only [if_neg hk]; refine propext ⟨fun hh => ?_, fun hh => absurd hh hk⟩; by_cases e2 : ow k = some (.attempt i)
        · rw [if_pos e2] at hh; cases hh
        · rw [if_neg e2] at hh; exact absurd hh e2
     rw [hXX]; simpa using hT
   · simp only [if_neg e] at hu; obtain ⟨t1, t2⟩ := h.tries x u hu; refine ⟨t1, ?_⟩; have hXX : (fun k => (if X' k then some (OwnW.attempt i) else if ow k = some (.attempt i) then none else ow k) = some (OwnW.attempt x)) = (fun k => ow k = some (OwnW.attempt x)) := by
      funext k
      refine propext ⟨fun hh => ?_, fun hh => hdef k _ hh (by simpa using e)⟩; by_cases hk : X' k
      · rw [if_pos hk] at hh; simp at hh; exact absurd hh.symm e
      · rw [if_neg hk] at hh; by_cases e2 : ow k = some (.attempt i)
        · rw [if_pos e2] at hh; cases hh
        · rw [if_neg e2] at hh; exact hh
     rw [hXX]; exact t2.same hto.size (fun k hk => hb k _ hk (by simpa using e))
 · (try dsimp only at hk)
   by_cases e : X' k
   · exact hT.lt k e
   · rw [if_neg e] at hk; by_cases e2 : ow k = some (.attempt i)
     · rw [if_pos e2] at hk; exact absurd rfl hk
     · rw [if_neg e2] at hk; exact Nat.lt_of_lt_of_le (h.lt k hk) hto.size
 · (try dsimp only at hk)
   by_cases e : X' k
   · exact .inl e
   · rw [if_neg e] at hk; by_cases e2 : ow k = some (.attempt i)
     · rw [if_pos e2] at hk; exact absurd rfl hk
     · rw [if_neg e2] at hk; exact .inr ⟨hk, e2⟩
def Both (W : World) (wb sb : Nat) (s : Sy) (m : Nat) (cbs : List Nat) (L : Int → Option Tr) (own : Nat → Option Own) (ow : Nat → Option OwnW) : Prop :=
 (∃ gb nb pb mb n cv D tb, SysAt W sb gb nb pb mb n cv D cbs tb own s) ∧ (∃ mb n av D tbs ttb, SwAt W wb sb mb n av D m tbs ttb cbs L ow) ∧ ∀ k, ow k ≠ none → own k = none
theorem Both.step {W W' : World} {wb sb m : Nat} {s : Sy} {cbs : List Nat} {L : Int → Option Tr} {own : Nat → Option Own} {ow : Nat → Option OwnW} {i : Nat} {t t' : Tr} {c' : Co} {F' X' : Nat → Prop}
 {mb n : Nat} {av : Value} {D : DataW Unit} {tbs : List Nat} {ttb : Int → Nat}
 (hy : ∃ gb nb pb mb n cv D tb, SysAt W sb gb nb pb mb n cv D cbs tb own s) (hw : SwAt W wb sb mb n av D m tbs ttb cbs L ow) (hd : ∀ k, ow k ≠ none → own k = none) (hi : i < cbs.length) (ht : L i = some t)
 (h1 : TryIn W' (ttb i) cbs[i]! t' X') (h2 : CoreIn W' cbs[i]! F' c') (h3 : ∀ k, X' k → ¬ F' k) (h4 : Touch (fun k => ow k = some (.attempt i) ∨ k = cbs[i]!) W W') (h5 : ∀ k, F' k → own k = some (.core i) ∨ ow k = some (.attempt i))
 (h7 : ∀ k, X' k → ow k = some (.attempt i) ∨ W.heap.size ≤ k) :
 ∃ own' ow', (∃ gb nb pb mb n cv D tb, SysAt W' sb gb nb pb mb n cv D cbs tb own' (setCo s i c')) ∧ SwAt W' wb sb mb n av D m tbs ttb cbs (setL L i t') ow' ∧ (∀ k, ow' k ≠ none → own' k = none) ∧ (∀ k, (own' k ≠ none ∨ ow' k ≠ none) → (own k ≠ none ∨ ow k ≠ none) ∨ W.heap.size ≤ k) := by
 obtain ⟨gb, nb, pb, mb', n', cv, D', tb, hS⟩ := hy; have hcb : own cbs[i]! = some (.core i) := by
  obtain ⟨_, _, _, _, _, _, _, _, _, _, _, _, _, _, h9, _⟩ := hS.core i hi; exact h9
 have hat : ∀ k, ow k = some (.attempt i) → own k = none := fun k hk => hd k (by rw [hk]; simp); obtain ⟨own', hS', ho⟩ := hS.setCore2 hi h2 (h4.wider (fun k hk => by
  rcases hk with hk | rfl
  · exact .inr (hat k hk)
  · exact .inl hcb)) (fun k hk => (h5 k hk).imp id (hat k))
 obtain ⟨ow', hW', hw2⟩ := hw.setTry ht h1 (h4.wider (fun k hk => by
  rcases hk with hk | rfl
  · exact .inl hk
  · refine .inr ?_; by_cases e : ow cbs[i]! = none
    · exact e
    · have := hd _ e; rw [hcb] at this; cases this)) h7
 refine ⟨own', ow', ⟨gb, nb, pb, mb', n', cv, D', tb, hS'⟩, hW', fun k hk => ?_, fun k hk => ?_⟩
 · by_cases e : own' k = none
   · exact e
   · exfalso
     rcases hw2 k hk with hx | ⟨hx, hx2⟩
     · rcases ho k e with h8 | h8
       · rcases h7 k hx with h9 | h9
         · exact h8 (hat k h9)
         · have := hS.lt k h8; omega
       · exact h3 k hx h8
     · rcases ho k e with h8 | h8
       · exact h8 (hd k hx)
       · rcases h5 k h8 with h9 | h9
         · have := hd k hx; rw [h9] at this; cases this
         · exact hx2 h9
 · rcases hk with hk | hk
   · rcases ho k hk with h8 | h8
     · exact .inl (.inl h8)
     · rcases h5 k h8 with h9 | h9
       · exact .inl (.inl (by rw [h9]; simp))
       · exact .inl (.inr (by rw [h9]; simp))
   · rcases hw2 k hk with h8 | h8
     · rcases h7 k h8 with h9 | h9
       · exact .inl (.inr (by rw [h9]; simp))
       · exact .inr h9
     · exact .inl (.inr h8.1)
end
section
attribute [local go_sem] Oper.semAt_some
def ChR (c c' : Co) (tag base : Int) : Prop :=
 c' = c ∨ (c'.tag = tag ∧ c'.l.base = base ∧ c'.age = c.age ∧ c'.srv = c.srv ∧ c'.l.cur = c.l.cur ∧ formL c'.l = formL c.l ∧ SFits c'.l)
theorem ChR.trans {c c1 c2 : Co} {tag base : Int} (h : ChR c c1 tag base) (h2 : ChR c1 c2 tag base) : ChR c c2 tag base := by
 rcases h2 with rfl | ⟨a1, a2, a3, a4, a5, a6, a7⟩
 · exact h
 · rcases h with rfl | ⟨b1, b2, b3, b4, b5, b6, b7⟩
   · exact .inr ⟨a1, a2, a3, a4, a5, a6, a7⟩
   · exact .inr ⟨a1, a2, a3.trans b3, a4.trans b4, a5.trans b5, a6.trans b6, a7⟩
theorem ChR.fits {c c1 : Co} {tag base : Int} (h : ChR c c1 tag base) (hf : Fits c.l) : Fits c1.l := by
 rcases h with rfl | ⟨a1, a2, a3, a4, a5, a6, a7⟩
 · exact hf
 · exact a7.1
def AInv (W : World) (wb sb m : Nat) (s : Sy) (cbs : List Nat) (L : Int → Option Tr) (own0 : Nat → Option Own) (ow0 : Nat → Option OwnW) (i : Nat) (c : Co) (tag base : Int) (tbk k : Nat) (wr : World) : Prop :=
 ∃ (t : Tr) (c' : Co) (own : Nat → Option Own) (ow : Nat → Option OwnW), (∃ gb nb pb mb n cv D tb, SysAt wr sb gb nb pb mb n cv D cbs tb own (setCo s i c')) ∧
  (∃ mb n av D tbs ttb, SwAt wr wb sb mb n av D m tbs ttb cbs (setL L i t) ow ∧ ttb i = tbk) ∧ (∀ k, ow k ≠ none → own k = none) ∧ (0 ≤ t.stg ∧ t.stg ≤ 6) ∧ (t.stg ≠ 6 → t.tag = tag ∧ t.base = base) ∧ ChR c c' tag base ∧ 6 ≤ k + t.stg.toNat ∧
  Touch (fun k => own0 k ≠ none ∨ ow0 k ≠ none) W wr ∧ (∀ k, (own k ≠ none ∨ ow k ≠ none) → (own0 k ≠ none ∨ ow0 k ≠ none) ∨ W.heap.size ≤ k)
theorem setL_setL (L : Int → Option Tr) (i : Int) (t t' : Tr) : setL (setL L i t) i t' = setL L i t' := by
 funext x; unfold setL; split <;> rfl
theorem setCo_setCo (s : Sy) (i : Nat) (c c' : Co) : setCo (setCo s i c) i c' = setCo s i c' := by simp [setCo]
theorem AInv.step {W wr : World} {wb sb m : Nat} {s : Sy} {cbs : List Nat} {L : Int → Option Tr} {own0 : Nat → Option Own} {ow0 : Nat → Option OwnW} {i : Nat} {c : Co} {tag base : Int} {tbk k : Nat}
 (h : AInv W wb sb m s cbs L own0 ow0 i c tag base tbk k wr) (hi : i < cbs.length) (hf : Fits c.l) :
 ∃ t : Tr, Calls Tryz.prog 126 #[.pointer (some ⟨tbk, 0, none⟩)] wr (fun e w' => e = .returned (.int .i64 t.stg) ∧ wr = w') ∧ Calls Tryz.prog 128 #[.pointer (some ⟨tbk, 0, none⟩)] wr (fun e w' => e = .returned (.int .i64 t.why) ∧ wr = w') ∧
  (t.stg < 5 → 0 < k ∧ Calls Tryz.prog 124 #[.pointer (some ⟨tbk, 0, none⟩)] wr (fun e w' => (∃ x y : Int, e = .returned (.tuple #[.int .i64 x, .int .i64 y])) ∧ AInv W wb sb m s cbs L own0 ow0 i c tag base tbk (k - 1) w')) ∧
  (5 ≤ t.stg → ∃ (c' : Co) (own : Nat → Option Own) (ow : Nat → Option OwnW), Both wr wb sb (setCo s i c') m cbs (setL L i t) own ow ∧ ChR c c' tag base ∧
   Touch (fun k => own0 k ≠ none ∨ ow0 k ≠ none) W wr ∧ (∀ k, (own k ≠ none ∨ ow k ≠ none) → (own0 k ≠ none ∨ ow0 k ≠ none) ∨ W.heap.size ≤ k)) := by
 obtain ⟨t, c', own, ow, ⟨gb, nb, pb, mb, n, cv, D, tb, hS⟩, ⟨mb', n', av, D', tbs, ttb, hW, htb⟩, hd, h0, h6, hch, hk, hto, hown⟩ := h; have ht : setL L i t i = some t := by simp [setL]
 have hT := (hW.tries i t ht).2; rw [htb] at hT; simp only [Int.toNat_natCast] at hT; refine ⟨t, stage_any _ _ t _ hT.at_, why_any _ _ t _ hT.at_, fun h5 => ⟨by omega, ?_⟩, fun h5 => ⟨c', own, ow, ⟨⟨gb, nb, pb, mb, n, cv, D, tb, hS⟩, ⟨mb', n', av, D', tbs, ttb, hW⟩, hd⟩, hch, hto, hown⟩⟩; have hcore := hS.core i hi; have hgl : i < (setCo s i c').cores.length := by rw [← hS.num]; exact hi
 have hcc : (setCo s i c').cores[i]! = c' := by
  simp only [setCo] at hgl ⊢; rw [getElem!_set_co _ _ _ _ (by simpa using hgl), if_pos rfl]
 rw [hcc] at hcore; have hdx : ∀ k, ow k = some (.attempt i) → own k = none := fun k hk => hd k (by rw [hk]; simp); have hcb : own cbs[i]! = some (.core i) := by
  obtain ⟨_, _, _, _, _, _, _, _, _, _, _, _, _, _, h9, _⟩ := hcore; exact h9
 refine (trystep_any tbk cbs[i]! (fun k => own k = some (.core i)) (fun k => ow k = some (.attempt i)) c' t wr hT hcore (hch.fits hf) (fun k hk e => by rw [hdx k hk] at e; cases e) h0.1 (by omega)).mono ?_; rintro e w' ⟨t', c2, F', X', he, hT', hC', hXF, hst, htag, hc2, hto2, hF1, hF2, hX1⟩; refine ⟨⟨_, _, he⟩, ?_⟩; obtain ⟨own', ow', hy', hw', hd', hall⟩ := Both.step (wb := wb) (i := i) ⟨gb, nb, pb, mb, n, cv, D, tb, hS⟩ hW hd hi ht (by rw [htb]; exact hT') hC' hXF hto2 hF1 hX1; rw [setCo_setCo] at hy'; rw [setL_setL] at hw'; have htg := h6 (by omega); refine ⟨t', c2, own', ow', hy', ⟨mb', n', av, D', tbs, ttb, hw', htb⟩, hd', by omega, fun h => ?_, hch.trans ?_, by omega, ?_, fun k hk => ?_⟩
 · obtain ⟨a, b⟩ := htag h; exact ⟨a.trans htg.1, b.trans htg.2⟩
 · rcases hc2 with h | ⟨a1, a2, a3, a4, a5, a6, a7⟩
   · exact .inl h
   · exact .inr ⟨a1.trans htg.1, a2.trans htg.2, a3, a4, a5, a6, a7⟩
 · exact Touch.trans hto (G := fun k => ow k = some (.attempt i) ∨ k = cbs[i]!) (fun k hk => by
    rcases hk with hk | hk
    · exact hown k (.inr (by rw [hk]; simp))
    · subst hk; exact hown _ (.inl (by rw [hcb]; simp))) hto2
 · rcases hall k hk with h | h
   · exact hown k h
   · exact .inr (Nat.le_trans hto.size h)
end
end Go.Proofs.YtoiajjobecinpaaGreat
