/- A region that draws its order, in a round of a range over a function: what the wide fence shows outside a round holds in -/
import Derived.Shelf.SlSortCmp.Whole1
import Derived.Test.YtoiajjobecinpaaGreatTA07
set_option maxHeartbeats 4000000
namespace Go.Proofs.YtoiajjobecinpaaGreat
open Go.RowKit Go.Shelf Go.Lib Go.Proofs
set_option linter.unusedVariables false
set_option linter.unusedSimpArgs false
def noDefer (o : Oper) : Bool := match o.op with | .defer _ => false | _ => true
theorem noDefer_spec {o : Oper} (h : noDefer o = true) : ∀ c, o.op ≠ .defer c := by
 intro c hc; unfold noDefer at h; rw [hc] at h; cases h
theorem oper_round {F : Fence} {n : Nat} {P : Program} {o : Oper} {a : Act} {w : World} {K : Act → World → Prop} {Q : Exit → Act → World → Prop} (l : Nat) (hro : F.round = none) (hn : noDefer o = true) (h : o.wpIn F n P a w K Q) : o.wpIn (F.inRound l) n P a w K Q := by
 unfold Oper.wpIn at h ⊢; refine ⟨h.1, ?_⟩; have h2 := h.2; rw [hro, Oper.semAt_none] at h2; rw [Oper.semAt_eq _ _ _ (noDefer_spec hn)]; exact h2
theorem wpOp_round {F : Fence} {n : Nat} {P : Program} {ops : Array Oper} {Q : Exit → Act → World → Prop} {i : Nat} {K : Act → World → Prop} {a : Act} {w : World} (l : Nat) (hro : F.round = none) (hn : ops.all noDefer = true) (h : wpOpIn F n P ops Q i K a w) : wpOpIn (F.inRound l) n P ops Q i K a w := by
 unfold wpOpIn at h ⊢; split
 · rename_i e; rw [e] at h; exact h
 · rename_i o e; rw [e] at h; simp only at h; split
   · rename_i hw; rw [if_pos hw] at h; exact oper_round l hro (Array.all_eq_true'.1 hn o (Array.mem_of_getElem? e)) h
   · rename_i hw; rw [if_neg hw] at h; exact h
theorem wpAny_round {F : Fence} {n : Nat} {P : Program} {md : Region.Mode} {ops : Array Oper} {Q : Exit → Act → World → Prop} (l : Nat) (hro : F.round = none) (hn : ops.all noDefer = true) : ∀ (fuel : Nat) (listed : Array Bool) (a : Act) (w : World), wpAnyIn F n P md ops Q fuel listed a w → wpAnyIn (F.inRound l) n P md ops Q fuel listed a w
 | 0, _, _, _, h => h
 | fuel + 1, _, _, _, h => ⟨h.1, fun i hi => wpOp_round l hro hn (wpOpIn_mono (fun a w => wpAny_round l hro hn fuel _ a w) (h.2 i hi))⟩
theorem wpIn_quiet_round {F : Fence} {n : Nat} {P : Program} {id : Nat} {Q : Exit → Act → World → Prop} {a : Act} {w : World} {l : List Oper} {r : Nat} (hro : F.round = none) (hm : P.follows .mixedOrders = true) (hB : Region.lexB .any l.toArray = true) (hn : l.toArray.all noDefer = true)
 (h : wpQuietIn F n P l.toArray (fun w' => ∃ n, w' = w.drewN n) (fun a' => ∀ w', (∃ n, w' = w.drewN n) → Q .normal a' w') l a) : (Code.region id l.toArray true).wpIn (F.inRound r) n P Q a w := by
 simp only [Region.lexB, Bool.and_eq_true] at hB; refine wpIn_region_any hm (wpAny_round r hro hn _ _ _ _ (wpAnyIn_of_quiet (C := fun w' => ∃ n, w' = w.drewN n) (Q := fun a' => ∀ w', (∃ n, w' = w.drewN n) → Q .normal a' w') hro (fun _ w' hw' h => h w' hw') _ _ _ _ ⟨1, rfl⟩ ?_)); have := wpAnyQIn_lex (F := F) (n := n) (C := fun w' => ∃ n, w' = w.drewN n) (md := .any) hB.1 l.toArray.toList 0 (Array.replicate l.toArray.size false) a (by simp) (by simpa using hB.2) h; simpa using this
theorem oper_wide {n : Nat} {P : Program} {o : Oper} {a : Act} {w : World} {K : Act → World → Prop} {Q : Exit → Act → World → Prop} (h : o.wp P a w K Q) : o.wpIn Fence.wide n P a w K Q := by
 unfold Oper.wpIn; refine ⟨fun _ _ => trivial, ?_⟩; unfold Oper.wp at h; show o.uponIn Fence.wide n P a K Q ((Oper.semAt none a.eval o).run P w); rw [Oper.semAt_none]; generalize (execOp a.eval o).run P w = r at h ⊢; cases r with
 | ok x w' =>
  cases x with
  | value v => exact h
  | skip => exact h
  | defer d => exact h
  | enter f args => exact ⟨fun e => by simp [Fence.wide] at e, callsIn_wide.2 h⟩
  | row r args => exact ⟨fun e => by simp [Fence.wide] at e, fun c cs _ => let ⟨v, w', r, s⟩ := h c cs; ⟨v, w', r, stepsIn_wide.2 s⟩⟩
  | _ => exact h.elim
 | halt e w' =>
  cases e <;> first | exact h | exact h.elim
theorem wpOp_wide {n : Nat} {P : Program} {ops : Array Oper} {Q : Exit → Act → World → Prop} {i : Nat} {K : Act → World → Prop} {a : Act} {w : World} (hQ : ∀ a w, ¬ Q .outgrown a w) (h : wpOp P ops Q i K a w) : wpOpIn Fence.wide n P ops Q i K a w := by
 unfold wpOp at h; unfold wpOpIn; split
 · rename_i e; rw [e] at h; exact h
 · rename_i o e; rw [e] at h; simp only at h; split
   · rename_i hw; rw [if_pos hw] at h; rcases h with h | ⟨_, a', w', h⟩
     · exact oper_wide h
     · exact absurd h (hQ a' w')
   · rename_i hw; rw [if_neg hw] at h; exact ⟨fun _ _ => trivial, h⟩
theorem wpAny_wide {n : Nat} {P : Program} {md : Region.Mode} {ops : Array Oper} {Q : Exit → Act → World → Prop} (hQ : ∀ a w, ¬ Q .outgrown a w) : ∀ (fuel : Nat) (listed : Array Bool) (a : Act) (w : World), wpAny P md ops Q fuel listed a w → wpAnyIn Fence.wide n P md ops Q fuel listed a w
 | 0, _, _, _, h => h
 | fuel + 1, _, _, _, h => ⟨h.1, fun i hi => wpOp_wide hQ (wpOp_mono (fun a w => wpAny_wide hQ fuel _ a w) (h.2 i hi))⟩
theorem wpIn_any_round {n : Nat} {P : Program} {id : Nat} {ops : Array Oper} {Q : Exit → Act → World → Prop} {a : Act} {w : World} {r : Nat} (hm : P.follows .mixedOrders = true) (hn : ops.all noDefer = true) (hQ : ∀ a w, ¬ Q .outgrown a w)
 (h : wpAny P .any ops Q ops.size (Array.replicate ops.size false) a w.drew) : (Code.region id ops true).wpIn (Fence.wide.inRound r) n P Q a w :=
 wpIn_region_any hm (wpAny_round r rfl hn _ _ _ _ (wpAny_wide hQ _ _ _ _ h))
theorem wpIn_W_round {n : Nat} {P : Program} {id : Nat} {ops : Array Oper} {Q : Exit → Act → World → Prop} {a : Act} {w : World} {r : Nat} {S : World → Prop} {T : List Nat} (hm : P.follows .mixedOrders = true) (hn : ops.all noDefer = true) (hQ : ∀ a w, ¬ Q .outgrown a w)
 (h : wpAnyW P .any ops Q S T ops.size (Array.replicate ops.size false) a w.drew) : (Code.region id ops true).wpIn (Fence.wide.inRound r) n P Q a w :=
 wpIn_any_round hm hn hQ (wpAny_of_W _ _ _ _ h)
end Go.Proofs.YtoiajjobecinpaaGreat
namespace Go.Proofs.YtoiajjobecinpaaGreat
open Go.RowKit Go.Shelf Go.Lib Go.Proofs Go.Sort
set_option linter.unusedVariables false
set_option linter.unusedSimpArgs false
def Tryz.l158_ren : Go.Shelf.Ren := ⟨fun | 6 => 158 | 15 => 181 | 14 => 180 | 28 => 199 | 29 => 200 | 20 => 191 | 21 => 192 | 22 => 193 | 23 => 194 | 24 => 195 | 25 => 196 | 26 => 197 | 27 => 198 | 46 => 209 | 47 => 210 | 48 => 211 | 49 => 212 | 50 => 213 | 57 => 225 | n => n, fun | 22 => 202 | 24 => 188 | 25 => 254 | 3 => 3 | 39 => 154 | 0 => 0 | 53 => 296 | 55 => 298 | 4 => 4 | 46 => 290 | 45 => 289 | 50 => 101 | 5 => 5 | 9 => 9 | 66 => 307 | 70 => 311 | 76 => 325 | 77 => 223 | n => n, fun | n => n⟩
theorem Tryz.l158 : Go.Proofs.SlLaysF.n6 Tryz.prog Tryz.l158_ren := {
 mixed := by kernel_rfl
 f6 := ⟨Tryz.f158.name, by decide, Tryz.func158.trans (congrArg some (by kernel_rfl))⟩
 f14 := ⟨Tryz.f180.name, by decide, Tryz.func180.trans (congrArg some (by kernel_rfl))⟩
 f15 := Tryz.func181.trans (congrArg some (by kernel_rfl))
 f20 := ⟨Tryz.f191.name, by decide, Tryz.func191.trans (congrArg some (by kernel_rfl))⟩
 f21 := ⟨Tryz.f192.name, by decide, Tryz.func192.trans (congrArg some (by kernel_rfl))⟩
 f22 := ⟨Tryz.f193.name, by decide, Tryz.func193.trans (congrArg some (by kernel_rfl))⟩
 f23 := ⟨Tryz.f194.name, by decide, Tryz.func194.trans (congrArg some (by kernel_rfl))⟩
 f24 := ⟨Tryz.f195.name, by decide, Tryz.func195.trans (congrArg some (by kernel_rfl))⟩
 f25 := ⟨Tryz.f196.name, by decide, Tryz.func196.trans (congrArg some (by kernel_rfl))⟩
 f26 := ⟨Tryz.f197.name, by decide, Tryz.func197.trans (congrArg some (by kernel_rfl))⟩
 f27 := ⟨Tryz.f198.name, by decide, Tryz.func198.trans (congrArg some (by kernel_rfl))⟩
 f28 := Tryz.func199.trans (congrArg some (by kernel_rfl))
 f29 := Tryz.func200.trans (congrArg some (by kernel_rfl))
 f46 := ⟨Tryz.f209.name, by decide, Tryz.func209.trans (congrArg some (by kernel_rfl))⟩
 f47 := Tryz.func210.trans (congrArg some (by kernel_rfl))
 f48 := Tryz.func211.trans (congrArg some (by kernel_rfl))
 f49 := ⟨Tryz.f212.name, by decide, Tryz.func212.trans (congrArg some (by kernel_rfl))⟩
 f50 := ⟨Tryz.f213.name, by decide, Tryz.func213.trans (congrArg some (by kernel_rfl))⟩
 f57 := ⟨Tryz.f225.name, by decide, Tryz.func225.trans (congrArg some (by kernel_rfl))⟩
 t0 := Tryz.underlying0
 a0 := Tryz.isAgg0
 z0 := Tryz.sizeOf0
 v0 := Tryz.zeroValue0
 t3 := Tryz.underlying3
 a3 := Tryz.isAgg3
 z3 := Tryz.sizeOf3
 v3 := Tryz.zeroValue3
 t4 := Tryz.underlying4
 a4 := Tryz.isAgg4
 z4 := Tryz.sizeOf4
 v4 := Tryz.zeroValue4
 t5 := Tryz.underlying5
 a5 := Tryz.isAgg5
 z5 := Tryz.sizeOf5
 v5 := Tryz.zeroValue5
 t9 := Tryz.underlying9
 a9 := Tryz.isAgg9
 z9 := Tryz.sizeOf9
 v9 := Tryz.zeroValue9
 t22 := Tryz.underlying202
 a22 := Tryz.isAgg202
 z22 := Tryz.sizeOf202
 v22 := Tryz.zeroValue202
 a24 := Tryz.isAgg188
 z24 := Tryz.sizeOf188
 t25 := Tryz.underlying254
 a25 := Tryz.isAgg254
 z25 := Tryz.sizeOf254
 v25 := Tryz.zeroValue254
 t39 := Tryz.underlying154
 a39 := Tryz.isAgg154
 z39 := Tryz.sizeOf154
 v39 := Tryz.zeroValue154
 t45 := Tryz.underlying289
 a45 := Tryz.isAgg289
 z45 := Tryz.sizeOf289
 v45 := Tryz.zeroValue289
 t46 := Tryz.underlying290
 a46 := Tryz.isAgg290
 z46 := Tryz.sizeOf290
 v46 := Tryz.zeroValue290
 t50 := Tryz.underlying101
 a50 := Tryz.isAgg101
 z50 := Tryz.sizeOf101
 v50 := Tryz.zeroValue101
 t53 := Tryz.underlying296
 a53 := Tryz.isAgg296
 z53 := Tryz.sizeOf296
 v53 := Tryz.zeroValue296
 t55 := Tryz.underlying298
 a55 := Tryz.isAgg298
 z55 := Tryz.sizeOf298
 v55 := Tryz.zeroValue298
 t66 := Tryz.underlying307
 a66 := Tryz.isAgg307
 z66 := Tryz.sizeOf307
 v66 := Tryz.zeroValue307
 t70 := Tryz.underlying311
 a70 := Tryz.isAgg311
 z70 := Tryz.sizeOf311
 v70 := Tryz.zeroValue311
 t76 := Tryz.underlying325
 a76 := Tryz.isAgg325
 z76 := Tryz.sizeOf325
 v76 := Tryz.zeroValue325
 t77 := Tryz.underlying223
 a77 := Tryz.isAgg223
 z77 := Tryz.sizeOf223
 v77 := Tryz.zeroValue223 }
theorem closure159 (b1 b2 : Nat) (x y : Int) (W : World) (h1 : W.cell? ⟨b1, 0, none⟩ = some (.int .i64 x)) (h2 : W.cell? ⟨b2, 0, none⟩ = some (.int .i64 y)) :
 Calls Tryz.prog 159 #[.pointer (some ⟨b1, 0, none⟩), .pointer (some ⟨b2, 0, none⟩)] W fun e w' => e = .returned (.int .i64 (cmpI x y)) ∧ ∃ q os', w' = grow (W.drewN q) os' := by
 have hcon := fun W' => cmp160 x y W'; generalize cmpI x y = r at hcon ⊢; go_enter Tryz.func159, Tryz.ntmps159; go_wp2_with fail
 go_quiet ((go_at_call 160; exact Calls.quiet_of_same ((hcon _).mono (fun e w9 hh => ⟨hh.1, hh.2.symm⟩))))
 go_wp2_with fail
 go_ret
 exact ⟨rfl, nq, #[], (grow_empty _).symm⟩
abbrev TP (w : World) (g : Nat) := { p : Nat × Int // w.cell? ⟨p.1, 0, none⟩ = some (.int .i64 p.2) ∧ p.1 ≠ g }
def tpv {w : World} {g : Nat} (p : TP w g) : Value := .pointer (some ⟨p.1.1, 0, none⟩)
theorem ltTP {w : World} {g : Nat} (x y : TP w g) : ltOf (fun x y : TP w g => cmpI x.1.2 y.1.2) x y = decide (x.1.2 < y.1.2) := by
 unfold ltOf cmpI; by_cases h1 : x.1.2 < y.1.2
 · simp [h1]
 · by_cases h2 : y.1.2 < x.1.2 <;> simp [h1, h2]
theorem swoTP {w : World} {g : Nat} : SWO (ltOf fun x y : TP w g => cmpI x.1.2 y.1.2) where
 irrefl x := by rw [ltTP]; simp
 trans x y z h1 h2 := by rw [ltTP] at *; simp at *; omega
 ntrans x y z h1 h2 := by rw [ltTP] at *; simp at *; omega
theorem heap_sortWorld {α : Type} [Inhabited α] (enc : α → Value) (W : World) (g n : Nat) (d' : Array α) (os : Array Obj) (k : Nat) (hk : k < W.heap.size) (hne : k ≠ g) : (sortWorld enc W g 0 n d' os).heap[k]? = W.heap[k]? := by
 unfold sortWorld; rw [heap_grow_old _ _ (by simpa [putRow, mapBlock, ahead] using hk)]; simp [putRow, mapBlock, ahead, Array.getElem?_modify, hne.symm]
theorem touch_sortWorld {α : Type} [Inhabited α] (enc : α → Value) (W : World) (g n : Nat) (d' : Array α) (os : Array Obj) : Touch (fun k => k = g) W (sortWorld enc W g 0 n d' os) :=
 ⟨rfl, rfl, rfl, by unfold sortWorld; rw [size_grow, size_putRow]; exact Nat.le_add_right _ _, fun k hk hne => heap_sortWorld enc W g n d' os k hk hne⟩
theorem eg159 : ∀ args w, (callFunc 159 args).run Tryz.prog w = .ok (.enter 159 args) w := enters_of Tryz.func159 (by kernel_rfl) rfl
theorem sort158_raw (g c : Nat) (w : World) (d : Array (TP w g)) [Inhabited (TP w g)] (hH : Holds tpv w g 0 d) (hg : g < w.heap.size) (hsz : d.size < 4611686018427387904) :
 Calls Tryz.prog 158 #[.slice (some ⟨g, 0, none⟩) d.size c, .func (.func 159) #[] #[]] w fun e w' =>
  e = .returned (.tuple #[]) ∧ ∃ d' n os, PermIn 0 d.size d d' ∧ SortedIn (ltOf fun x y : TP w g => cmpI x.1.2 y.1.2) 0 d.size d' ∧ w' = sortWorld tpv w g 0 n d' os := by
 have hcon := Any.slices_SortFunc Tryz.l158 (tpv (w := w) (g := g)) (fun _ => rfl) (fun x y => cmpI x.1.2 y.1.2) swoTP 159 #[] g 0 c d w eg159
  (fun m os dk hs x y => closure159 x.1.1 y.1.1 x.1.2 y.1.2 _ ((World.cell?_of_block (a := ⟨x.1.1, 0, none⟩) (heap_sortWorld tpv w g m dk os x.1.1 (World.block_lt_of_cell? w _ x.2.1) x.2.2)).trans x.2.1) ((World.cell?_of_block (a := ⟨y.1.1, 0, none⟩) (heap_sortWorld tpv w g m dk os y.1.1 (World.block_lt_of_cell? w _ y.2.1) y.2.2)).trans y.2.1)) hH hg hsz
 exact hcon
def ptv (p : Nat × Int) : Value := .pointer (some ⟨p.1, 0, none⟩)
theorem putCells_size {α : Type} [Inhabited α] (enc : α → Value) (d : Array α) (c : Array Value) : (putCells enc 0 d c).size = c.size := by simp [putCells]
theorem ownsRow_sorted1 {α : Type} [Inhabited α] {enc : α → Value} {W : World} {n₀ g c n : Nat} {xs : List Value} (d' : Array α) (os : Array Obj) (h : W.ownsRow n₀ 188 1 (.slice (some ⟨g, 0, none⟩) d'.size c) d'.size xs) :
 (sortWorld enc W g 0 n d' os).ownsRow n₀ 188 1 (.slice (some ⟨g, 0, none⟩) d'.size c) d'.size (d'.toList.map enc) := by
 have hlt := (h.lt g rfl).2; rcases h.2 with ⟨h1, _⟩ | ⟨g', cap, cur, h1, hb, hgg, hn, hm, hsz, _⟩
 · cases h1
 · simp only [Value.slice.injEq, Option.some.injEq, Addr.mk.injEq] at h1; obtain ⟨⟨rfl, _⟩, _, rfl⟩ := h1; have hg2 : (sortWorld enc W g 0 n d' os).heap[g]? = some (.cells (putCells enc 0 d' cur) 188 (0, 0)) := by
    unfold sortWorld; rw [heap_grow_old _ _ (by simpa [putRow, mapBlock, ahead] using hlt)]; simp [putRow, mapBlock, ahead, Array.getElem?_modify, hgg, onCells]
   refine ⟨by simp, .inr ⟨g, c, _, rfl, hb, hg2, hn, hm, by rw [putCells_size]; exact hsz, ?_⟩⟩; apply List.ext_getElem?
   intro t; by_cases ht : t < d'.size
   · rw [List.getElem?_map, List.getElem?_take, if_pos (by omega)]; simp only [putCells, Array.getElem?_toList, Array.getElem?_mapIdx]; rw [Array.getElem?_eq_getElem ht, Array.getElem?_eq_getElem (by omega)]; simp [ht]
   · rw [List.getElem?_take, if_neg (by omega), List.getElem?_eq_none (by simp; omega)]
theorem sort158 (n₀ g c : Nat) (ts : List (Nat × Int)) (w : World) (hne : ts ≠ []) (hrow : w.ownsRow n₀ 188 1 (.slice (some ⟨g, 0, none⟩) ts.length c) ts.length (ts.map ptv))
 (ht : ∀ p ∈ ts, w.cell? ⟨p.1, 0, none⟩ = some (.int .i64 p.2) ∧ p.1 ≠ g) (hl : ts.length ≤ 64) :
 Calls Tryz.prog 158 #[.slice (some ⟨g, 0, none⟩) ts.length c, .func (.func 159) #[] #[]] w fun e w' => e = .returned (.tuple #[]) ∧
  ∃ ts' : List (Nat × Int), ts'.Perm ts ∧ ts'.Pairwise (fun a b => ¬ b.2 < a.2) ∧ w'.ownsRow n₀ 188 1 (.slice (some ⟨g, 0, none⟩) ts.length c) ts.length (ts'.map ptv) ∧ Touch (fun k => k = g) w w' := by
 obtain ⟨t0, tl, htl⟩ : ∃ t0 tl, ts = t0 :: tl := by cases ts with | nil => exact absurd rfl hne | cons a b => exact ⟨a, b, rfl⟩
 haveI : Inhabited (TP w g) := ⟨⟨t0, ht t0 (by rw [htl]; simp)⟩⟩
 obtain ⟨d, hd⟩ : ∃ d : Array (TP w g), d.toList.map (·.1) = ts := ⟨(ts.attach.map fun p => (⟨p.1, ht p.1 p.2⟩ : TP w g)).toArray, by simp; exact List.attach_map_subtype_val ts⟩
 have hds : d.size = ts.length := by rw [← hd]; simp
 have hH : Holds tpv w g 0 d := by
  intro j hj; have hjl : j < ts.length := by omega
  constructor
  · have := hrow.cells (g := g) rfl j (ptv (ts[j]'hjl)) (by rw [List.getElem?_map, List.getElem?_eq_getElem hjl]; rfl); rw [Nat.zero_add]; simp only [Addr.add_lit, Nat.zero_add] at this; rw [this, getElem!_pos d j hj]; have e : ts[j]'hjl = (d[j]'hj).1 := by simp [← hd]
    rw [e]; rfl
  · rcases hrow.2 with ⟨h1, _⟩ | ⟨g', cap, cur, h1, _, hgg, _⟩
    · cases h1
    · simp only [Value.slice.injEq, Option.some.injEq, Addr.mk.injEq] at h1; obtain ⟨⟨rfl, _⟩, _⟩ := h1; simp [World.frozen?, hgg]
 have hcon := sort158_raw g c w d hH (hrow.lt g rfl).2 (by omega); rw [hds] at hcon; refine hcon.mono ?_; rintro e w' ⟨rfl, d', n, os, ⟨p1, _, p3⟩, hs, rfl⟩; have hsz : d'.size = ts.length := by omega
 refine ⟨rfl, d'.toList.map (·.1), ?_, ?_, ?_, touch_sortWorld _ _ _ _ _ _⟩
 · rw [← hd]; refine List.Perm.map _ ?_; have e1 : (d'.extract 0 ts.length).toList = d'.toList := by rw [← hsz]; simp
   have e2 : (d.extract 0 ts.length).toList = d.toList := by rw [← hds]; simp
   rw [e1, e2] at p3; exact p3
 · rw [List.pairwise_map, List.pairwise_iff_getElem]; intro i j hi hj hij; have hj' : j < d'.size := by simpa using hj
   have h4 := hs i j (Nat.zero_le _) hij (by omega); rw [ltTP, getElem!_pos d' i (by omega), getElem!_pos d' j hj'] at h4; simpa using h4
 · have := ownsRow_sorted1 (enc := tpv) (n := n) d' os (by rw [hsz]; exact hrow); rw [hsz] at this; rw [List.map_map]; exact this
end Go.Proofs.YtoiajjobecinpaaGreat
namespace Go.Proofs.YtoiajjobecinpaaGreat
open Go.RowKit Go.Shelf Go.Lib Go.Proofs
set_option linter.unusedVariables false
set_option linter.unusedSimpArgs false
section
attribute [local go_sem] Oper.semAt_some
theorem info188 : (Tryz.prog.info? 188).map (fun i => (i.zero, i.size, i.bytes)) = some (some (.pointer none), 1, 8) := by kernel_rfl
def DomY (s : Sy) : Prop := ∀ x ∈ listP s.ps, (0 ≤ x ∧ x ≤ 9223372036854775807) ∧ ∃ t, s.tasks x = some t ∧ t.id = x
def BoxRow (n₀ B : Nat) (T : TypeId) (sz : Nat) (xs : List Value) (n : Nat) (W : World) : Prop :=
 ∃ v, W.cell? ⟨B, 0, none⟩ = some v ∧ W.frozen? ⟨B, 0, none⟩ = false ∧ W.ownsRow n₀ T sz v n xs
theorem BoxRow.kept {n₀ B : Nat} {T : TypeId} {sz n : Nat} {xs : List Value} {A C : World} {row : Option Nat} (h : BoxRow n₀ B T sz xs n A) (hg : A.grownBy C row) (hr : ∀ r, row = some r → ∃ o : Obj, A.heap[r]? = some o ∧ o.isCells = false) : BoxRow n₀ B T sz xs n C := by
 obtain ⟨v, h1, h2, h3⟩ := h; refine ⟨v, cell_kept h1 hg hr, (frozen_kept h1 hg hr).trans h2, ownsRow_same h3 (fun k hk => hg.block k (h3.lt k hk).2 (fun e => ?_))⟩; obtain ⟨o, ho, hc⟩ := hr k e.symm; rcases h3.2 with ⟨e1, _⟩ | ⟨g, cap, cur, e1, _, hgg, _⟩
 · rw [e1] at hk; simp [Value.ownBlock] at hk
 · rw [e1] at hk; have : g = k := by simpa [Value.ownBlock] using hk
   subst this; rw [hgg] at ho; cases ho; cases hc
theorem box_step {n₀ B g cap n : Nat} {T : TypeId} {xs news : List Value} {sz : Nat} {W w4 : World} {v : Value} {o : Obj} (hc : W.cell? ⟨B, 0, none⟩ = some v) (hf : W.frozen? ⟨B, 0, none⟩ = false) (hrow : W.ownsRow n₀ T sz v n xs) (hB : B < n₀) (hn : n₀ ≤ W.heap.size)
 (hg : (W.alloc o).grownBy w4 v.ownBlock) (hown : w4.ownsRow n₀ T sz (.slice (some ⟨g, 0, none⟩) (n + 1) cap) (n + 1) (xs ++ news)) (hat : v.ownBlock = some g ∨ g = W.heap.size + 1) :
 KeepsOthers W (w4.setCell ⟨B, 0, none⟩ (.slice (some ⟨g, 0, none⟩) (n + 1) cap)) ∧ KpL B W (w4.setCell ⟨B, 0, none⟩ (.slice (some ⟨g, 0, none⟩) (n + 1) cap)) ∧
  BoxRow n₀ B T sz (xs ++ news) (n + 1) (w4.setCell ⟨B, 0, none⟩ (.slice (some ⟨g, 0, none⟩) (n + 1) cap)) ∧ (∀ j, j < n₀ → j ≠ B → (w4.setCell ⟨B, 0, none⟩ (.slice (some ⟨g, 0, none⟩) (n + 1) cap)).heap[j]? = W.heap[j]?) ∧
  (w4.setCell ⟨B, 0, none⟩ (.slice (some ⟨g, 0, none⟩) (n + 1) cap)).os = W.os ∧ (w4.setCell ⟨B, 0, none⟩ (.slice (some ⟨g, 0, none⟩) (n + 1) cap)).tape = W.tape ∧ (w4.setCell ⟨B, 0, none⟩ (.slice (some ⟨g, 0, none⟩) (n + 1) cap)).output = W.output := by
 have hBl : B < W.heap.size := by omega
 have hvB : ∀ j, v.ownBlock = some j → n₀ ≤ j ∧ j < W.heap.size := fun j hj => hrow.lt j hj; have hcells : ∀ (j : Nat) (o' : Obj), v.ownBlock = some j → W.heap[j]? = some o' → o'.isCells = true := by
  intro j o' hj ho'; rcases hrow.2 with ⟨e1, _⟩ | ⟨g', cap', cur, e1, _, hgg, _⟩
  · rw [e1] at hj; simp [Value.ownBlock] at hj
  · rw [e1] at hj; have : g' = j := by simpa [Value.ownBlock] using hj
    subst this; rw [hgg] at ho'; cases ho'; rfl
 have hz := hg.size; rw [World.size_alloc] at hz; have hcell4 : w4.cell? ⟨B, 0, none⟩ = some v := (World.cell?_of_block (a := ⟨B, 0, none⟩) ((hg.block B (by simp; omega) (fun e => by have := (hvB B e.symm).1; omega)).trans (Below.heap_alloc _ _ _ hBl))).trans hc; have hfro4 : w4.frozen? ⟨B, 0, none⟩ = false := (World.frozen?_of_block (a := ⟨B, 0, none⟩) ((hg.block B (by simp; omega) (fun e => by have := (hvB B e.symm).1; omega)).trans (Below.heap_alloc _ _ _ hBl))).trans hf; have hnew : (w4.setCell ⟨B, 0, none⟩ (.slice (some ⟨g, 0, none⟩) (n + 1) cap)).cell? ⟨B, 0, none⟩ = some (.slice (some ⟨g, 0, none⟩) (n + 1) cap) := World.cell?_setCell_same _ _ _ hcell4; have hold : ∀ j, j < W.heap.size → j ≠ B → v.ownBlock ≠ some j → (w4.setCell ⟨B, 0, none⟩ (.slice (some ⟨g, 0, none⟩) (n + 1) cap)).heap[j]? = W.heap[j]? := fun j hj h1 h2 => by
  rw [Below.heap_setCell _ _ _ _ (by simpa using h1), hg.block j (by simp; omega) (fun e => h2 e.symm), Below.heap_alloc _ _ _ hj]
 refine ⟨⟨by simp; omega, fun k o' hk ho' => ?_⟩, ⟨by simp; omega, fun k o' hk ho' h1 h2 => ?_, fun v' k hv' hk => ?_⟩, ⟨_, hnew, by rw [World.frozen?_setCell]; exact hfro4, ?_⟩, fun j hj h1 => hold j (by omega) h1 (fun e => by have := (hvB j e).1; omega), ?_, ?_, ?_⟩
 · have hkl := lt_of_some hk; by_cases e : k = B
   · subst e; exfalso
     simp only [World.cell?, hk] at hc; cases o' <;> simp [Obj.isCells] at ho' hc
   · exact (hold k hkl e (fun e2 => by rw [hcells k o' e2 hk] at ho'; cases ho')).trans hk
 · exact (hold k (lt_of_some hk) h1 (h2 v hc)).trans hk
 · rw [hnew] at hv'; cases hv'; have : g = k := by simpa [Value.ownBlock] using hk
   subst this; rcases hat with e | e
   · exact .inl ⟨v, hc, e⟩
   · exact .inr (by omega)
 · exact ownsRow_same hown (fun j hj => Below.heap_setCell _ _ _ _ (by simp; have := (hown.lt j hj).1; omega))
 · show w4.os = W.os; exact hg.os
 · show w4.tape = W.tape; exact hg.tape
 · show w4.output = W.output; exact hg.output
def SrtS (sb mb B1 B : Nat) (x : Int) (p v : Value) (W : World) : Prop :=
 W.cell? ⟨B1, 0, none⟩ = some (.pointer (some ⟨sb, 0, none⟩)) ∧ W.cell? ⟨B, 0, none⟩ = some v ∧ W.cell? ⟨sb, 67, none⟩ = some (.map (some mb)) ∧ (Instr.lookup 117 (.map (some mb)) (.int .i64 x) false).run Tryz.prog W = .ok p W
theorem look_some {W : World} {sb gb nb pb mb n : Nat} {cv : Value} {D : DataW Unit} {cbs : List Nat} {tb : Int → Nat} {own : Nat → Option Own} {s : Sy} (h : SysAt W sb gb nb pb mb n cv D cbs tb own s)
 (hd : DomY s) {x : Int} (hx : x ∈ listP s.ps) : (Instr.lookup 117 (.map (some mb)) (.int .i64 x) false).run Tryz.prog W = .ok (.pointer (some ⟨tb x, 0, none⟩)) W := by
 obtain ⟨⟨h1, h2⟩, t, ht, _⟩ := hd x hx; have := h.look x (by omega) h2; rw [ht] at this; exact this
set_option maxRecDepth 100000 in
theorem sorted_any (sb gb nb pb mb n : Nat) (cv : Value) (D : DataW Unit) (cbs : List Nat) (tb : Int → Nat) (own : Nat → Option Own) (s : Sy) (w : World)
 (h : SysAt w sb gb nb pb mb n cv D cbs tb own s) (hz : Sized s.ps) (hd : DomY s) (hne : listP s.ps ≠ []) :
 Calls Tryz.prog 117 #[.pointer (some ⟨sb, 0, none⟩)] w fun e W' => ∃ (v : Value) (ids : List Int), e = .returned v ∧ ids.Perm (listP s.ps) ∧ ids.Pairwise (fun a b => ¬ b < a) ∧ W'.ownsRow w.heap.size 188 1 v ids.length (ids.map fun x => .pointer (some ⟨tb x, 0, none⟩)) ∧ Below w.heap.size w W' := by
 have h1 : 1 ≤ 5 := by omega
 have hsl := h.lt sb (by rw [h.osb]; simp); have hnl := h.slots.lt; have c66 := h.c66; have hlen64 : (listP s.ps).length ≤ 64 := Nat.le_trans (listFrom_len _ _) hz.1; have HS := lH h; have HD := lH hd; have HNE := lH hne; have HZ := lH hz; clear h hd hne hz; refine callsIn_wide.1 (callsIn_of_wp_marks (n := 5) Tryz.func117 rfl trivial (wpIn_wide.2 ?_) rfl); simp only [Tryz.ntmps117, List.size_toArray, List.length_cons, List.length_nil, Nat.reduceAdd, Nat.reduceSub, Array.replicate_succ, Array.replicate_zero, List.push_toArray, List.append_toArray, List.nil_append, List.cons_append]; go_wp2_with (go_at_call 141; refine (sall_any nb _).mono ?_; rintro e w' ⟨rfl, rfl⟩)
 have q0 := cell_new_l w (.pointer (some ⟨sb, 0, none⟩)) 81; have q1 := cell_new_l (w.alloc (.cells #[.pointer (some ⟨sb, 0, none⟩)] 81)) (.slice none 0 0) 202; have q2 := cell_new_l ((w.alloc (.cells #[.pointer (some ⟨sb, 0, none⟩)] 81)).alloc (.cells #[.slice none 0 0] 202)) (.pointer (some ⟨nb, 0, none⟩)) 115; have f1 := frozen_alloc_l (.cells #[.pointer (some ⟨nb, 0, none⟩)] 115) q1.1 q1.2; replace q0 := c2a (.cells #[.pointer (some ⟨nb, 0, none⟩)] 115) (c2a (.cells #[.slice none 0 0] 202) q0.1); replace q1 := c2a (.cells #[.pointer (some ⟨nb, 0, none⟩)] 115) q1.1; replace q2 := q2.1; simp only [World.size_alloc] at q0 q1 q2 f1; have hB0 : Below w.heap.size w (((w.alloc (.cells #[.pointer (some ⟨sb, 0, none⟩)] 81)).alloc (.cells #[.slice none 0 0] 202)).alloc (.cells #[.pointer (some ⟨nb, 0, none⟩)] 115)) := (((Below.refl _ w).alloc (Nat.le_refl _) _).alloc (by simp) _).alloc (by simp; omega) _; have hz : (((w.alloc (.cells #[.pointer (some ⟨sb, 0, none⟩)] 81)).alloc (.cells #[.slice none 0 0] 202)).alloc (.cells #[.pointer (some ⟨nb, 0, none⟩)] 115)).heap.size = w.heap.size + 1 + 1 + 1 := by simp
 generalize ((w.alloc (.cells #[.pointer (some ⟨sb, 0, none⟩)] 81)).alloc (.cells #[.slice none 0 0] 202)).alloc (.cells #[.pointer (some ⟨nb, 0, none⟩)] 115) = W1 at q0 q1 q2 f1 hB0 hz ⊢; refine (wpIn_wide (n := 5)).1 (wpIn_rangeFunc_ownF rfl h1 (gf := 171) (lb := #[.pointer (some ⟨w.heap.size + 1 + 1, 0, none⟩)]) rfl trivial (enters_of Tryz.func171 (by kernel_rfl) rfl)
  (sall_stops (fun x => x ∈ listP s.ps) (5 - 1) (by omega) (w.heap.size + 1 + 1) nb pb (w.heap.size + 1) s.ps (listP s.ps).attach (List.attach_map_subtype_val _) W1 q2 (HS.out.below hB0).slots HZ.out q1) KpL.t (KpL.b (by omega)) (Below.refl _ _) (fun _ => rfl)
  (fun pre W => (W1.heap.size ≤ W.heap.size ∧ W.cell? ⟨w.heap.size, 0, none⟩ = some (.pointer (some ⟨sb, 0, none⟩)) ∧ BoxRow W1.heap.size (w.heap.size + 1) 188 1 (pre.map fun x => .pointer (some ⟨tb x.1, 0, none⟩)) pre.length W) ∧ Below w.heap.size w W)
  (fun _ _ _ => False)
  (OwnFrom.and (Own.from (fun s A B row hs hg hr => ⟨Nat.le_trans hs.1 hg.size, cell_kept hs.2.1 hg hr, hs.2.2.kept hg hr⟩) _) (ownFrom_below (Nat.le_refl _) (by omega)))
  (fun _ _ _ _ _ hs _ _ => hs)
  ⟨⟨Nat.le_refl _, q0, _, q1, f1, World.ownsRow_nil ..⟩, hB0⟩
  (fun x => { tmps := #[Value.pointer (some ⟨sb, 0, none⟩), .pointer (some ⟨w.heap.size, 0, none⟩), .slice none 0 0, .pointer (some ⟨w.heap.size + 1, 0, none⟩), .int .i64 x.1, .pointer (some ⟨sb, 0, none⟩), .pointer (some ⟨sb, 0, none⟩), .pointer (some ⟨sb, 66, none⟩), .pointer (some ⟨nb, 0, none⟩), .func (.func 171) #[] #[.pointer (some ⟨w.heap.size + 1 + 1, 0, none⟩)], .int .i64 x.1, undef, undef, undef, undef, undef, undef, undef, undef, undef, undef, undef, undef], defers := [] }) ?assign ?body ?done ?stop)
 case assign =>
  intro l x W K hK; gi_wp2
  simpa using hK
 case body =>
  rintro l pre ⟨x, hx⟩ W ⟨⟨hwz, hk0, v, hv, hvf, hrow⟩, hB⟩ hpl; have e1 : 1 ≤ 5 - 1 - 1 := by omega
  have hmx : Tryz.prog.follows .mixedOrders = true := by kernel_rfl
  obtain ⟨i0, hi, hz0, hz1, hz2⟩ := info_parts info188; have hlook : ∀ W2 : World, Below w.heap.size w W2 → (Instr.lookup 117 (.map (some mb)) (.int .i64 x) false).run Tryz.prog W2 = .ok (.pointer (some ⟨tb x, 0, none⟩)) W2 := fun W2 hb => look_some (HS.out.below hb) HD.out hx; have h67 : ∀ W2 : World, Below w.heap.size w W2 → W2.cell? ⟨sb, 67, none⟩ = some (.map (some mb)) := fun W2 hb => (HS.out.below hb).c67; have hpl2 : pre.length < 64 := by rw [List.length_attach] at hpl; omega
  have hzB := hB.size; have hS0 : SrtS sb mb w.heap.size (w.heap.size + 1) x (.pointer (some ⟨tb x, 0, none⟩)) v W.drew := ⟨hk0, hv, h67 _ hB.drew, hlook _ hB.drew⟩
  gi_wp2
  refine wpIn_W_round (S := SrtS sb mb w.heap.size (w.heap.size + 1) x (.pointer (some ⟨tb x, 0, none⟩)) v) (T := [9]) hmx (by kernel_rfl) (fun _ _ h => h) ?_; refine wpAnyW_take (i := 0) (v := ?_) rfl (by kernel_rfl) (by kernel_rfl) (by kernel_rfl) (by kernel_rfl) (fun _ _ _ h => h) (Or.inl ⟨by rfl, ?_⟩) (by assumption) ?_; rotate_left
  · intro w2 hSw; obtain ⟨s1, s2, s3, s4⟩ := hSw; go_simp; (first | done | with_reducible rfl)
  simp only [Act.put, List.setIfInBounds_toArray, List.set_cons_zero, List.set_cons_succ]; refine wpAnyW_take (i := 1) (v := ?_) rfl (by kernel_rfl) (by kernel_rfl) (by kernel_rfl) (by kernel_rfl) (fun _ _ _ h => h) (Or.inl ⟨by rfl, ?_⟩) (by assumption) ?_; rotate_left
  · intro w2 hSw; obtain ⟨s1, s2, s3, s4⟩ := hSw; go_simp; (first | done | with_reducible rfl)
  simp only [Act.put, List.setIfInBounds_toArray, List.set_cons_zero, List.set_cons_succ]; refine wpAnyW_take (i := 2) (v := ?_) rfl (by kernel_rfl) (by kernel_rfl) (by kernel_rfl) (by kernel_rfl) (fun _ _ _ h => h) (Or.inl ⟨by rfl, ?_⟩) (by assumption) ?_; rotate_left
  · intro w2 hSw; obtain ⟨s1, s2, s3, s4⟩ := hSw; go_simp; (first | done | with_reducible rfl)
  simp only [Act.put, List.setIfInBounds_toArray, List.set_cons_zero, List.set_cons_succ]; refine wpAnyW_take (i := 3) (v := ?_) rfl (by kernel_rfl) (by kernel_rfl) (by kernel_rfl) (by kernel_rfl) (fun _ _ _ h => h) (Or.inl ⟨by rfl, ?_⟩) (by assumption) ?_; rotate_left
  · intro w2 hSw; obtain ⟨s1, s2, s3, s4⟩ := hSw; go_simp; (first | done | with_reducible rfl)
  simp only [Act.put, List.setIfInBounds_toArray, List.set_cons_zero, List.set_cons_succ]; refine wpAnyW_take (i := 4) (v := ?_) rfl (by kernel_rfl) (by kernel_rfl) (by kernel_rfl) (by kernel_rfl) (fun _ _ _ h => h) (Or.inl ⟨by rfl, ?_⟩) (by assumption) ?_; rotate_left
  · intro w2 hSw; obtain ⟨s1, s2, s3, s4⟩ := hSw; go_simp; (first | done | with_reducible rfl)
  simp only [Act.put, List.setIfInBounds_toArray, List.set_cons_zero, List.set_cons_succ]; refine wpAnyW_take (i := 5) (v := ?_) rfl (by kernel_rfl) (by kernel_rfl) (by kernel_rfl) (by kernel_rfl) (fun _ _ _ h => h) (Or.inl ⟨by rfl, ?_⟩) (by assumption) ?_; rotate_left
  · intro w2 hSw; obtain ⟨s1, s2, s3, s4⟩ := hSw; go_simp; (first | done | with_reducible rfl)
  simp only [Act.put, List.setIfInBounds_toArray, List.set_cons_zero, List.set_cons_succ]; refine wpAnyW_take (i := 6) (v := ?_) rfl (by kernel_rfl) (by kernel_rfl) (by kernel_rfl) (by kernel_rfl) (fun _ _ _ h => h) (Or.inl ⟨by rfl, ?_⟩) (by assumption) ?_; rotate_left
  · intro w2 hSw; obtain ⟨s1, s2, s3, s4⟩ := hSw; go_simp; (first | done | with_reducible rfl)
  simp only [Act.put, List.setIfInBounds_toArray, List.set_cons_zero, List.set_cons_succ]; refine wpAnyW_one (i := 7) (by kernel_rfl) rfl (by kernel_rfl) ?_; intro K' hK; go_simp
  have hb7 : Below w.heap.size w ((W.alloc (.cells #[.pointer (some ⟨tb x, 0, none⟩)] 188)).drew) := (hB.alloc hzB _).drew; have hS7 : SrtS sb mb w.heap.size (w.heap.size + 1) x (.pointer (some ⟨tb x, 0, none⟩)) v ((W.alloc (.cells #[.pointer (some ⟨tb x, 0, none⟩)] 188)).drew) := ⟨c2a _ hk0, c2a _ hv, h67 _ hb7, hlook _ hb7⟩
  refine hK _ _ hS7 ?_; clear hK; refine wpAnyW_one (i := 8) (by kernel_rfl) rfl (by kernel_rfl) ?_; intro K2 hK; refine step_append_lies _ rfl _ _ _ rfl W1.heap.size 188 i0 _ 1 8 Tryz.underlying202 hi hz0 hz1 hz2 rfl (by omega) v pre.length (pre.map fun x : {x : Int // x ∈ listP s.ps} => Value.pointer (some ⟨tb x.1, 0, none⟩)) rfl (hrow.alloc _) ⟨W.heap.size, 0, none⟩ 1 1 [.pointer (some ⟨tb x, 0, none⟩)] rfl rfl (World.news_of_block (cs := #[.pointer (some ⟨tb x, 0, none⟩)]) (t := 188) (fr := (0, 0)) (heap_alloc_new W _)) (by simp [Value.oneCell']) (by omega) (by unfold maxLen; omega) (by omega) (by simp; omega) (W.heap.size + 1) (by simp) ?_; intro gg cp w1 hown1 hgrow hat hlt1; have hr0 := hrow.lt; have hgz := hgrow.size; have hb8 : Below w.heap.size w w1 := hb7.grown hgrow (by show w.heap.size ≤ (W.alloc _).heap.size; simp; omega) (fun j hj => by have := (hr0 j hj).1; omega); have hblk : ∀ j, j < W1.heap.size → w1.heap[j]? = W.heap[j]? := fun j hj => (hgrow.block j (by show j < (W.alloc _).heap.size; simp; omega) (fun e => by have := (hr0 j e.symm).1; omega)).trans (Below.heap_alloc W _ j (by omega))
  have hS8 : SrtS sb mb w.heap.size (w.heap.size + 1) x (.pointer (some ⟨tb x, 0, none⟩)) v w1 := ⟨(World.cell?_of_block (a := ⟨w.heap.size, 0, none⟩) (hblk w.heap.size (by omega))).trans hk0, (World.cell?_of_block (a := ⟨w.heap.size + 1, 0, none⟩) (hblk (w.heap.size + 1) (by omega))).trans hv, h67 _ hb8, hlook _ hb8⟩
  have hf8 : w1.frozen? ⟨w.heap.size + 1, 0, none⟩ = false := (World.frozen?_of_block (a := ⟨w.heap.size + 1, 0, none⟩) (hblk (w.heap.size + 1) (by omega))).trans hvf; have hv8 := hS8.2.1; refine hK _ _ hS8 ?_; clear hK; simp only [Act.put, List.setIfInBounds_toArray, List.set_cons_zero, List.set_cons_succ]; refine wpAnyW_last (i := 9) (by kernel_rfl) rfl (by kernel_rfl) ?_; intro K3 hK; go_simp
  refine hK _ _ ?_; clear hK; refine wpAnyW_done (by kernel_rfl) ?_ _; have hg8 : (W.alloc (.cells #[.pointer (some ⟨tb x, 0, none⟩)] 188)).grownBy w1 v.ownBlock := ⟨hgrow.os, hgrow.tape, hgrow.output, hgrow.size, hgrow.block⟩
  obtain ⟨r1, r2, r3, r4, r5, r6, r7⟩ := box_step hv hvf hrow (by omega) (by omega) hg8 hown1 hat; have hw8 := hgz; refine ⟨r1, r2, ⟨?_, (World.cell?_of_block (a := ⟨w.heap.size, 0, none⟩) (r4 w.heap.size (by omega) (by omega))).trans hk0, ?_⟩, hb8.setCell (p := ⟨w.heap.size + 1, 0, none⟩) (by simp) _⟩
  · have := r1.size; omega
  · rw [List.map_append, List.length_append]; exact r3
 case done =>
  rintro D' ys W hD rfl ⟨⟨hwz, hk0, v, hv, hvf, hrow⟩, hB⟩ hK; obtain ⟨ts, hts⟩ : ∃ ts : List (Nat × Int), (listP s.ps).map (fun x => (tb x, x)) = ts := ⟨_, rfl⟩
  have hrow2 : W.ownsRow W1.heap.size 188 1 v ts.length (ts.map ptv) := by
   have e1 : ((listP s.ps).attach.map fun x => Value.pointer (some ⟨tb x.1, 0, none⟩)) = ts.map ptv := by
    rw [← hts, List.map_map]; have := congrArg (List.map fun x => Value.pointer (some ⟨tb x, 0, none⟩)) (List.attach_map_subtype_val (listP s.ps)); rw [List.map_map] at this; exact this
   rw [e1] at hrow; rw [List.length_attach] at hrow; rw [show ts.length = (listP s.ps).length from by rw [← hts, List.length_map]]; exact hrow
  have htl : ts ≠ [] := by rw [← hts]; intro e; exact HNE.out (List.map_eq_nil_iff.1 e)
  have htn : 0 < ts.length := by cases ts with | nil => exact absurd rfl htl | cons a b => simp
  have hl64 : ts.length ≤ 64 := by rw [← hts, List.length_map]; exact hlen64
  obtain ⟨g, c, hvg⟩ : ∃ g c, v = .slice (some ⟨g, 0, none⟩) ts.length c := by
   rcases hrow2.2 with ⟨_, h0⟩ | ⟨g, cap, cur, e, _⟩
   · omega
   · exact ⟨g, cap, e⟩
  subst hvg; have hgl := hrow2.lt g rfl; have hall : ∀ p ∈ ts, W.cell? ⟨p.1, 0, none⟩ = some (.int .i64 p.2) ∧ p.1 ≠ g := by
   intro p hp; rw [← hts, List.mem_map] at hp; obtain ⟨x, hx, rfl⟩ := hp; obtain ⟨_, t, ht, hid⟩ := HD.out x hx; obtain ⟨h5, h6⟩ := (HS.out.below hB).task x t ht; refine ⟨by rw [← hid]; simpa [hid] using h5.id, fun e => ?_⟩; have := HS.out.lt (tb x) (by rw [h6]; simp); simp only at e; omega
  have hsort := sort158 W1.heap.size g c ts W htl hrow2 hall hl64; have hDg : D' ≠ g := by
   intro e; subst e; rcases hrow2.2 with ⟨h0, _⟩ | ⟨g', cap, cur, e, _, hgg, _⟩
   · cases h0
   · simp only [Value.slice.injEq, Option.some.injEq, Addr.mk.injEq] at e; obtain ⟨⟨rfl, _⟩, _⟩ := e; rw [hgg] at hK; cases hK
  have HTS := lH hts; have hv2 := hv; clear hts hall htl hrow hrow2; go_wp2_with fail
  refine hsort.mono ?_; rintro e w2 ⟨rfl, ts', hp, hpw, hrow3, ht3⟩; have hv3 : w2.cell? ⟨w.heap.size + 1, 0, none⟩ = some (.slice (some ⟨g, 0, none⟩) ts.length c) := (World.cell?_of_block (a := ⟨w.heap.size + 1, 0, none⟩) (ht3.block (w.heap.size + 1) (by omega) (by omega))).trans hv2; have hK3 : w2.heap[D']? = some (.deferred (some [])) := (ht3.block D' (lt_of_some hK) hDg).trans hK; have hB3 : Below w.heap.size w w2 := hB.trans (ht3.below hB.size (fun k hk => by rw [hk]; omega))
  have HP := lH hp; have HPW := lH hpw; have HROW := lH hrow3; clear hsort hp hpw hrow3 ht3; go_wp2_with fail
  refine ⟨by simp, .inl ⟨_, _, rfl, run_takeDeferred hK3, ?_⟩⟩; have hts' : ∀ p ∈ ts', p.1 = tb p.2 := fun p hp => by
   have := HP.out.subset hp; rw [← HTS.out, List.mem_map] at this; obtain ⟨x, _, rfl⟩ := this; rfl
  have hmap : (ts'.map (·.2)).map (fun x => Value.pointer (some ⟨tb x, 0, none⟩)) = ts'.map ptv := by
   rw [List.map_map]; exact List.map_congr_left (fun p hp => by simp only [Function.comp_apply, ptv, hts' p hp])
  refine ⟨_, results_tmp rfl _ _ _, ?_⟩; refine ⟨_, rfl, ts'.map (·.2), ?_, ?_, ?_, hB3.trans (belowK_b (w := w) (Nat.le_refl _) _ D' _ _ (by omega) hK3 rfl rfl)⟩
  · have := HP.out.map (·.2); rw [← HTS.out, List.map_map, show ((fun x : Nat × Int => x.2) ∘ fun x : Int => (tb x, x)) = id from rfl, List.map_id] at this; exact this
  · rw [List.pairwise_map]; exact HPW.out
  · rw [hmap, List.length_map, HP.out.length_eq]; exact ownsRow_putObj (ownsRow_base HROW.out (by omega)) _ hK3 rfl
 case stop =>
  rintro D' c pre W _ _ h _; exact h.elim
end
section
attribute [local go_sem] Oper.semAt_some
theorem len0 (w : World) : Calls Tryz.prog 181 #[.int .u64 0] w fun e w' => e = .returned (.int .i64 0) ∧ w = w' := by
 go_enter Tryz.func181, Tryz.ntmps181; go_wp2
 go_ret
 exact ⟨by kernel_rfl, rfl⟩
theorem ins_nil (p : Option Addr) (c : Nat) (w : World) : Calls Tryz.prog 191 #[.slice p 0 c, .int .i64 0, .int .i64 0, .func (.func 159) #[] #[]] w fun e w' => e = .returned (.tuple #[]) ∧ w = w' := by
 go_enter Tryz.func191, Tryz.ntmps191; go_wp2_with fail
 refine wp_loop_rounds 1 ?_; rw [rounds_succ]; go_wp2_with fail
 go_end0
 exact ⟨rfl, rfl⟩
set_option maxRecDepth 100000 in
theorem pdq_nil (p : Option Addr) (c : Nat) (w : World) : Calls Tryz.prog 180 #[.slice p 0 c, .int .i64 0, .int .i64 0, .int .i64 0, .func (.func 159) #[] #[]] w fun e w' => e = .returned (.tuple #[]) ∧ w = w' := by
 go_enter Tryz.func180, Tryz.ntmps180; go_wp2_with fail
 refine wp_loop_rounds 1 ?_; rw [rounds_succ]; go_wp2_with (go_at_call 191; refine (ins_nil p c _).mono ?_; rintro e w' ⟨rfl, rfl⟩)
 refine bodyPost_ret (results_none rfl _ _ _) rfl ?_; exact ⟨rfl, rfl⟩
theorem sort_nil (p : Option Addr) (c : Nat) (w : World) : Calls Tryz.prog 158 #[.slice p 0 c, .func (.func 159) #[] #[]] w fun e w' => e = .returned (.tuple #[]) ∧ w = w' := by
 go_enter Tryz.func158, Tryz.ntmps158; go_wp2_with (first | (go_at_call 181; refine (len0 _).mono ?_; rintro e w' ⟨rfl, rfl⟩) | (go_at_call 180; refine (pdq_nil p c _).mono ?_; rintro e w' ⟨rfl, rfl⟩))
 go_end0
 exact ⟨rfl, rfl⟩
set_option maxRecDepth 100000 in
theorem sorted_nil (sb gb nb pb mb n : Nat) (cv : Value) (D : DataW Unit) (cbs : List Nat) (tb : Int → Nat) (own : Nat → Option Own) (s : Sy) (w : World)
 (h : SysAt w sb gb nb pb mb n cv D cbs tb own s) (hz : Sized s.ps) (hd : DomY s) (hne : listP s.ps = []) :
 Calls Tryz.prog 117 #[.pointer (some ⟨sb, 0, none⟩)] w fun e W' => ∃ (v : Value) (ids : List Int), e = .returned v ∧ ids.Perm (listP s.ps) ∧ ids.Pairwise (fun a b => ¬ b < a) ∧ W'.ownsRow w.heap.size 188 1 v ids.length (ids.map fun x => .pointer (some ⟨tb x, 0, none⟩)) ∧ Below w.heap.size w W' := by
 have h1 : 1 ≤ 5 := by omega
 have hsl := h.lt sb (by rw [h.osb]; simp); have hnl := h.slots.lt; have c66 := h.c66; have hlen64 : (listP s.ps).length ≤ 64 := Nat.le_trans (listFrom_len _ _) hz.1; have HS := lH h; have HD := lH hd; have HNE := lH hne; have HZ := lH hz; clear h hd hne hz; refine callsIn_wide.1 (callsIn_of_wp_marks (n := 5) Tryz.func117 rfl trivial (wpIn_wide.2 ?_) rfl); simp only [Tryz.ntmps117, List.size_toArray, List.length_cons, List.length_nil, Nat.reduceAdd, Nat.reduceSub, Array.replicate_succ, Array.replicate_zero, List.push_toArray, List.append_toArray, List.nil_append, List.cons_append]; go_wp2_with (go_at_call 141; refine (sall_any nb _).mono ?_; rintro e w' ⟨rfl, rfl⟩)
 have q0 := cell_new_l w (.pointer (some ⟨sb, 0, none⟩)) 81; have q1 := cell_new_l (w.alloc (.cells #[.pointer (some ⟨sb, 0, none⟩)] 81)) (.slice none 0 0) 202; have q2 := cell_new_l ((w.alloc (.cells #[.pointer (some ⟨sb, 0, none⟩)] 81)).alloc (.cells #[.slice none 0 0] 202)) (.pointer (some ⟨nb, 0, none⟩)) 115; have f1 := frozen_alloc_l (.cells #[.pointer (some ⟨nb, 0, none⟩)] 115) q1.1 q1.2; replace q0 := c2a (.cells #[.pointer (some ⟨nb, 0, none⟩)] 115) (c2a (.cells #[.slice none 0 0] 202) q0.1); replace q1 := c2a (.cells #[.pointer (some ⟨nb, 0, none⟩)] 115) q1.1; replace q2 := q2.1; simp only [World.size_alloc] at q0 q1 q2 f1; have hB0 : Below w.heap.size w (((w.alloc (.cells #[.pointer (some ⟨sb, 0, none⟩)] 81)).alloc (.cells #[.slice none 0 0] 202)).alloc (.cells #[.pointer (some ⟨nb, 0, none⟩)] 115)) := (((Below.refl _ w).alloc (Nat.le_refl _) _).alloc (by simp) _).alloc (by simp; omega) _; have hz : (((w.alloc (.cells #[.pointer (some ⟨sb, 0, none⟩)] 81)).alloc (.cells #[.slice none 0 0] 202)).alloc (.cells #[.pointer (some ⟨nb, 0, none⟩)] 115)).heap.size = w.heap.size + 1 + 1 + 1 := by simp
 generalize ((w.alloc (.cells #[.pointer (some ⟨sb, 0, none⟩)] 81)).alloc (.cells #[.slice none 0 0] 202)).alloc (.cells #[.pointer (some ⟨nb, 0, none⟩)] 115) = W1 at q0 q1 q2 f1 hB0 hz ⊢; refine (wpIn_wide (n := 5)).1 (wpIn_rangeFunc_ownF rfl h1 (gf := 171) (lb := #[.pointer (some ⟨w.heap.size + 1 + 1, 0, none⟩)]) rfl trivial (enters_of Tryz.func171 (by kernel_rfl) rfl)
  (sall_stops (fun x => x ∈ listP s.ps) (5 - 1) (by omega) (w.heap.size + 1 + 1) nb pb (w.heap.size + 1) s.ps (listP s.ps).attach (List.attach_map_subtype_val _) W1 q2 (HS.out.below hB0).slots HZ.out q1) KpL.t (KpL.b (by omega)) (Below.refl _ _) (fun _ => rfl)
  (fun pre W => (W1.heap.size ≤ W.heap.size ∧ W.cell? ⟨w.heap.size, 0, none⟩ = some (.pointer (some ⟨sb, 0, none⟩)) ∧ BoxRow W1.heap.size (w.heap.size + 1) 188 1 (pre.map fun x => .pointer (some ⟨tb x.1, 0, none⟩)) pre.length W) ∧ Below w.heap.size w W)
  (fun _ _ _ => False)
  (OwnFrom.and (Own.from (fun s A B row hs hg hr => ⟨Nat.le_trans hs.1 hg.size, cell_kept hs.2.1 hg hr, hs.2.2.kept hg hr⟩) _) (ownFrom_below (Nat.le_refl _) (by omega)))
  (fun _ _ _ _ _ hs _ _ => hs)
  ⟨⟨Nat.le_refl _, q0, _, q1, f1, World.ownsRow_nil ..⟩, hB0⟩
  (fun x => { tmps := #[Value.pointer (some ⟨sb, 0, none⟩), .pointer (some ⟨w.heap.size, 0, none⟩), .slice none 0 0, .pointer (some ⟨w.heap.size + 1, 0, none⟩), .int .i64 x.1, .pointer (some ⟨sb, 0, none⟩), .pointer (some ⟨sb, 0, none⟩), .pointer (some ⟨sb, 66, none⟩), .pointer (some ⟨nb, 0, none⟩), .func (.func 171) #[] #[.pointer (some ⟨w.heap.size + 1 + 1, 0, none⟩)], .int .i64 x.1, undef, undef, undef, undef, undef, undef, undef, undef, undef, undef, undef, undef], defers := [] }) ?assign ?body ?done ?stop)
 case assign =>
  intro l x W K hK; gi_wp2
  simpa using hK
 case body =>
  rintro l pre ⟨x, hx⟩ W ⟨⟨hwz, hk0, v, hv, hvf, hrow⟩, hB⟩ hpl; rw [HNE.out] at hx; cases hx
 case done =>
  rintro D' ys W hD rfl ⟨⟨hwz, hk0, v, hv, hvf, hrow⟩, hB⟩ hK; have hrow2 : W.ownsRow W1.heap.size 188 1 v 0 [] := by
   have e1 : (listP s.ps).attach = [] := List.eq_nil_of_length_eq_zero (by rw [List.length_attach, HNE.out]; rfl); rw [e1] at hrow; exact hrow
  obtain ⟨p, c, hvg⟩ : ∃ p c, v = .slice p 0 c := by
   rcases hrow2.2 with ⟨e, h0⟩ | ⟨g, cap, cur, e, _⟩
   · exact ⟨none, 0, by rw [e]⟩
   · exact ⟨_, cap, e⟩
  subst hvg; have hv2 := hv; have HROW := lH hrow2; clear hrow hrow2; go_wp2_with fail
  refine (sort_nil p c _).mono ?_; rintro e w2 ⟨rfl, rfl⟩; go_wp2_with fail
  refine ⟨by simp, .inl ⟨_, _, rfl, run_takeDeferred hK, ?_⟩⟩; refine ⟨_, results_tmp rfl _ _ _, ?_⟩; have hbf := belowK_b (w := w) (Nat.le_refl _) W D' _ (.deferred none) (by omega) hK rfl rfl; refine ⟨_, rfl, [], by rw [HNE.out], List.Pairwise.nil, ?_, hB.trans hbf⟩; exact ownsRow_putObj (ownsRow_base HROW.out (by omega)) _ hK rfl
 case stop =>
  rintro D' c pre W _ _ h _; exact h.elim
theorem sorted_all (sb gb nb pb mb n : Nat) (cv : Value) (D : DataW Unit) (cbs : List Nat) (tb : Int → Nat) (own : Nat → Option Own) (s : Sy) (w : World)
 (h : SysAt w sb gb nb pb mb n cv D cbs tb own s) (hz : Sized s.ps) (hd : DomY s) :
 Calls Tryz.prog 117 #[.pointer (some ⟨sb, 0, none⟩)] w fun e W' => ∃ (v : Value) (ids : List Int), e = .returned v ∧ ids.Perm (listP s.ps) ∧ ids.Pairwise (fun a b => ¬ b < a) ∧ W'.ownsRow w.heap.size 188 1 v ids.length (ids.map fun x => .pointer (some ⟨tb x, 0, none⟩)) ∧ Below w.heap.size w W' := by
 by_cases hne : listP s.ps = []
 · exact sorted_nil sb gb nb pb mb n cv D cbs tb own s w h hz hd hne
 · exact sorted_any sb gb nb pb mb n cv D cbs tb own s w h hz hd hne
end
end Go.Proofs.YtoiajjobecinpaaGreat
