/- slices.SortFunc at points. Sorting a line's row by ID. Put. A point of a line set anew; Charge. NewLine; of and New of t -/
import Derived.Shelf.SlSortCmp.WholeK
import Derived.Ground.SlsfProg
import Derived.Deep.AppendLies
import Derived.Deep.RegionLaw
import Derived.Test.YtoiajjobecinpaaGreatTA01
set_option maxHeartbeats 4000000
namespace Go.Proofs.YtoiajjobecinpaaGreat
open Go.RowKit Go.Shelf Go.Lib Go.Proofs Go.Sort
set_option linter.unusedVariables false
set_option linter.unusedSimpArgs false
def Tryz.l278_ren : Go.Shelf.Ren := ⟨fun | 6 => 278 | 15 => 181 | 14 => 286 | 28 => 199 | 29 => 200 | 20 => 288 | 21 => 289 | 22 => 290 | 23 => 291 | 24 => 292 | 25 => 293 | 26 => 294 | 27 => 295 | 46 => 296 | 47 => 210 | 48 => 211 | 49 => 297 | 50 => 298 | 57 => 299 | n => n, fun | 22 => 265 | 24 => 338 | 25 => 363 | 3 => 3 | 39 => 154 | 0 => 0 | 53 => 296 | 55 => 298 | 4 => 4 | 46 => 290 | 45 => 289 | 50 => 101 | 5 => 5 | 9 => 9 | 66 => 307 | 70 => 311 | 76 => 325 | 77 => 223 | n => n, fun | n => n⟩
theorem Tryz.l278 : Go.Proofs.SlLaysF0.n6 Tryz.prog Tryz.l278_ren := {
 mixed := by kernel_rfl
 f6 := ⟨Tryz.f278.name, by decide, Tryz.func278.trans (congrArg some (by kernel_rfl))⟩
 f14 := ⟨Tryz.f286.name, by decide, Tryz.func286.trans (congrArg some (by kernel_rfl))⟩
 f15 := Tryz.func181.trans (congrArg some (by kernel_rfl))
 f20 := ⟨Tryz.f288.name, by decide, Tryz.func288.trans (congrArg some (by kernel_rfl))⟩
 f21 := ⟨Tryz.f289.name, by decide, Tryz.func289.trans (congrArg some (by kernel_rfl))⟩
 f22 := ⟨Tryz.f290.name, by decide, Tryz.func290.trans (congrArg some (by kernel_rfl))⟩
 f23 := ⟨Tryz.f291.name, by decide, Tryz.func291.trans (congrArg some (by kernel_rfl))⟩
 f24 := ⟨Tryz.f292.name, by decide, Tryz.func292.trans (congrArg some (by kernel_rfl))⟩
 f25 := ⟨Tryz.f293.name, by decide, Tryz.func293.trans (congrArg some (by kernel_rfl))⟩
 f26 := ⟨Tryz.f294.name, by decide, Tryz.func294.trans (congrArg some (by kernel_rfl))⟩
 f27 := ⟨Tryz.f295.name, by decide, Tryz.func295.trans (congrArg some (by kernel_rfl))⟩
 f28 := Tryz.func199.trans (congrArg some (by kernel_rfl))
 f29 := Tryz.func200.trans (congrArg some (by kernel_rfl))
 f46 := ⟨Tryz.f296.name, by decide, Tryz.func296.trans (congrArg some (by kernel_rfl))⟩
 f47 := Tryz.func210.trans (congrArg some (by kernel_rfl))
 f48 := Tryz.func211.trans (congrArg some (by kernel_rfl))
 f49 := ⟨Tryz.f297.name, by decide, Tryz.func297.trans (congrArg some (by kernel_rfl))⟩
 f50 := ⟨Tryz.f298.name, by decide, Tryz.func298.trans (congrArg some (by kernel_rfl))⟩
 f57 := ⟨Tryz.f299.name, by decide, Tryz.func299.trans (congrArg some (by kernel_rfl))⟩
 t0 := Tryz.underlying0
 a0 := Tryz.isAgg0
 z0 := Tryz.sizeOf0
 v0 := Tryz.zeroValue0
 t3 := Tryz.underlying3
 a3 := Tryz.isAgg3
 z3 := Tryz.sizeOf3
 v3 := Tryz.zeroValue3
 t4 := Tryz.underlying4
 a4 := Tryz.isAgg4
 z4 := Tryz.sizeOf4
 v4 := Tryz.zeroValue4
 t5 := Tryz.underlying5
 a5 := Tryz.isAgg5
 z5 := Tryz.sizeOf5
 v5 := Tryz.zeroValue5
 t9 := Tryz.underlying9
 a9 := Tryz.isAgg9
 z9 := Tryz.sizeOf9
 v9 := Tryz.zeroValue9
 t22 := Tryz.underlying265
 a22 := Tryz.isAgg265
 z22 := Tryz.sizeOf265
 v22 := Tryz.zeroValue265
 t25 := Tryz.underlying363
 a25 := Tryz.isAgg363
 z25 := Tryz.sizeOf363
 v25 := Tryz.zeroValue363
 t39 := Tryz.underlying154
 a39 := Tryz.isAgg154
 z39 := Tryz.sizeOf154
 v39 := Tryz.zeroValue154
 t45 := Tryz.underlying289
 a45 := Tryz.isAgg289
 z45 := Tryz.sizeOf289
 v45 := Tryz.zeroValue289
 t46 := Tryz.underlying290
 a46 := Tryz.isAgg290
 z46 := Tryz.sizeOf290
 v46 := Tryz.zeroValue290
 t50 := Tryz.underlying101
 a50 := Tryz.isAgg101
 z50 := Tryz.sizeOf101
 v50 := Tryz.zeroValue101
 t53 := Tryz.underlying296
 a53 := Tryz.isAgg296
 z53 := Tryz.sizeOf296
 v53 := Tryz.zeroValue296
 t55 := Tryz.underlying298
 a55 := Tryz.isAgg298
 z55 := Tryz.sizeOf298
 v55 := Tryz.zeroValue298
 t66 := Tryz.underlying307
 a66 := Tryz.isAgg307
 z66 := Tryz.sizeOf307
 v66 := Tryz.zeroValue307
 t70 := Tryz.underlying311
 a70 := Tryz.isAgg311
 z70 := Tryz.sizeOf311
 v70 := Tryz.zeroValue311
 t76 := Tryz.underlying325
 a76 := Tryz.isAgg325
 z76 := Tryz.sizeOf325
 v76 := Tryz.zeroValue325
 t77 := Tryz.underlying223
 a77 := Tryz.isAgg223
 z77 := Tryz.sizeOf223
 v77 := Tryz.zeroValue223 }
theorem cmp160 (x y : Int) (W : World) : Calls Tryz.prog 160 #[.int .i64 x, .int .i64 y] W fun e w' => e = .returned (.int .i64 (cmpI x y)) ∧ W = w' := by
 unfold cmpI; go_enter Tryz.func160, Tryz.ntmps160; go_wp2
 all_goals (go_ret; exact ⟨by simp_all, rfl⟩)
theorem closure279 (x y : Pt) (W : World) : Calls Tryz.prog 279 #[.agg x.cells.toArray, .agg y.cells.toArray] W fun e w' => e = .returned (.int .i64 (cmpI x.id y.id)) ∧ ∃ q os', w' = grow (W.drewN q) os' := by
 have hcon := fun W' => cmp160 x.id y.id W'; generalize cmpI x.id y.id = r at hcon ⊢; obtain ⟨i, ww, v, day⟩ := x; obtain ⟨i2, ww2, v2, day2⟩ := y; simp only at hcon; show Calls Tryz.prog 279 #[.agg #[.int .i64 i, .int .i64 ww, .int .i64 v, .int .i64 day], .agg #[.int .i64 i2, .int .i64 ww2, .int .i64 v2, .int .i64 day2]] W _; go_enter Tryz.func279, Tryz.ntmps279; go_wp2_with (go_at_call 160; refine (hcon _).mono ?_; rintro e w' ⟨rfl, rfl⟩)
 go_ret
 exact ⟨rfl, 0, _, by rw [alloc_eq_grow, alloc_eq_grow, grow_grow]; rfl⟩
theorem ltId (x y : Pt) : ltOf (fun x y : Pt => cmpI x.id y.id) x y = decide (x.id < y.id) := by
 unfold ltOf cmpI; by_cases h1 : x.id < y.id
 · simp [h1]
 · by_cases h2 : y.id < x.id <;> simp [h1, h2]
theorem swoId : SWO (ltOf fun x y : Pt => cmpI x.id y.id) where
 irrefl x := by rw [ltId]; simp
 trans x y z h1 h2 := by rw [ltId] at *; simp at *; omega
 ntrans x y z h1 h2 := by rw [ltId] at *; simp at *; omega
theorem cells_mod (p : Pt) (c : Nat) (hc : c < 4) : p.cells[c]? = some (p.cells[c]!) := by
 have : c = 0 ∨ c = 1 ∨ c = 2 ∨ c = 3 := by omega
 rcases this with rfl | rfl | rfl | rfl <;> rfl
theorem ownsRow_holds {W : World} {g n c : Nat} {ps : List Pt} (h : W.ownsRow 0 338 4 (.slice (some ⟨g, 0, none⟩) n c) ps.length (flatP ps)) :
 HoldsK Pt.cells 4 W g 0 ps.toArray := by
 intro t ht; rw [size_flatK] at ht; have ht' : t < ps.length * 4 := by simpa using ht
 have hk : t / 4 < ps.length := by omega
 constructor
 · rw [get_flatK _ _ _ _ ht]; have e : ps.toArray[t / 4]! = ps[t / 4]! := by simp
   have := h.cells (g := g) rfl _ _ (flatP_get ps (t / 4) (t % 4) _ hk (cells_mod _ _ (by omega))); rw [show t / 4 * 4 + t % 4 = t from by omega] at this; rw [Nat.zero_add, e]; simpa [Addr.add_lit] using this
 · rcases h.2 with ⟨h1, _⟩ | ⟨g', cap, cur, h1, _, hgg, _⟩
   · cases h1
   · simp only [Value.slice.injEq, Option.some.injEq, Addr.mk.injEq] at h1; obtain ⟨⟨rfl, _⟩, _⟩ := h1; simp [World.frozen?, hgg]
theorem ownsRow_of_cells {W : World} {g cap : Nat} {cur : Array Value} {ps : List Pt} (hg : W.heap[g]? = some (.cells cur 338 (0, 0))) (h1 : ps.length ≤ cap) (h2 : cap ≤ maxLen) (h3 : cur.size = cap * 4)
 (hc : ∀ k, k < ps.length → ∀ i v, (ps[k]!).cells[i]? = some v → W.cell? ⟨g, k * 4 + i, none⟩ = some v) :
 W.ownsRow 0 338 4 (.slice (some ⟨g, 0, none⟩) ps.length cap) ps.length (flatP ps) := by
 refine ⟨flatP_length ps, .inr ⟨g, cap, cur, rfl, Nat.zero_le _, hg, h1, h2, h3, ?_⟩⟩; apply List.ext_getElem?
 intro t; by_cases ht : t < ps.length * 4
 · have hk : t / 4 < ps.length := by omega
   have hv := cells_mod (ps[t / 4]!) (t % 4) (by omega); have e1 := flatP_get ps _ _ _ hk hv; have e2 := hc _ hk _ _ hv; rw [show t / 4 * 4 + t % 4 = t from by omega] at e1 e2; rw [e1, List.getElem?_take, if_pos ht]; simpa [World.cell?, hg] using e2
 · rw [List.getElem?_take, if_neg ht, List.getElem?_eq_none]; rw [flatP_length]; omega
end Go.Proofs.YtoiajjobecinpaaGreat
namespace Go.Proofs.YtoiajjobecinpaaGreat
open Go.RowKit Go.Shelf Go.Lib Go.Proofs Go.Sort
set_option linter.unusedVariables false
set_option linter.unusedSimpArgs false
def ById (ps : List Pt) : Prop := ps.Pairwise (fun a b => a.id < b.id)
theorem perm_sorted_eq : ∀ (a b : List Pt), a.Perm b → ById a → ById b → a = b
 | [], b, h, _, _ => (List.nil_perm.1 h).symm
 | x :: a, [], h, _, _ => by simp at h
 | x :: a, y :: b, h, ha, hb => by
  have ha' := List.pairwise_cons.1 ha; have hb' := List.pairwise_cons.1 hb; have hx : x ∈ y :: b := h.subset (by simp); have hy : y ∈ x :: a := h.symm.subset (by simp); have e : x = y := by
   rcases List.mem_cons.1 hx with e | hx
   · exact e
   · rcases List.mem_cons.1 hy with e | hy
     · exact e.symm
     · have h1 := hb'.1 x hx; have h2 := ha'.1 y hy; omega
  subst e; rw [perm_sorted_eq a b ((List.perm_cons x).1 h) ha'.2 hb'.2]
theorem insP_perm (p : Pt) : ∀ ps : List Pt, (insP p ps).Perm (ps ++ [p])
 | [] => .refl _
 | q :: l => by
  unfold insP; split
  · exact (List.perm_append_singleton p (q :: l)).symm
  · exact (List.perm_cons q).2 (insP_perm p l)
theorem insP_sorted (p : Pt) : ∀ ps : List Pt, ById ps → (∀ q ∈ ps, q.id ≠ p.id) → ById (insP p ps)
 | [], _, _ => by simp [insP, ById]
 | q :: l, h, hn => by
  have h' := List.pairwise_cons.1 h; unfold insP; split
  · rename_i hlt; refine List.pairwise_cons.2 ⟨?_, h⟩; intro r hr; rcases List.mem_cons.1 hr with rfl | hr
    · exact hlt
    · have := h'.1 r hr; omega
  · rename_i hlt; have hq := hn q (by simp); refine List.pairwise_cons.2 ⟨?_, insP_sorted p l h'.2 (fun r hr => hn r (by simp [hr]))⟩; intro r hr; have := (insP_perm p l).subset hr; rcases List.mem_append.1 this with hr | hr
    · exact h'.1 r hr
    · simp at hr; subst hr; omega
theorem sorted_is_ins (p : Pt) (ps : List Pt) (d' : Array Pt) (hs : ById ps) (hn : ∀ q ∈ ps, q.id ≠ p.id) (hp : PermIn 0 (ps ++ [p]).toArray.size (ps ++ [p]).toArray d')
 (hd : SortedIn (ltOf fun x y : Pt => cmpI x.id y.id) 0 (ps ++ [p]).toArray.size d') : d'.toList = insP p ps := by
 obtain ⟨h1, _, h3⟩ := hp; have hperm : d'.toList.Perm (ps ++ [p]) := by
  have e1 : (d'.extract 0 (ps ++ [p]).toArray.size).toList = d'.toList := by rw [← h1]; simp
  have e2 : ((ps ++ [p]).toArray.extract 0 (ps ++ [p]).toArray.size).toList = ps ++ [p] := by simp [List.take_of_length_le]
  rw [e1, e2] at h3; exact h3
 have hperm2 : d'.toList.Perm (insP p ps) := hperm.trans (insP_perm p ps).symm; refine perm_sorted_eq _ _ hperm2 ?_ (insP_sorted p ps hs hn); have hne : d'.toList.Pairwise (fun a b => a.id ≠ b.id) := by
  refine (hperm2.pairwise_iff (fun {a b} h e => h e.symm)).2 ?_; exact (insP_sorted p ps hs hn).imp (fun h => by omega)
 unfold ById; rw [List.pairwise_iff_getElem] at hne ⊢; intro i j hi hj hij; have h4 := hd i j (Nat.zero_le _) hij (by rw [← h1]; simpa using hj); rw [ltId] at h4; have h5 := hne i j hi hj hij; have ei : d'[i]! = d'.toList[i] := by rw [getElem!_pos d' i (by simpa using hi)]; simp
 have ej : d'[j]! = d'.toList[j] := by rw [getElem!_pos d' j (by simpa using hj)]; simp
 rw [ei, ej] at h4; simp only [decide_eq_false_iff_not] at h4; omega
theorem heap_sortWorldK (W : World) (g n : Nat) (d' : Array Pt) (os : Array Obj) (k : Nat) (hk : k < W.heap.size) (hne : k ≠ g) : (sortWorldK Pt.cells 4 W g 0 n d' os).heap[k]? = W.heap[k]? := by
 unfold sortWorldK; rw [heap_grow_old _ _ (by simpa [putRowK, putRow, mapBlock, ahead] using hk)]; simp [putRowK, putRow, mapBlock, ahead, Array.getElem?_modify, hne.symm]
theorem touch_sortWorldK (W : World) (g n : Nat) (d' : Array Pt) (os : Array Obj) : Touch (fun k => k = g) W (sortWorldK Pt.cells 4 W g 0 n d' os) :=
 ⟨rfl, rfl, rfl, size_sortWorldK_c Pt.cells 4 W g 0 n d' os, fun k hk hne => heap_sortWorldK W g n d' os k hk hne⟩
theorem ownsRow_sorted {W : World} {g m c n : Nat} {ps : List Pt} (h : W.ownsRow 0 338 4 (.slice (some ⟨g, 0, none⟩) m c) ps.length (flatP ps)) (d' : Array Pt) (hd : d'.size = ps.length) (os : Array Obj) :
 (sortWorldK Pt.cells 4 W g 0 n d' os).ownsRow 0 338 4 (.slice (some ⟨g, 0, none⟩) m c) d'.toList.length (flatP d'.toList) := by
 have hH := ownsRow_holds h; have hlt := (h.lt g rfl).2; have hH' := holdsK_sortWorldK_c Pt.cells 4 W g 0 ps.toArray d' n os hH hlt (by simpa using hd); rcases h.2 with ⟨h1, _⟩ | ⟨g', cap, cur, h1, _, hgg, hn, hm, hsz, _⟩
 · cases h1
 · simp only [Value.slice.injEq, Option.some.injEq, Addr.mk.injEq] at h1; obtain ⟨⟨rfl, _⟩, rfl, rfl⟩ := h1; have hg2 : ∃ cur', (sortWorldK Pt.cells 4 W g 0 n d' os).heap[g]? = some (.cells cur' 338 (0, 0)) ∧ cur'.size = cur.size := by
    unfold sortWorldK; rw [heap_grow_old _ _ (by simpa [putRowK, putRow, mapBlock, ahead] using hlt)]; refine ⟨putCells id 0 (flatK Pt.cells 4 d') cur, ?_, by simp [putCells]⟩; simp [putRowK, putRow, mapBlock, ahead, Array.getElem?_modify, hgg, onCells]
   obtain ⟨cur', hg2, hs2⟩ := hg2; have hl : d'.toList.length = ps.length := by simpa using hd
   rw [show ps.length = d'.toList.length from hl.symm] at hn ⊢; refine ownsRow_of_cells hg2 hn hm (hs2.trans hsz) ?_; intro k hk i v hv; have hk' : k < d'.size := by simpa using hk
   have hi : i < 4 := by
    have := (List.getElem?_eq_some_iff.1 hv).1; simpa [Pt.cells] using this
   have := (hH'.cell hk' hi).1; rw [Nat.zero_add] at this; rw [this]; have e : d'[k]! = d'.toList[k]! := by rw [getElem!_pos d' k hk', getElem!_pos d'.toList k hk]; simp
   rw [e]; have := cells_mod (d'.toList[k]!) i hi; rw [hv] at this; exact this.symm
theorem sort_any (g c : Nat) (p : Pt) (ps : List Pt) (W : World) (h : W.ownsRow 0 338 4 (.slice (some ⟨g, 0, none⟩) (ps ++ [p]).length c) (ps ++ [p]).length (flatP (ps ++ [p])))
 (hs : ById ps) (hn : ∀ q ∈ ps, q.id ≠ p.id) (hl : ps.length ≤ 64) :
 Calls Tryz.prog 278 #[.slice (some ⟨g, 0, none⟩) (ps ++ [p]).length c, .func (.func 279) #[] #[]] W fun e w' => e = .returned (.tuple #[]) ∧
  w'.ownsRow 0 338 4 (.slice (some ⟨g, 0, none⟩) (insP p ps).length c) (insP p ps).length (flatP (insP p ps)) ∧ Touch (fun k => k = g) W w' := by
 have eg : ∀ args w, (callFunc 279 args).run Tryz.prog w = .ok (.enter 279 args) w := enters_of Tryz.func279 (by kernel_rfl) rfl; have hcon := AnyQ.slices_SortFunc Tryz.l278 4 Tryz.isAgg338 Tryz.sizeOf338 Pt.cells (fun _ => rfl) (fun x v hv => by simp [Pt.cells] at hv; rcases hv with rfl | rfl | rfl | rfl <;> rfl) (fun x y => cmpI x.id y.id) swoId 279 #[] g 0 c (ps ++ [p]).toArray W eg
  (fun _ _ _ _ x y => closure279 x y _) (ownsRow_holds h) (h.lt g rfl).2 (by simp; omega)
 change Calls Tryz.prog 278 _ _ _ at hcon; rw [show (ps ++ [p]).toArray.size = (ps ++ [p]).length from by simp] at hcon; refine hcon.mono ?_; rintro e w' ⟨rfl, d', n, os, hp, hd, rfl⟩; have hsz : d'.size = (ps ++ [p]).length := by have := hp.1; simpa using this
 have hd' : d'.toList = insP p ps := sorted_is_ins p ps d' hs hn (by simpa using hp) (by simpa using hd); have hr := ownsRow_sorted (n := n) h d' hsz os; rw [hd'] at hr; have hl2 : (insP p ps).length = (ps ++ [p]).length := (insP_perm p ps).length_eq; rw [hl2] at hr ⊢; exact ⟨rfl, hr, touch_sortWorldK W g n d' os⟩
end Go.Proofs.YtoiajjobecinpaaGreat
namespace Go.Proofs.YtoiajjobecinpaaGreat
open Go.RowKit Go.Shelf Go.Lib Go.Proofs
set_option linter.unusedVariables false
set_option linter.unusedSimpArgs false
theorem info338 : (Tryz.prog.info? 338).map (fun i => (i.zero, i.size, i.bytes)) = some (some (.agg #[.int .i64 0, .int .i64 0, .int .i64 0, .int .i64 0]), 4, 32) := by kernel_rfl
theorem LineAt.reslice {W w1 : World} {b : Nat} {v v' : Value} {l : Ln} {ps' : List Pt} (h : LineAt W b v l) (hb : w1.heap[b]? = W.heap[b]?) (hown : w1.ownsRow 0 338 4 v' ps'.length (flatP ps')) (hne : v'.ownBlock ≠ some b) :
 LineAt (w1.setCell ⟨b, 2, none⟩ v') b v' ⟨l.base, l.cur, ps'⟩ := by
 have h0 : ∀ i, w1.cell? ⟨b, i, none⟩ = W.cell? ⟨b, i, none⟩ := fun i => World.cell?_of_block hb; have h1 : ∀ i, w1.frozen? ⟨b, i, none⟩ = W.frozen? ⟨b, i, none⟩ := fun i => World.frozen?_of_block hb; refine ⟨?_, ?_, World.cell?_setCell_same _ _ _ ((h0 2).trans h.sl), fun i => ?_, ?_, hne⟩
 · rw [cell_setCell_ne _ (by simp), h0]; exact h.base
 · rw [cell_setCell_ne _ (by simp), h0]; exact h.cur
 · rw [World.frozen?_setCell, h1]; exact h.live i
 · exact ownsRow_same hown (fun k hk => Below.heap_setCell _ _ _ _ (by rintro rfl; exact hne hk))
theorem c2a {W : World} {a : Addr} {v : Value} (o : Obj) (h : W.cell? a = some v) : (W.alloc o).cell? a = some v := Lib.cell?_alloc_some _ h
theorem f2g {W w1 : World} {b : Nat} {v : Value} {l : Ln} {o : Obj} (h : LineAt W b v l) (hg : (W.alloc o).grownBy w1 v.ownBlock) : w1.frozen? ⟨b, 2, none⟩ = false := by
 have hlt := h.lt b (.inl rfl); have h1 : w1.heap[b]? = W.heap[b]? := (hg.block b (by simp; omega) (fun e => h.ne e.symm)).trans (Below.heap_alloc _ _ _ hlt)
 exact (World.frozen?_of_block (a := ⟨b, 2, none⟩) h1).trans (h.live 2)
theorem LineAt.pushed {w9 w1 : World} {b gg cap : Nat} {v : Value} {l : Ln} {o : Obj} {p : Pt} (hL : LineAt w9 b v l) (hg : (w9.alloc o).grownBy w1 v.ownBlock)
 (hown : w1.ownsRow 0 338 4 (.slice (some ⟨gg, 0, none⟩) (l.ps.length + 1) cap) (l.ps.length + 1) (flatP l.ps ++ p.cells)) (hat : v.ownBlock = some gg ∨ gg = (w9.alloc o).heap.size) :
 LineAt (w1.setCell ⟨b, 2, none⟩ (.slice (some ⟨gg, 0, none⟩) (l.ps.length + 1) cap)) b (.slice (some ⟨gg, 0, none⟩) (l.ps.length + 1) cap) ⟨l.base, l.cur, l.ps ++ [p]⟩ ∧
 Touch (lfp b v) w9 (w1.setCell ⟨b, 2, none⟩ (.slice (some ⟨gg, 0, none⟩) (l.ps.length + 1) cap)) := by
 have hlt := hL.lt b (.inl rfl); have h1 : w1.heap[b]? = w9.heap[b]? := (hg.block b (by simp; omega) (fun e => hL.ne e.symm)).trans (Below.heap_alloc _ _ _ hlt)
 have hne : (Value.slice (some ⟨gg, 0, none⟩) (l.ps.length + 1) cap).ownBlock ≠ some b := by
  intro e; simp [Value.ownBlock] at e
  rcases hat with h | h
  · exact hL.ne (by rw [h, e])
  · simp at h; omega
 refine ⟨hL.reslice h1 ?_ hne, ?_⟩
 · have e1 : (l.ps ++ [p]).length = l.ps.length + 1 := by simp
   have e2 : flatP (l.ps ++ [p]) = flatP l.ps ++ p.cells := by rw [flatP_append]; simp [flatP]
   rw [e1, e2]; exact hown
 · have ht : Touch (lfp b v) w9 w1 := ⟨hg.os, hg.tape, hg.output, Nat.le_trans (by simp) hg.size, fun k hk hf => (hg.block k (by simp; omega) (fun e => hf (.inr e.symm))).trans (Below.heap_alloc _ _ _ hk)⟩
   exact ht.setCell (t := none) (.inl (.inl rfl)) _
set_option maxRecDepth 100000 in
theorem put_ok (b : Nat) (v : Value) (l : Ln) (id w lag : Int) (W : World) (h : LineAt W b v l) (hlen : l.ps.length ≤ 64)
 (hm : mayE l id w lag = 0) (hs : ById l.ps) (hbase : -2305843009213693952 ≤ l.base ∧ l.base ≤ 2305843009213693952) :
 Calls Tryz.prog 269 #[.pointer (some ⟨b, 0, none⟩), .int .i64 id, .int .i64 w, .int .i64 lag] W fun e w' => e = .returned (.int .i64 0) ∧ ∃ v', LineAt w' b v' (putL l id w lag) ∧ Touch (lfp b v) W w' ∧ (∀ k, v'.ownBlock = some k → v.ownBlock = some k ∨ W.heap.size ≤ k) := by
 have hmay := may_any b v l id w lag W h; rw [hm] at hmay; obtain ⟨hid, hw, hlag, hpos, hlen2⟩ : (0 ≤ id ∧ id ≤ 1073741824) ∧ goodW w = true ∧ (-1125899906842624 ≤ lag ∧ lag ≤ 1125899906842624) ∧ posP l.ps id < 0 ∧ l.ps.length ≠ 64 := by
  unfold mayE at hm; split at hm
  · rename_i h1; unfold mayI at h1; simp only [Bool.and_eq_true, decide_eq_true_eq] at h1; split at hm
    · omega
    · split at hm
      · omega
      · exact ⟨⟨h1.1, h1.2.1⟩, h1.2.2.1, h1.2.2.2, by omega, by omega⟩
  · omega
 have hn : ∀ q ∈ l.ps, q.id ≠ id := by
  rcases posP_cases l.ps id with ⟨_, h2⟩ | ⟨k, _, h2, _⟩
  · exact h2
  · omega
 have HK : Hid (IntKind.i64.wrap (l.base - lag) = l.base - lag) := lH (by rw [IntKind.wrap_i64]; omega); obtain ⟨base', hbs⟩ : ∃ x, l.base - lag = x := ⟨_, rfl⟩
 have hday := fun W' => day_any ⟨id, w, base', 0⟩ W' (by simp only; omega) (by simp only; omega); obtain ⟨dd, hdd⟩ : ∃ dd, dayP ⟨id, w, base', 0⟩ = ⟨id, w, base', dd⟩ := ⟨_, rfl⟩
 rw [hdd] at hday; have HBS := lH hbs; have HDD := lH hdd; have HN := lH hn; have HM := lH hm; have hk1 : IntKind.i64.wrap (l.base - lag) = base' := HK.out.trans hbs; simp only [Pt.cells] at hday; have HL := lH h; have HS := lH hs; have b1 := hbase.1; have b2 := hbase.2; clear hbs hdd hn hm h hs hw hbase; obtain ⟨i0, hi0, hz0, hz1, hz2⟩ := info_parts info338; go_enter Tryz.func269, Tryz.ntmps269; go_wp2_with fail
 refine hmay.mono ?_; rintro e w0 ⟨rfl, hb0⟩; have hL := HL.out.below hb0; have HB0 := lH hb0; go_upto_region 4 with fail
 go_cut [] (fun W2 => ∃ g cap, LineAt W2 b (.slice (some ⟨g, 0, none⟩) (l.ps.length + 1) cap) ⟨l.base, l.cur, l.ps ++ [⟨id, w, base', dd⟩]⟩ ∧ Touch (lfp b v) W W2 ∧ (v.ownBlock = some g ∨ W.heap.size ≤ g))
 case first =>
  have hT : Touch (lfp b v) W w0.drew := (Touch.of_below HB0.out).drew; have hL := hL.drew; have c0 := hL.base; have c2 := hL.sl; have f2 := hL.live 2; have hlt := hL.lt b (.inl rfl); go_wp2_with fail
  go_region_law (first | (refine step_append_lies _ (by rfl) _ _ _ (by rfl) 0 338 i0 _ 4 32 Tryz.underlying265 hi0 hz0 hz1 hz2 rfl (by omega) v l.ps.length (flatP l.ps) (by rfl) ((hL.alloc _).row) ⟨_, 0, none⟩ 1 1 [.int .i64 id, .int .i64 w, .int .i64 base', .int .i64 dd] (by rfl) (by rfl) (World.news_of_block (cs := #[.int .i64 id, .int .i64 w, .int .i64 base', .int .i64 dd]) (t := 338) (fr := (0, 0)) (heap_alloc_new _ _)) (by simp [Value.oneCell']) (by omega) (by unfold maxLen; omega) (by omega) (Nat.zero_le _) _ rfl ?_; intro gg cap w1 hown1 hgrow hat hlt; have c2' := (hgrow.cell (c2a _ c2) (by simpa using hL.ne.symm)); have f2' := f2g hL hgrow) | (go_simp; go_at_call 236; refine (hday _).mono ?_; rintro e w9 ⟨rfl, hb⟩; have hT := hT.self (Touch.of_below hb); have hL := hL.below hb; have c0 := hL.base; have c2 := hL.sl; have f2 := hL.live 2; have hlt := hL.lt b (.inl rfl)))
  all_goals
   go_wp2_with fail
   go_meet
   obtain ⟨k1, k2⟩ := hL.pushed (p := ⟨id, w, base', dd⟩) hgrow hown1 hat; refine ⟨gg, cap, k1, hT.self k2, ?_⟩; rcases hat with hat | hat
   · exact .inl hat
   · right
     have := hT.size; simp at hat; omega
 case rest =>
  obtain ⟨g, cap, hL2, hT2, hg2⟩ := hcut; have hsl := hL2.sl; have hrow := hL2.row; have hb2 := hL2.lt b (.inl rfl); have hln : (l.ps ++ [(⟨id, w, base', dd⟩ : Pt)]).length = l.ps.length + 1 := by simp
  rw [← hln] at hrow; have hsort := sort_any g cap ⟨id, w, base', dd⟩ l.ps wc hrow HS.out HN.out hlen; rw [hln] at hsort; have HLN := lH hln; have HL2 := lH hL2; have HT2 := lH hT2; have HG2 := lH hg2; clear hln hrow hL2 hT2 hg2; go_wp2_with fail
  refine hsort.mono ?_; rintro e w3 ⟨rfl, hrow3, ht3⟩; have hne : b ≠ g := fun e => HL2.out.ne (by rw [e]; rfl); have hb3 := ht3.block b (HL2.out.lt b (.inl rfl)) hne; have hl3 : (insP ⟨id, w, base', dd⟩ l.ps).length = l.ps.length + 1 := by rw [(insP_perm _ _).length_eq]; simp
  rw [hl3] at hrow3; have hL3 : LineAt w3 b (.slice (some ⟨g, 0, none⟩) (l.ps.length + 1) cap) ⟨l.base, l.cur, insP ⟨id, w, base', dd⟩ l.ps⟩ := by
   have h := HL2.out; have h0 : ∀ i, w3.cell? ⟨b, i, none⟩ = wc.cell? ⟨b, i, none⟩ := fun i => World.cell?_of_block hb3; have h1 : ∀ i, w3.frozen? ⟨b, i, none⟩ = wc.frozen? ⟨b, i, none⟩ := fun i => World.frozen?_of_block hb3; exact ⟨(h0 0).trans h.base, (h0 1).trans h.cur, (h0 2).trans h.sl, fun i => (h1 i).trans (h.live i), by rw [hl3]; exact hrow3, h.ne⟩
  have hgrow := grow_any b _ _ w3 hL3 (by simp only; rw [hl3]; omega); have HL3 := lH hl3; have HT3 := lH ht3; clear hrow3 hb3 hL3 hl3 ht3 hsl hsort; go_wp2_with fail
  refine hgrow.mono ?_; rintro e w4 ⟨rfl, hL4, ht4⟩; have HL4 := lH hL4; have HT4 := lH ht4; clear hL4 ht4; go_wp2_with fail
  go_ret
  refine ⟨rfl, .slice (some ⟨g, 0, none⟩) (l.ps.length + 1) cap, ?_, ?_, ?_⟩
  · have h := HL4.out; unfold putL; simp only
    rw [HBS.out, HDD.out]; exact h
  · have hF : ∀ k, k = g → lfp b v k ∨ W.heap.size ≤ k := by
     rintro k rfl; rcases HG2.out with h | h
     · exact .inl (.inr h)
     · exact .inr h
    exact (HT2.out.trans hF HT3.out).trans (fun k hk => .inl (.inl hk)) HT4.out
  · intro k hk; simp [Value.ownBlock] at hk
    subst hk; exact HG2.out
abbrev put4 (W : World) (g o : Nat) (q : Pt) : World :=
 (((W.setCell ⟨g, o, none⟩ (.int .i64 q.id)).setCell ⟨g, o + 1, none⟩ (.int .i64 q.w)).setCell ⟨g, o + 2, none⟩ (.int .i64 q.v)).setCell ⟨g, o + 3, none⟩ (.int .i64 q.day)
theorem put4_cell_far {W : World} {g o : Nat} {q : Pt} {a : Addr} (h : ∀ i, i < 4 → a ≠ ⟨g, o + i, none⟩) : (put4 W g o q).cell? a = W.cell? a := by
 have h0 : a ≠ ⟨g, o, none⟩ := h 0 (by omega); rw [cell_setCell_ne _ (h 3 (by omega)), cell_setCell_ne _ (h 2 (by omega)), cell_setCell_ne _ (h 1 (by omega)), cell_setCell_ne _ h0]
theorem put4_heap {W : World} {g o : Nat} {q : Pt} {k : Nat} (h : k ≠ g) : (put4 W g o q).heap[k]? = W.heap[k]? := by
 unfold put4; rw [Below.heap_setCell _ _ _ _ h, Below.heap_setCell _ _ _ _ h, Below.heap_setCell _ _ _ _ h, Below.heap_setCell _ _ _ _ h]
theorem heap_setCell_row {w : World} {a i : Nat} {v : Value} {cs : Array Value} {T : TypeId} (h : w.heap[a]? = some (.cells cs T (0, 0))) :
 (w.setCell ⟨a, i, none⟩ v).heap[a]? = some (.cells (cs.setIfInBounds i v) T (0, 0)) := by
 simp [World.setCell, Array.getElem?_modify, h]
theorem put4_row {W : World} {g o : Nat} {q : Pt} {cur : Array Value} (h : W.heap[g]? = some (.cells cur 338 (0, 0))) :
 (put4 W g o q).heap[g]? = some (.cells ((((cur.setIfInBounds o (.int .i64 q.id)).setIfInBounds (o + 1) (.int .i64 q.w)).setIfInBounds (o + 2) (.int .i64 q.v)).setIfInBounds (o + 3) (.int .i64 q.day)) 338 (0, 0)) :=
 heap_setCell_row (heap_setCell_row (heap_setCell_row (heap_setCell_row h)))
theorem getElem!_set_list (ps : List Pt) (k j : Nat) (q : Pt) (hj : j < ps.length) : (ps.set k q)[j]! = if k = j then q else ps[j]! := by
 rw [getElem!_pos _ j (by simpa using hj), List.getElem_set, getElem!_pos ps j hj]
theorem LineAt.setPt {W : World} {b g n cap : Nat} {l : Ln} (h : LineAt W b (.slice (some ⟨g, 0, none⟩) n cap) l) (k : Nat) (hk : k < l.ps.length) (q : Pt) :
 LineAt (put4 W g (k * 4) q) b (.slice (some ⟨g, 0, none⟩) n cap) ⟨l.base, l.cur, l.ps.set k q⟩ := by
 have hne : b ≠ g := fun e => h.ne (by rw [e]; rfl); have hbl := put4_heap (W := W) (o := k * 4) (q := q) hne; have h0 : ∀ i, (put4 W g (k * 4) q).cell? ⟨b, i, none⟩ = W.cell? ⟨b, i, none⟩ := fun i => World.cell?_of_block hbl; have h1 : ∀ i, (put4 W g (k * 4) q).frozen? ⟨b, i, none⟩ = W.frozen? ⟨b, i, none⟩ := fun i => World.frozen?_of_block hbl; refine ⟨(h0 0).trans h.base, (h0 1).trans h.cur, (h0 2).trans h.sl, fun i => (h1 i).trans (h.live i), ?_, h.ne⟩; have hrow := h.row; rcases hrow.2 with ⟨e, _⟩ | ⟨g', cap', cur, e, _, hgg, hn, hm, hsz, _⟩
 · cases e
 · simp only [Value.slice.injEq, Option.some.injEq, Addr.mk.injEq] at e; obtain ⟨⟨rfl, _⟩, rfl, rfl⟩ := e; have hl : (l.ps.set k q).length = l.ps.length := by simp
   have := ownsRow_of_cells (ps := l.ps.set k q) (put4_row (o := k * 4) (q := q) hgg) (by rw [hl]; exact hn) hm (by simp; exact hsz) (fun j hj i v hv => ?_)
   · simp only
     rw [hl] at this ⊢; exact this
   · have hj' : j < l.ps.length := by simpa using hj
     have hi : i < 4 := by
      have := (List.getElem?_eq_some_iff.1 hv).1; simpa [Pt.cells] using this
     rw [getElem!_set_list _ _ _ _ hj'] at hv; by_cases e : k = j
     · subst e; rw [if_pos rfl] at hv; have hs : k * 4 + 4 ≤ cur.size := by omega
       have hcell : (put4 W g (k * 4) q).cell? ⟨g, k * 4 + i, none⟩ = _ := cell_of_row _ g (k * 4 + i) _ 338 (0, 0) (put4_row hgg); rw [hcell]; have h4 : i = 0 ∨ i = 1 ∨ i = 2 ∨ i = 3 := by omega
       rcases h4 with rfl | rfl | rfl | rfl <;> simp [Pt.cells] at hv <;> subst hv <;> simp [Array.getElem?_setIfInBounds] <;> (try omega)
     · rw [if_neg e] at hv; rw [put4_cell_far (fun i' hi' ee => by injection ee; omega)]; have := hrow.cells (g := g) rfl _ _ (flatP_get l.ps j i v hj' hv); simpa [Addr.add_lit] using this
theorem touch_put4 (W : World) (g o : Nat) (q : Pt) : Touch (fun k => k = g) W (put4 W g o q) := by
 have t : ∀ (W : World) (o : Nat) (x : Value), Touch (fun k => k = g) W (W.setCell ⟨g, o, none⟩ x) := fun W o x => touch1 W g o x; exact (((t _ _ _).self (t _ _ _)).self (t _ _ _)).self (t _ _ _)
theorem LineAt.rowLive {W : World} {b g n cap : Nat} {l : Ln} (h : LineAt W b (.slice (some ⟨g, 0, none⟩) n cap) l) (i : Nat) : W.frozen? ⟨g, i, none⟩ = false := by
 rcases h.row.2 with ⟨e, _⟩ | ⟨g', cap', cur, e, _, hgg, _⟩
 · cases e
 · simp only [Value.slice.injEq, Option.some.injEq, Addr.mk.injEq] at e; obtain ⟨⟨rfl, _⟩, rfl, rfl⟩ := e; simp [World.frozen?, hgg]
theorem getElem!_list {ps : List Pt} {k : Nat} (hk : k < ps.length) : ps[k]! = ps[k] := getElem!_pos ps k hk
theorem LineAt.cells {W : World} {b g n cap : Nat} {l : Ln} (h : LineAt W b (.slice (some ⟨g, 0, none⟩) n cap) l) {k : Nat} (hk : k < l.ps.length) {p : Pt} (hp : l.ps[k]! = p) : RowAt W g k p := by
 have hrow := h.row; exact row_cells (n := n) (c := cap) hrow k hk p hp
theorem LineAt.form {W : World} {b : Nat} {v : Value} {l : Ln} (h : LineAt W b v l) (hk : 0 < l.ps.length) : ∃ g cap, v = .slice (some ⟨g, 0, none⟩) l.ps.length cap := by
 rcases h.row.2 with ⟨_, h0⟩ | ⟨g, cap, cur, rfl, _⟩
 · omega
 · exact ⟨g, cap, rfl⟩
theorem newline_ok (base : Int) (W : World) (h : -1152921504606846976 ≤ base ∧ base ≤ 1152921504606846976) :
 Calls Tryz.prog 174 #[.int .i64 base] W fun e w' => e = .returned (.tuple #[.agg #[.int .i64 base, .int .i64 (-1), .slice none 0 0], .int .i64 0]) ∧ Below W.heap.size W w' := by
 obtain ⟨h1, h2⟩ := h; have g1 : ¬ 1152921504606846976 < base := by omega
 have g2 : ¬ base < -1152921504606846976 := by omega
 go_enter Tryz.func174, Tryz.ntmps174; go_wp2
 exact bodyPost_ret (v := .tuple #[.agg #[.int .i64 base, .int .i64 (-1), .slice none 0 0], .int .i64 0]) (by simp [results, Tryz.results174, go_sem]) rfl ⟨rfl, (Below.refl _ _).alloc (Nat.le_refl _) _⟩
theorem newline_err (base : Int) (W : World) (h : base < -1152921504606846976 ∨ 1152921504606846976 < base) :
 Calls Tryz.prog 174 #[.int .i64 base] W fun e w' => e = .returned (.tuple #[.agg #[.int .i64 0, .int .i64 0, .slice none 0 0], .int .i64 1]) ∧ Below W.heap.size W w' := by
 rcases h with h | h
 · have g1 : ¬ 1152921504606846976 < base := by omega
   go_enter Tryz.func174, Tryz.ntmps174; go_wp2
   exact bodyPost_ret (v := .tuple #[.agg #[.int .i64 0, .int .i64 0, .slice none 0 0], .int .i64 1]) (by simp [results, Tryz.results174, go_sem]) rfl ⟨rfl, (Below.refl _ _).alloc (Nat.le_refl _) _⟩
 · go_enter Tryz.func174, Tryz.ntmps174; go_wp2
   exact bodyPost_ret (v := .tuple #[.agg #[.int .i64 0, .int .i64 0, .slice none 0 0], .int .i64 1]) (by simp [results, Tryz.results174, go_sem]) rfl ⟨rfl, (Below.refl _ _).alloc (Nat.le_refl _) _⟩
theorem line_new {W : World} {v : Value} {ps : List Pt} (hrow : W.ownsRow 0 338 4 v ps.length (flatP ps)) (base cur : Int) (T : TypeId) (B : Nat) (hB : W.heap.size = B) :
 LineAt (W.alloc (.cells #[.int .i64 base, .int .i64 cur, v] T)) B v ⟨base, cur, ps⟩ := by
 subst hB; have hh := heap_alloc_new W (.cells #[.int .i64 base, .int .i64 cur, v] T); refine ⟨?_, ?_, ?_, fun i => ?_, ?_, ?_⟩
 · simp only [World.cell?, hh]; rfl
 · simp only [World.cell?, hh]; rfl
 · simp only [World.cell?, hh]; rfl
 · simp only [World.frozen?, hh]; simp
 · exact hrow.alloc _
 · intro e; have := (hrow.lt _ e).2; omega
def MadeL (W : World) (base cur : Int) (v : Value) (ps : List Pt) (e : Ending) (w' : World) : Prop :=
 ∃ b, e = .returned (.tuple #[.pointer (some ⟨b, 0, none⟩), .int .i64 0]) ∧ LineAt w' b v ⟨base, cur, ps⟩ ∧ Below W.heap.size W w' ∧ W.heap.size ≤ b
theorem of_ok_stride (base cur : Int) (v : Value) (ps : List Pt) (W : World) (hrow : W.ownsRow 0 338 4 v ps.length (flatP ps)) :
 Calls Tryz.prog 173 #[.agg #[.int .i64 base, .int .i64 cur, v], .int .i64 0] W (MadeL W base cur v ps) := by
 have HR := lH hrow; clear hrow; go_enter Tryz.func173, Tryz.ntmps173; go_wp2
 go_ret2
 exact ⟨W.heap.size + 1, by simp, line_new (HR.out.alloc _) base cur _ _ (by simp), ((Below.refl _ _).alloc (Nat.le_refl _) _).alloc (by simp) _, by omega⟩
theorem of_err_stride (x : Value) (r : Int) (hr : r ≠ 0) (W : World) :
 Calls Tryz.prog 173 #[.agg #[.int .i64 0, .int .i64 0, .slice none 0 0], .int .i64 r] W fun e w' => e = .returned (.tuple #[.pointer none, .int .i64 r]) ∧ Below W.heap.size W w' := by
 have h1 : (r != 0) = true := by simp [hr]
 have h2 : (r == 0) = false := by simp [hr]
 go_enter Tryz.func173, Tryz.ntmps173; go_wp2
 go_ret2
 exact ⟨rfl, (Below.refl _ _).alloc (Nat.le_refl _) _⟩
theorem new_ok_stride (base : Int) (W : World) (h : -1152921504606846976 ≤ base ∧ base ≤ 1152921504606846976) :
 Calls Tryz.prog 143 #[.int .i64 base] W (MadeL W base (-1) (.slice none 0 0) []) := by
 have h1 := newline_ok base W h; have h2 := fun W' => of_ok_stride base (-1) (.slice none 0 0) [] W' (World.ownsRow_nil _ _ _ _); clear h; go_enter Tryz.func143, Tryz.ntmps143; go_wp2_with fail
 refine h1.mono ?_; rintro e w1 ⟨rfl, hb1⟩; go_wp2_with fail
 refine (h2 _).mono ?_; rintro e w2 ⟨b, rfl, hL, hb2, hlt⟩; have HL := lH hL; clear hL; go_wp2_with fail
 go_ret2
 exact ⟨b, rfl, HL.out, hb1.trans (hb2.mono hb1.size), by have := hb1.size; omega⟩
theorem of_ok_fair (base cur : Int) (v : Value) (ps : List Pt) (W : World) (hrow : W.ownsRow 0 338 4 v ps.length (flatP ps)) :
 Calls Tryz.prog 175 #[.agg #[.int .i64 base, .int .i64 cur, v], .int .i64 0] W (MadeL W base cur v ps) := by
 have HR := lH hrow; clear hrow; go_enter Tryz.func175, Tryz.ntmps175; go_wp2
 go_ret2
 exact ⟨W.heap.size + 1, by simp, line_new (HR.out.alloc _) base cur _ _ (by simp), ((Below.refl _ _).alloc (Nat.le_refl _) _).alloc (by simp) _, by omega⟩
theorem of_err_fair (x : Value) (r : Int) (hr : r ≠ 0) (W : World) :
 Calls Tryz.prog 175 #[.agg #[.int .i64 0, .int .i64 0, .slice none 0 0], .int .i64 r] W fun e w' => e = .returned (.tuple #[.pointer none, .int .i64 r]) ∧ Below W.heap.size W w' := by
 have h1 : (r != 0) = true := by simp [hr]
 have h2 : (r == 0) = false := by simp [hr]
 go_enter Tryz.func175, Tryz.ntmps175; go_wp2
 go_ret2
 exact ⟨rfl, (Below.refl _ _).alloc (Nat.le_refl _) _⟩
theorem new_ok_fair (base : Int) (W : World) (h : -1152921504606846976 ≤ base ∧ base ≤ 1152921504606846976) :
 Calls Tryz.prog 145 #[.int .i64 base] W (MadeL W base (-1) (.slice none 0 0) []) := by
 have h1 := newline_ok base W h; have h2 := fun W' => of_ok_fair base (-1) (.slice none 0 0) [] W' (World.ownsRow_nil _ _ _ _); clear h; go_enter Tryz.func145, Tryz.ntmps145; go_wp2_with fail
 refine h1.mono ?_; rintro e w1 ⟨rfl, hb1⟩; go_wp2_with fail
 refine (h2 _).mono ?_; rintro e w2 ⟨b, rfl, hL, hb2, hlt⟩; have HL := lH hL; clear hL; go_wp2_with fail
 go_ret2
 exact ⟨b, rfl, HL.out, hb1.trans (hb2.mono hb1.size), by have := hb1.size; omega⟩
theorem of_ok_due (base cur : Int) (v : Value) (ps : List Pt) (W : World) (hrow : W.ownsRow 0 338 4 v ps.length (flatP ps)) :
 Calls Tryz.prog 176 #[.agg #[.int .i64 base, .int .i64 cur, v], .int .i64 0] W (MadeL W base cur v ps) := by
 have HR := lH hrow; clear hrow; go_enter Tryz.func176, Tryz.ntmps176; go_wp2
 go_ret2
 exact ⟨W.heap.size + 1, by simp, line_new (HR.out.alloc _) base cur _ _ (by simp), ((Below.refl _ _).alloc (Nat.le_refl _) _).alloc (by simp) _, by omega⟩
theorem of_err_due (x : Value) (r : Int) (hr : r ≠ 0) (W : World) :
 Calls Tryz.prog 176 #[.agg #[.int .i64 0, .int .i64 0, .slice none 0 0], .int .i64 r] W fun e w' => e = .returned (.tuple #[.pointer none, .int .i64 r]) ∧ Below W.heap.size W w' := by
 have h1 : (r != 0) = true := by simp [hr]
 have h2 : (r == 0) = false := by simp [hr]
 go_enter Tryz.func176, Tryz.ntmps176; go_wp2
 go_ret2
 exact ⟨rfl, (Below.refl _ _).alloc (Nat.le_refl _) _⟩
theorem new_ok_due (base : Int) (W : World) (h : -1152921504606846976 ≤ base ∧ base ≤ 1152921504606846976) :
 Calls Tryz.prog 146 #[.int .i64 base] W (MadeL W base (-1) (.slice none 0 0) []) := by
 have h1 := newline_ok base W h; have h2 := fun W' => of_ok_due base (-1) (.slice none 0 0) [] W' (World.ownsRow_nil _ _ _ _); clear h; go_enter Tryz.func146, Tryz.ntmps146; go_wp2_with fail
 refine h1.mono ?_; rintro e w1 ⟨rfl, hb1⟩; go_wp2_with fail
 refine (h2 _).mono ?_; rintro e w2 ⟨b, rfl, hL, hb2, hlt⟩; have HL := lH hL; clear hL; go_wp2_with fail
 go_ret2
 exact ⟨b, rfl, HL.out, hb1.trans (hb2.mono hb1.size), by have := hb1.size; omega⟩
def qty (tag : Int) : TypeId := if tag = 0 then 235 else if tag = 1 then 239 else 242
def QIn (W : World) (qb : Nat) (F : Nat → Prop) (tag : Int) (l : Ln) : Prop :=
 ∃ lb v, W.cell? ⟨qb, 0, none⟩ = some (.iface (qty tag) (.pointer (some ⟨lb, 0, none⟩))) ∧ W.cell? ⟨qb, 1, none⟩ = some (.int .i64 tag) ∧ (∀ i, W.frozen? ⟨qb, i, none⟩ = false) ∧
  LineAt W lb v l ∧ F qb ∧ (∀ k, lfp lb v k → F k ∧ k ≠ qb) ∧ (tag = 0 ∨ tag = 1 ∨ tag = 2) ∧ ∀ k, F k → k < W.heap.size
theorem QIn.same {W W' : World} {qb : Nat} {F : Nat → Prop} {tag : Int} {l : Ln} (h : QIn W qb F tag l) (hs : W.heap.size ≤ W'.heap.size) (hb : ∀ k, F k → W'.heap[k]? = W.heap[k]?) : QIn W' qb F tag l := by
 obtain ⟨lb, v, h1, h2, h3, h4, h5, h6, h7, h8⟩ := h; have h0 : ∀ i, W'.cell? ⟨qb, i, none⟩ = W.cell? ⟨qb, i, none⟩ := fun i => World.cell?_of_block (hb qb h5); have h0' : ∀ i, W'.frozen? ⟨qb, i, none⟩ = W.frozen? ⟨qb, i, none⟩ := fun i => World.frozen?_of_block (hb qb h5); exact ⟨lb, v, (h0 0).trans h1, (h0 1).trans h2, fun i => (h0' i).trans (h3 i), h4.same (fun k hk => hb k (h6 k hk).1), h5, h6, h7, fun k hk => Nat.lt_of_lt_of_le (h8 k hk) hs⟩
theorem QIn.below {W W' : World} {qb : Nat} {F : Nat → Prop} {tag : Int} {l : Ln} (h : QIn W qb F tag l) (hb : Below W.heap.size W W') : QIn W' qb F tag l := by
 obtain ⟨lb, v, h1, h2, h3, h4, h5, h6, h7, h8⟩ := id h; exact h.same hb.size (fun k hk => hb.block k (h8 k hk))
theorem QIn.lt {W : World} {qb : Nat} {F : Nat → Prop} {tag : Int} {l : Ln} (h : QIn W qb F tag l) : ∀ k, F k → k < W.heap.size := by
 obtain ⟨lb, v, h1, h2, h3, h4, h5, h6, h7, h8⟩ := h; exact h8
theorem QIn.touch {W W' : World} {qb : Nat} {F G : Nat → Prop} {tag : Int} {l : Ln} (h : QIn W qb F tag l) (ht : Touch G W W') (hF : ∀ k, F k → ¬ G k) : QIn W' qb F tag l :=
 h.same ht.size (fun k hk => ht.block k (h.lt k hk) (hF k hk))
def MadeQ (W : World) (tag : Int) (l : Ln) (e : Ending) (w' : World) : Prop :=
 ∃ qb F, e = .returned (.tuple #[.pointer (some ⟨qb, 0, none⟩), .int .i64 0]) ∧ QIn w' qb F tag l ∧ Below W.heap.size W w' ∧ ∀ k, F k → W.heap.size ≤ k
theorem pof_ok (tag : Int) (ht : tag = 0 ∨ tag = 1 ∨ tag = 2) (lb : Nat) (v : Value) (l : Ln) (B : Nat) (W : World) (hL : LineAt W lb v l) (hB : ∀ k, lfp lb v k → B ≤ k) (hle : B ≤ W.heap.size) :
 Calls Tryz.prog 144 #[.int .i64 tag, .iface (qty tag) (.pointer (some ⟨lb, 0, none⟩)), .int .i64 0] W fun e w' =>
  ∃ qb F, e = .returned (.tuple #[.pointer (some ⟨qb, 0, none⟩), .int .i64 0]) ∧ QIn w' qb F tag l ∧ Below W.heap.size W w' ∧ ∀ k, F k → B ≤ k := by
 have HL := lH hL; have HT := lH ht; have HB := lH hB; obtain ⟨t, HQ⟩ : ∃ t, Hid (qty tag = t) := ⟨_, lH rfl⟩
 rw [HQ.out]; clear hL ht hB; go_enter Tryz.func144, Tryz.ntmps144; go_wp2
 go_ret2
 have hh := heap_alloc_new W (.cells #[.iface t (.pointer (some ⟨lb, 0, none⟩)), .int .i64 tag] 231); refine ⟨W.heap.size, fun k => k = W.heap.size ∨ lfp lb v k, rfl, ⟨lb, v, ?_, ?_, fun i => ?_, HL.out.alloc _, .inl rfl, fun k hk => ⟨.inr hk, ?_⟩, HT.out, ?_⟩, (Below.refl _ _).alloc (Nat.le_refl _) _, ?_⟩
 · rw [HQ.out]; simp only [World.cell?, hh]; rfl
 · simp only [World.cell?, hh]; rfl
 · simp only [World.frozen?, hh]; simp
 · have := HL.out.lt k hk; omega
 · intro k hk; rcases hk with rfl | hk
   · simp
   · have := HL.out.lt k hk; simp; omega
 · intro k hk; rcases hk with rfl | hk
   · exact hle
   · exact HB.out k hk
theorem pnew_stride (base : Int) (W : World) (h : -1152921504606846976 ≤ base ∧ base ≤ 1152921504606846976) :
 Calls Tryz.prog 96 #[.int .i64 0, .int .i64 base] W (MadeQ W 0 ⟨base, -1, []⟩) := by
 have h1 := new_ok_stride base W h; clear h; go_enter Tryz.func96, Tryz.ntmps96; go_wp2_with fail
 refine h1.mono ?_; rintro e w1 ⟨b, rfl, hL, hb1, hlt⟩; have hof := pof_ok 0 (by omega) b _ _ W.heap.size w1 hL (fun k hk => by rcases hk with rfl | hk; exact hlt; simp [Value.ownBlock] at hk) hb1.size; have HB := lH hb1; clear hL hb1; go_wp2_with fail
 refine hof.mono ?_; rintro e w2 ⟨qb, F, rfl, hQ, hb2, hF⟩; have HQ := lH hQ; have HF := lH hF; clear hQ hF; go_wp2_with fail
 go_ret2
 exact ⟨qb, F, rfl, HQ.out, HB.out.trans (hb2.mono HB.out.size), HF.out⟩
theorem pnew_fair (base : Int) (W : World) (h : -1152921504606846976 ≤ base ∧ base ≤ 1152921504606846976) :
 Calls Tryz.prog 96 #[.int .i64 1, .int .i64 base] W (MadeQ W 1 ⟨base, -1, []⟩) := by
 have h1 := new_ok_fair base W h; clear h; go_enter Tryz.func96, Tryz.ntmps96; go_wp2_with fail
 refine h1.mono ?_; rintro e w1 ⟨b, rfl, hL, hb1, hlt⟩; have hof := pof_ok 1 (by omega) b _ _ W.heap.size w1 hL (fun k hk => by rcases hk with rfl | hk; exact hlt; simp [Value.ownBlock] at hk) hb1.size; have HB := lH hb1; clear hL hb1; go_wp2_with fail
 refine hof.mono ?_; rintro e w2 ⟨qb, F, rfl, hQ, hb2, hF⟩; have HQ := lH hQ; have HF := lH hF; clear hQ hF; go_wp2_with fail
 go_ret2
 exact ⟨qb, F, rfl, HQ.out, HB.out.trans (hb2.mono HB.out.size), HF.out⟩
theorem pnew_due (base : Int) (W : World) (h : -1152921504606846976 ≤ base ∧ base ≤ 1152921504606846976) :
 Calls Tryz.prog 96 #[.int .i64 2, .int .i64 base] W (MadeQ W 2 ⟨base, -1, []⟩) := by
 have h1 := new_ok_due base W h; clear h; go_enter Tryz.func96, Tryz.ntmps96; go_wp2_with fail
 refine h1.mono ?_; rintro e w1 ⟨b, rfl, hL, hb1, hlt⟩; have hof := pof_ok 2 (by omega) b _ _ W.heap.size w1 hL (fun k hk => by rcases hk with rfl | hk; exact hlt; simp [Value.ownBlock] at hk) hb1.size; have HB := lH hb1; clear hL hb1; go_wp2_with fail
 refine hof.mono ?_; rintro e w2 ⟨qb, F, rfl, hQ, hb2, hF⟩; have HQ := lH hQ; have HF := lH hF; clear hQ hF; go_wp2_with fail
 go_ret2
 exact ⟨qb, F, rfl, HQ.out, HB.out.trans (hb2.mono HB.out.size), HF.out⟩
theorem pnew_any (tag base : Int) (W : World) (ht : tag = 0 ∨ tag = 1 ∨ tag = 2) (h : -1152921504606846976 ≤ base ∧ base ≤ 1152921504606846976) :
 Calls Tryz.prog 96 #[.int .i64 tag, .int .i64 base] W (MadeQ W tag ⟨base, -1, []⟩) := by
 rcases ht with rfl | rfl | rfl
 · exact pnew_stride base W h
 · exact pnew_fair base W h
 · exact pnew_due base W h
theorem pnew_bad (tag base : Int) (W : World) (h0 : tag ≠ 0) (h1 : tag ≠ 1) (h2 : tag ≠ 2) :
 Calls Tryz.prog 96 #[.int .i64 tag, .int .i64 base] W fun e w' => e = .returned (.tuple #[.pointer none, .int .i64 1]) ∧ W = w' := by
 have g0 : (tag == 0) = false := by simp [h0]
 have g1 : (tag == 1) = false := by simp [h1]
 have g2 : (tag == 2) = false := by simp [h2]
 go_enter Tryz.func96, Tryz.ntmps96; go_wp2
 go_ret2
 exact ⟨rfl, rfl⟩
theorem put_err (b : Nat) (v : Value) (l : Ln) (id w lag : Int) (W : World) (h : LineAt W b v l) (hm : mayE l id w lag ≠ 0) :
 Calls Tryz.prog 269 #[.pointer (some ⟨b, 0, none⟩), .int .i64 id, .int .i64 w, .int .i64 lag] W fun e w' => e = .returned (.int .i64 (mayE l id w lag)) ∧ Below W.heap.size W w' := by
 have hmay := may_any b v l id w lag W h; generalize mayE l id w lag = r at hm hmay ⊢; have hr : (r != 0) = true := by simp [hm]
 have hr2 : (r == 0) = false := by simp [hm]
 go_enter Tryz.func269, Tryz.ntmps269; go_wp2_with fail
 refine hmay.mono ?_; rintro e w' ⟨rfl, hb⟩; go_wp2
 go_ret
 exact ⟨rfl, hb⟩
theorem take_some (b : Nat) (v : Value) (l : Ln) (p : Pt) (W : World) (h : LineAt W b v l) :
 Calls Tryz.prog 273 #[.pointer (some ⟨b, 0, none⟩), .agg p.cells.toArray, .bool true] W fun e w' => e = .returned (.tuple #[.int .i64 p.id, .bool true]) ∧ LineAt w' b v ⟨l.base, p.id, l.ps⟩ ∧ Touch (fun k => k = b) W w' := by
 have hlt := h.lt b (.inl rfl); have c1 := h.cur; have f1 := h.live 1; have HL := lH h; clear h; obtain ⟨i, ww, pv, day⟩ := p; simp only [Pt.cells]; go_enter Tryz.func273, Tryz.ntmps273; go_wp2
 go_ret2
 exact ⟨rfl, ((HL.out.setCur (-1)).setCur i).alloc _, ((touch1 _ _ _ _).self (touch1 _ _ _ _)).alloc _⟩
theorem take_none (b : Nat) (v : Value) (l : Ln) (p : Pt) (W : World) (h : LineAt W b v l) :
 Calls Tryz.prog 273 #[.pointer (some ⟨b, 0, none⟩), .agg p.cells.toArray, .bool false] W fun e w' => e = .returned (.tuple #[.int .i64 0, .bool false]) ∧ LineAt w' b v ⟨l.base, -1, l.ps⟩ ∧ Touch (fun k => k = b) W w' := by
 have hlt := h.lt b (.inl rfl); have c1 := h.cur; have f1 := h.live 1; have HL := lH h; clear h; obtain ⟨i, ww, pv, day⟩ := p; simp only [Pt.cells]; go_enter Tryz.func273, Tryz.ntmps273; go_wp2
 go_ret2
 exact ⟨rfl, (HL.out.setCur (-1)).alloc _, (touch1 _ _ _ _).alloc _⟩
end Go.Proofs.YtoiajjobecinpaaGreat
