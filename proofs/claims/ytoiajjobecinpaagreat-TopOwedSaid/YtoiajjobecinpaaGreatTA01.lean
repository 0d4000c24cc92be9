/- What a call leaves as it was: all blocks but those of a set, and new ones. Points in memory: a line's row. Weights: whic -/
import Derived.Test.YtoiajjobecinpaaGreatRows
import Derived.WalkKit
import Derived.ProofKit
import Derived.Below
import Derived.Laws.AppendOwn
import Derived.Lib.SlBy
import Derived.Shelf.SlicesQ.IndexFunc
import Derived.Ground.SlgfProg
import Derived.Deep.QuietTactic
import Derived.BigQuiet
import Derived.Deep.DeepCutAuto
import Derived.Deep.RegionHeld3
import Derived.Test.YtoiajjobecinpaaGreatTA00
set_option maxHeartbeats 4000000
namespace Go.Proofs.YtoiajjobecinpaaGreat
set_option linter.unusedVariables false
set_option linter.unusedSimpArgs false
open Go.RowKit
structure Touch (F : Nat → Prop) (W W' : World) : Prop where
 os : W'.os = W.os
 tape : W'.tape = W.tape
 output : W'.output = W.output
 size : W.heap.size ≤ W'.heap.size
 block : ∀ k, k < W.heap.size → ¬ F k → W'.heap[k]? = W.heap[k]?
theorem Touch.refl (F : Nat → Prop) (W : World) : Touch F W W := ⟨rfl, rfl, rfl, Nat.le_refl _, fun _ _ _ => rfl⟩
def Grows (B : Nat) (F G : Nat → Prop) : Prop := ∀ k, G k → F k ∨ B ≤ k
theorem Grows.refl (B : Nat) (F : Nat → Prop) : Grows B F F := fun _ h => .inl h
theorem Touch.trans {F G : Nat → Prop} {a b c : World} (h : Touch F a b) (hg : Grows a.heap.size F G) (k : Touch G b c) : Touch F a c :=
 ⟨k.os.trans h.os, k.tape.trans h.tape, k.output.trans h.output, Nat.le_trans h.size k.size, fun i hi hf =>
  (k.block i (Nat.lt_of_lt_of_le hi h.size) (fun g => (hg i g).elim hf (fun e => by omega))).trans (h.block i hi hf)⟩
theorem Grows.trans {B C : Nat} {F G H : Nat → Prop} (h : Grows B F G) (hBC : B ≤ C) (k : Grows C G H) : Grows B F H := fun i hi =>
 (k i hi).elim (fun g => h i g) (fun e => .inr (by omega))
theorem Touch.wider {F G : Nat → Prop} {a b : World} (h : Touch F a b) (hs : ∀ k, F k → G k) : Touch G a b :=
 ⟨h.os, h.tape, h.output, h.size, fun k hk hg => h.block k hk (fun f => hg (hs k f))⟩
theorem Touch.of_below {F : Nat → Prop} {a b : World} (h : Below a.heap.size a b) : Touch F a b :=
 ⟨h.os, h.tape, h.output, h.size, fun k hk _ => h.block k hk⟩
theorem Touch.below {B : Nat} {F : Nat → Prop} {a b : World} (h : Touch F a b) (hB : B ≤ a.heap.size) (hF : ∀ k, F k → B ≤ k) : Below B a b :=
 ⟨h.os, h.tape, h.output, h.size, fun k hk => h.block k (by omega) (fun f => by have := hF k f; omega)⟩
theorem Touch.alloc {F : Nat → Prop} {a b : World} (h : Touch F a b) (o : Obj) : Touch F a (b.alloc o) :=
 ⟨h.os, h.tape, h.output, by simp; exact Nat.le_succ_of_le h.size, fun k hk hf => (Below.heap_alloc _ _ _ (Nat.lt_of_lt_of_le hk h.size)).trans (h.block k hk hf)⟩
theorem Touch.drew {F : Nat → Prop} {a b : World} (h : Touch F a b) : Touch F a b.drew := ⟨h.os, h.tape, h.output, h.size, h.block⟩
theorem Touch.setCell {F : Nat → Prop} {a b : World} (h : Touch F a b) {c i : Nat} {t : Option Nat} (hc : F c ∨ a.heap.size ≤ c) (v : Value) : Touch F a (b.setCell ⟨c, i, none⟩ v) := by
 refine ⟨h.os, h.tape, h.output, by simpa using h.size, fun k hk hf => ?_⟩; have hne : k ≠ c := by
  rintro rfl; rcases hc with hc | hc
  · exact hf hc
  · omega
 rw [Below.heap_setCell _ _ _ _ hne]; exact h.block k hk hf
end Go.Proofs.YtoiajjobecinpaaGreat
namespace Go.Proofs.YtoiajjobecinpaaGreat
set_option linter.unusedVariables false
set_option linter.unusedSimpArgs false
open Go.RowKit
structure Pt where
 id : Int
 w : Int
 v : Int
 day : Int
deriving DecidableEq, Inhabited
def Pt.cells (p : Pt) : List Value := [.int .i64 p.id, .int .i64 p.w, .int .i64 p.v, .int .i64 p.day]
def Pt.val (p : Pt) : Value := .agg p.cells.toArray
def flatP : List Pt → List Value
 | [] => []
 | p :: l => p.cells ++ flatP l
theorem flatP_length (l : List Pt) : (flatP l).length = l.length * 4 := by
 induction l with
 | nil => rfl
 | cons p l ih => simp [flatP, Pt.cells, ih]; omega
theorem flatP_append (a b : List Pt) : flatP (a ++ b) = flatP a ++ flatP b := by
 induction a with
 | nil => rfl
 | cons p l ih => simp [flatP, ih]
end Go.Proofs.YtoiajjobecinpaaGreat
namespace Go.Proofs.YtoiajjobecinpaaGreat
open Go.RowKit
set_option linter.unusedVariables false
set_option linter.unusedSimpArgs false
def goodW (w : Int) : Bool := decide (1 ≤ w) && decide (w ≤ 20)
theorem wgood_any (x : Int) (w : World) :
 Calls Tryz.prog 94 #[.int .i64 x] w fun e w' => e = .returned (.bool (goodW x)) ∧ w = w' := by
 unfold goodW; by_cases h1 : 1 ≤ x
 · by_cases h2 : x ≤ 20
   · rw [decide_eq_true h1, decide_eq_true h2]; go_enter Tryz.func94, Tryz.ntmps94; go_wp2
     go_ret
     exact ⟨rfl, rfl⟩
   · rw [decide_eq_true h1, decide_eq_false h2]; go_enter Tryz.func94, Tryz.ntmps94; go_wp2
     go_ret
     exact ⟨rfl, rfl⟩
 · rw [decide_eq_false h1]; go_enter Tryz.func94, Tryz.ntmps94; go_wp2
   go_ret
   exact ⟨rfl, rfl⟩
def stepI (x : Int) : Int := if goodW x = true then Int.tdiv 232792560 x else 0
end Go.Proofs.YtoiajjobecinpaaGreat
namespace Go.Proofs.YtoiajjobecinpaaGreat
set_option linter.unusedSimpArgs false
open Go.RowKit
set_option linter.unusedVariables false
structure Ln where
 base : Int
 cur : Int
 ps : List Pt
deriving Inhabited
def dayP (p : Pt) : Pt := ⟨p.id, p.w, p.v, p.v + 4 * stepI p.w⟩
def posP (ps : List Pt) (id : Int) : Int := Lib.idxBy (fun _ y => decide (y.id = id)) ps default
def lowP (m q : Pt) : Pt := if q.v < m.v then q else m
def minP : List Pt → Pt
 | [] => default
 | p :: l => l.foldl lowP p
def growB (base : Int) : List Pt → Int
 | [] => base
 | p :: l => if base < (minP (p :: l)).v then (minP (p :: l)).v else base
def insP (p : Pt) : List Pt → List Pt
 | [] => [p]
 | q :: l => if p.id < q.id then p :: q :: l else q :: insP p l
def mayI (id w lag : Int) : Bool := decide (0 ≤ id) && (decide (id ≤ 1073741824) && (goodW w && (decide (-1125899906842624 ≤ lag) && decide (lag ≤ 1125899906842624))))
def mayE (l : Ln) (id w lag : Int) : Int := if mayI id w lag = true then (if 0 ≤ posP l.ps id then 4 else if l.ps.length = 64 then 3 else 0) else 1
def putL (l : Ln) (id w lag : Int) : Ln :=
 let ps := insP (dayP ⟨id, w, l.base - lag, 0⟩) l.ps
 ⟨growB l.base ps, l.cur, ps⟩
structure Ln.ok (l : Ln) : Prop where
 base : -2305843009213693952 ≤ l.base ∧ l.base ≤ 2305843009213693952
 cur : -1 ≤ l.cur ∧ l.cur ≤ 1073741824
 len : l.ps.length ≤ 64
 pt : ∀ p ∈ l.ps, (0 ≤ p.id ∧ p.id ≤ 1073741824) ∧ (1 ≤ p.w ∧ p.w ≤ 20) ∧ (-2305843009213693952 ≤ p.v ∧ p.v ≤ 2305843009213693952) ∧ (-4611686018427387904 ≤ p.day ∧ p.day ≤ 4611686018427387904)
theorem stepI_le (x : Int) : 0 ≤ stepI x ∧ stepI x ≤ 232792560 := by
 unfold stepI goodW; split
 · rename_i h; simp only [Bool.and_eq_true, decide_eq_true_eq] at h; obtain ⟨h1, h2⟩ := h; constructor
   · exact Int.tdiv_nonneg (by omega) (by omega)
   · rw [Int.tdiv_eq_ediv_of_nonneg (by omega)]; exact Int.ediv_le_self _ (by omega)
 · omega
theorem posP_cases (ps : List Pt) (id : Int) :
 (posP ps id = -1 ∧ ∀ p ∈ ps, p.id ≠ id) ∨ ∃ k, ∃ h : k < ps.length, posP ps id = (k : Int) ∧ ps[k].id = id ∧ ∀ j (hj : j < k), ps[j].id ≠ id := by
 unfold posP Lib.idxBy; have gen : ∀ (ps : List Pt) (i : Nat), (Lib.idxByFrom (fun _ y => decide (y.id = id)) default ps i = -1 ∧ ∀ p ∈ ps, p.id ≠ id) ∨
  ∃ k, ∃ h : k < ps.length, Lib.idxByFrom (fun _ y => decide (y.id = id)) default ps i = ((i + k : Nat) : Int) ∧ ps[k].id = id ∧ ∀ j (hj : j < k), ps[j].id ≠ id := by
  intro ps; induction ps with
  | nil => intro i; exact .inl ⟨rfl, by simp⟩
  | cons p l ih =>
   intro i; by_cases e : p.id = id
   · exact .inr ⟨0, by simp, by simp [Lib.idxByFrom, e], e, fun j hj => absurd hj (Nat.not_lt_zero _)⟩
   · have hstep : Lib.idxByFrom (fun _ (y : Pt) => decide (y.id = id)) default (p :: l) i = Lib.idxByFrom (fun _ y => decide (y.id = id)) default l (i + 1) := by simp [Lib.idxByFrom, e]
     rcases ih (i + 1) with ⟨h1, h2⟩ | ⟨k, hk, h1, h2, h3⟩
     · refine .inl ⟨hstep.trans h1, ?_⟩; intro q hq; rcases List.mem_cons.1 hq with rfl | hq
       · exact e
       · exact h2 q hq
     · refine .inr ⟨k + 1, by simpa using hk, hstep.trans (h1.trans (by congr 1; omega)), by simpa using h2, ?_⟩; intro j hj; cases j with
       | zero => simpa using e
       | succ j => simpa using h3 j (by omega)
 rcases gen ps 0 with h | ⟨k, hk, h1, h2⟩
 · exact .inl h
 · exact .inr ⟨k, hk, h1.trans (by congr 1; omega), h2⟩
end Go.Proofs.YtoiajjobecinpaaGreat
namespace Go.Proofs.YtoiajjobecinpaaGreat
open Go.RowKit Go.Shelf Go.Lib Go.Proofs
set_option linter.unusedVariables false
set_option linter.unusedSimpArgs false
structure LineAt (W : World) (b : Nat) (v : Value) (l : Ln) : Prop where
 base : W.cell? ⟨b, 0, none⟩ = some (.int .i64 l.base)
 cur : W.cell? ⟨b, 1, none⟩ = some (.int .i64 l.cur)
 sl : W.cell? ⟨b, 2, none⟩ = some v
 live : ∀ i, W.frozen? ⟨b, i, none⟩ = false
 row : W.ownsRow 0 338 4 v l.ps.length (flatP l.ps)
 ne : v.ownBlock ≠ some b
def lfp (b : Nat) (v : Value) (k : Nat) : Prop := k = b ∨ v.ownBlock = some k
theorem LineAt.lt {W : World} {b : Nat} {v : Value} {l : Ln} (h : LineAt W b v l) : ∀ k, lfp b v k → k < W.heap.size := by
 intro k hk; rcases hk with rfl | hk
 · exact World.block_lt_of_cell? W _ h.base
 · exact (h.row.lt k hk).2
theorem ownsRow_same {W W' : World} {base : Nat} {e : TypeId} {size : Nat} {v : Value} {n : Nat} {xs : List Value} (h : W.ownsRow base e size v n xs)
 (hb : ∀ k, v.ownBlock = some k → W'.heap[k]? = W.heap[k]?) : W'.ownsRow base e size v n xs := by
 refine ⟨h.1, ?_⟩; rcases h.2 with hn | ⟨g, cap, cur, rfl, hb', hgg, rest⟩
 · exact .inl hn
 · exact .inr ⟨g, cap, cur, rfl, hb', (hb g rfl).trans hgg, rest⟩
theorem LineAt.same {W W' : World} {b : Nat} {v : Value} {l : Ln} (h : LineAt W b v l) (hb : ∀ k, lfp b v k → W'.heap[k]? = W.heap[k]?) : LineAt W' b v l := by
 have h0 : ∀ i, W'.cell? ⟨b, i, none⟩ = W.cell? ⟨b, i, none⟩ := fun i => World.cell?_of_block (hb b (.inl rfl)); have h1 : ∀ i, W'.frozen? ⟨b, i, none⟩ = W.frozen? ⟨b, i, none⟩ := fun i => World.frozen?_of_block (hb b (.inl rfl)); exact ⟨(h0 0).trans h.base, (h0 1).trans h.cur, (h0 2).trans h.sl, fun i => (h1 i).trans (h.live i), ownsRow_same h.row (fun k hk => hb k (.inr hk)), h.ne⟩
theorem LineAt.touch {W W' : World} {b : Nat} {v : Value} {l : Ln} {F : Nat → Prop} (h : LineAt W b v l) (ht : Touch F W W') (hF : ∀ k, lfp b v k → ¬ F k) : LineAt W' b v l :=
 h.same (fun k hk => ht.block k (h.lt k hk) (hF k hk))
theorem LineAt.below {W W' : World} {b : Nat} {v : Value} {l : Ln} (h : LineAt W b v l) (hb : Below W.heap.size W W') : LineAt W' b v l :=
 h.same (fun k hk => hb.block k (h.lt k hk))
theorem flatP_get (ps : List Pt) : ∀ k i v, k < ps.length → (ps[k]!).cells[i]? = some v → (flatP ps)[k * 4 + i]? = some v := by
 induction ps with
 | nil => intro k i v h; simp at h
 | cons p l ih =>
  intro k i v h hv; cases k with
  | zero =>
   have hi : i < p.cells.length := (List.getElem?_eq_some_iff.1 hv).1; rw [show 0 * 4 + i = i from by omega]; rw [flatP, List.getElem?_append_left hi]; simpa using hv
  | succ k =>
   rw [flatP, List.getElem?_append_right (by simp [Pt.cells]; omega)]; have := ih k i v (by simpa using h) (by simpa using hv); rw [show (k + 1) * 4 + i - p.cells.length = k * 4 + i from by simp [Pt.cells]; omega]; exact this
theorem ownsRow_cell {W : World} {g n c : Nat} {ps : List Pt} (h : W.ownsRow 0 338 4 (.slice (some ⟨g, 0, none⟩) n c) ps.length (flatP ps)) :
 ∀ j, j < ps.length → ∀ i v, (ps[j]!).cells[i]? = some v → W.cell? ⟨g, 0 + j * 4 + i, none⟩ = some v := by
 intro j hj i v hv; have := h.cells (g := g) rfl _ _ (flatP_get ps j i v hj hv); rw [Nat.zero_add]; simpa [Addr.add_lit] using this
theorem indexfunc_nil (g : Nat) (lb : Array Value) (W : World) :
 Calls Tryz.prog 284 #[.slice none 0 0, .func (.func g) #[] lb] W fun e w' => e = .returned (.int .i64 (-1)) ∧ W = w' := by
 go_enter Tryz.func284, Tryz.ntmps284; go_wp2
 go_loop [5, 8] (fun _ i => i = .int .i64 0) (fun _ i => 0)
 case atStart => rfl
 case round =>
  subst hrel; go_wp2
  go_ret
  exact ⟨rfl, rfl⟩
def cmpI (x y : Int) : Int := if x < y then -1 else if y < x then 1 else 0
theorem cmp283 (x y : Int) (W : World) : Calls Tryz.prog 283 #[.int .i64 x, .int .i64 y] W fun e w' => e = .returned (.int .i64 (cmpI x y)) ∧ W = w' := by
 unfold cmpI; go_enter Tryz.func283, Tryz.ntmps283; go_wp2
 all_goals (go_ret; exact ⟨by simp_all, rfl⟩)
theorem cmp282 (p q : Pt) (W : World) : Calls Tryz.prog 282 #[.agg p.cells.toArray, .agg q.cells.toArray] W fun e w' => e = .returned (.int .i64 (cmpI p.v q.v)) ∧ Below W.heap.size W w' := by
 have hcon := fun W' => cmp283 p.v q.v W'; generalize cmpI p.v q.v = r at hcon ⊢; obtain ⟨i, ww, v, day⟩ := p; obtain ⟨i2, ww2, v2, day2⟩ := q; show Calls Tryz.prog 282 #[.agg #[.int .i64 i, .int .i64 ww, .int .i64 v, .int .i64 day], .agg #[.int .i64 i2, .int .i64 ww2, .int .i64 v2, .int .i64 day2]] W _; go_enter Tryz.func282, Tryz.ntmps282; go_wp2_with fail
 refine (hcon _).mono ?_; rintro e w' ⟨rfl, rfl⟩; go_wp2
 go_ret
 exact ⟨rfl, ((Below.refl _ _).alloc (Nat.le_refl _) _).alloc (by simp) _⟩
theorem row_cells {W : World} {g n c : Nat} {ps : List Pt} (h : W.ownsRow 0 338 4 (.slice (some ⟨g, 0, none⟩) n c) ps.length (flatP ps)) (j : Nat) (hj : j < ps.length) (p : Pt) (hp : ps[j]! = p) :
 W.cell? ⟨g, j * 4, none⟩ = some (.int .i64 p.id) ∧ W.cell? ⟨g, j * 4 + 1, none⟩ = some (.int .i64 p.w) ∧ W.cell? ⟨g, j * 4 + 2, none⟩ = some (.int .i64 p.v) ∧ W.cell? ⟨g, j * 4 + 3, none⟩ = some (.int .i64 p.day) := by
 subst hp; have key : ∀ i v, (ps[j]!).cells[i]? = some v → W.cell? ⟨g, j * 4 + i, none⟩ = some v := fun i v hi => by
  have := h.cells (g := g) rfl _ _ (flatP_get ps j i v hj hi); simpa [Addr.add_lit] using this
 exact ⟨key 0 _ rfl, key 1 _ rfl, key 2 _ rfl, key 3 _ rfl⟩
theorem row_cells0 {W : World} {g n c : Nat} {ps : List Pt} (h : W.ownsRow 0 338 4 (.slice (some ⟨g, 0, none⟩) n c) ps.length (flatP ps)) (hj : 0 < ps.length) (p : Pt) (hp : ps[0]! = p) :
 W.cell? ⟨g, 0, none⟩ = some (.int .i64 p.id) ∧ W.cell? ⟨g, 1, none⟩ = some (.int .i64 p.w) ∧ W.cell? ⟨g, 2, none⟩ = some (.int .i64 p.v) ∧ W.cell? ⟨g, 3, none⟩ = some (.int .i64 p.day) := by
 have := row_cells h 0 hj p hp; simpa using this
def BoxAt (W : World) (B : Nat) (p : Pt) : Prop := W.heap[B]? = some (.cells p.cells.toArray 338 (0, 0))
theorem BoxAt.cells {W : World} {B : Nat} {p : Pt} (h : BoxAt W B p) :
 W.cell? ⟨B, 0, none⟩ = some (.int .i64 p.id) ∧ W.cell? ⟨B, 1, none⟩ = some (.int .i64 p.w) ∧ W.cell? ⟨B, 2, none⟩ = some (.int .i64 p.v) ∧ W.cell? ⟨B, 3, none⟩ = some (.int .i64 p.day) := by
 unfold BoxAt at h; refine ⟨?_, ?_, ?_, ?_⟩ <;> simp [World.cell?, h, Pt.cells]
theorem BoxAt.frozen {W : World} {B : Nat} {p : Pt} (h : BoxAt W B p) (i : Nat) : W.frozen? ⟨B, i, none⟩ = false := by
 unfold BoxAt at h; simp [World.frozen?, h]
theorem BoxAt.lt {W : World} {B : Nat} {p : Pt} (h : BoxAt W B p) : B < W.heap.size := (Array.getElem?_eq_some_iff.1 h).1
theorem BoxAt.below {W W' : World} {B C : Nat} {p : Pt} (h : BoxAt W B p) (hb : Below C W W') (hc : B < C) : BoxAt W' B p := (hb.block B hc).trans h
theorem BoxAt.store4 {W : World} {B : Nat} {p : Pt} (h : BoxAt W B p) (q : Pt) :
 BoxAt ((((W.setCell ⟨B, 0, none⟩ (.int .i64 q.id)).setCell ⟨B, 1, none⟩ (.int .i64 q.w)).setCell ⟨B, 2, none⟩ (.int .i64 q.v)).setCell ⟨B, 3, none⟩ (.int .i64 q.day)) B q := by
 unfold BoxAt at h ⊢; simp [World.setCell, Array.getElem?_modify, h, Pt.cells]
theorem BoxAt.other4 {W : World} {B C : Nat} {p : Pt} (h : BoxAt W B p) (hne : B ≠ C) (q : Pt) :
 BoxAt ((((W.setCell ⟨C, 0, none⟩ (.int .i64 q.id)).setCell ⟨C, 1, none⟩ (.int .i64 q.w)).setCell ⟨C, 2, none⟩ (.int .i64 q.v)).setCell ⟨C, 3, none⟩ (.int .i64 q.day)) B p := by
 unfold BoxAt at h ⊢; rw [Below.heap_setCell _ _ _ _ hne, Below.heap_setCell _ _ _ _ hne, Below.heap_setCell _ _ _ _ hne, Below.heap_setCell _ _ _ _ hne]; exact h
theorem min_first {ps : List Pt} {n : Nat} {p : Pt} (h : ps.length = n) (hn : 0 < n) (hp : ps[0]! = p) : minP (ps.take 1) = p := by
 cases ps with
 | nil => simp at h; omega
 | cons q l => simpa [minP] using hp
theorem min_next {ps : List Pt} {k : Nat} {p m : Pt} (h1 : 1 ≤ k) (hk : k < ps.length) (hp : ps[k]! = p) (hm : minP (ps.take k) = m) : minP (ps.take (k + 1)) = lowP m p := by
 cases ps with
 | nil => simp at hk
 | cons q l =>
  cases k with
  | zero => omega
  | succ k =>
   have hk' : k < l.length := by simpa using hk
   have hp' : l[k] = p := by rw [List.getElem!_cons_succ] at hp; rwa [getElem!_pos l k hk'] at hp
   simp only [List.take_succ_cons, minP] at hm ⊢; rw [List.take_succ_eq_append_getElem hk', List.foldl_append, hm, hp']; rfl
def RowAt (W : World) (g k : Nat) (p : Pt) : Prop :=
 W.cell? ⟨g, k * 4, none⟩ = some (.int .i64 p.id) ∧ W.cell? ⟨g, k * 4 + 1, none⟩ = some (.int .i64 p.w) ∧ W.cell? ⟨g, k * 4 + 2, none⟩ = some (.int .i64 p.v) ∧ W.cell? ⟨g, k * 4 + 3, none⟩ = some (.int .i64 p.day)
abbrev MinC (W W0 : World) (g k : Nat) (p m : Pt) : Prop :=
 (W.cell? ⟨g, k * 4, none⟩ = some (.int .i64 p.id) ∧ W.cell? ⟨g, k * 4 + 1, none⟩ = some (.int .i64 p.w) ∧ W.cell? ⟨g, k * 4 + 2, none⟩ = some (.int .i64 p.v) ∧ W.cell? ⟨g, k * 4 + 3, none⟩ = some (.int .i64 p.day)) ∧
 W.cell? ⟨W0.heap.size + 1, 0, none⟩ = some (.int .i64 m.id) ∧ W.cell? ⟨W0.heap.size + 1, 1, none⟩ = some (.int .i64 m.w) ∧ W.cell? ⟨W0.heap.size + 1, 2, none⟩ = some (.int .i64 m.v) ∧ W.cell? ⟨W0.heap.size + 1, 3, none⟩ = some (.int .i64 m.day)
def MinS (W0 W : World) (g k : Nat) (p m : Pt) : Prop :=
 RowAt W g k p ∧ Below W0.heap.size W0 W ∧ BoxAt W W0.heap.size ⟨0, 0, 0, 0⟩ ∧ BoxAt W (W0.heap.size + 1) m
theorem MinS.cells {W0 W : World} {g k : Nat} {p m : Pt} (h : MinS W0 W g k p m) : MinC W W0 g k p m := ⟨h.1, h.2.2.2.cells⟩
theorem MinS.below {W0 W W' : World} {g k : Nat} {p m : Pt} (h : MinS W0 W g k p m) (hb : Below W.heap.size W W') (hg : g < W0.heap.size) : MinS W0 W' g k p m := by
 obtain ⟨⟨c0, c1, c2, c3⟩, h1, h2, h3⟩ := h; have hs := h1.size; have hc : ∀ i, W'.cell? ⟨g, i, none⟩ = W.cell? ⟨g, i, none⟩ := fun i => hb.cell (p := ⟨g, i, none⟩) (by show g < W.heap.size; omega); exact ⟨⟨(hc _).trans c0, (hc _).trans c1, (hc _).trans c2, (hc _).trans c3⟩, h1.trans (hb.mono hs), h2.below hb h2.lt, h3.below hb h3.lt⟩
theorem minfunc_any (g cap : Nat) (ps : List Pt) (W : World) (h : W.ownsRow 0 338 4 (.slice (some ⟨g, 0, none⟩) ps.length cap) ps.length (flatP ps)) (hn : 0 < ps.length) (hm : ps.length ≤ 64) :
 Calls Tryz.prog 281 #[.slice (some ⟨g, 0, none⟩) ps.length cap, .func (.func 282) #[] #[]] W fun e w' => e = .returned (.agg (minP ps).cells.toArray) ∧ Below W.heap.size W w' := by
 obtain ⟨p0, hp0⟩ : ∃ p0, ps[0]! = p0 := ⟨_, rfl⟩
 obtain ⟨c0, c1, c2, c3⟩ := row_cells0 h hn p0 hp0; have hg := (h.lt g rfl).2; have hn1 : ¬ (ps.length : Int) < 1 := by omega
 obtain ⟨n, HN⟩ : ∃ n, Hid (ps.length = n) := ⟨_, lH rfl⟩
 have HW := lH h; have HP := lH hp0; clear h hp0; rw [HN.out] at hn hm hn1 ⊢; obtain ⟨i, ww, v, day⟩ := p0; simp only at c0 c1 c2 c3; go_enter Tryz.func281, Tryz.ntmps281; go_wp2
 go_loopw [6] (fun x wr => ∃ k : Nat, 1 ≤ k ∧ k ≤ n ∧ x = .int .i64 k ∧ Hid (Below W.heap.size W wr ∧ BoxAt wr W.heap.size ⟨0, 0, 0, 0⟩ ∧ BoxAt wr (W.heap.size + 1) (minP (ps.take k)))) (fun x _ => n - (intOf x).toNat)
 case atStart =>
  refine ⟨1, Nat.le_refl _, hn, rfl, lH ⟨((Below.refl _ _).alloc (Nat.le_refl _) _).alloc (by simp) _, ?_, ?_⟩⟩
  · unfold BoxAt; rw [Below.heap_alloc _ _ _ (by simp)]; exact heap_alloc_new W _
  · rw [min_first HN.out hn HP.out]; unfold BoxAt; have := heap_alloc_new (W.alloc (Obj.cells #[Value.int IntKind.i64 0, Value.int IntKind.i64 0, Value.int IntKind.i64 0, Value.int IntKind.i64 0] 338)) (Obj.cells #[Value.int IntKind.i64 i, Value.int IntKind.i64 ww, Value.int IntKind.i64 v, Value.int IntKind.i64 day] 338); simpa [Pt.cells] using this
 case round =>
  obtain ⟨k, hk1, hk2, rfl, HR⟩ := hrel; clear c0 c1 c2 c3 hn1; obtain ⟨R1, R2, R3⟩ := HR.out; have hs := R3.lt; obtain ⟨m, hmm⟩ : ∃ m, minP (ps.take k) = m := ⟨_, rfl⟩
  rw [hmm] at R3; have HM := lH hmm; clear hmm; by_cases hkn : k < n
  · obtain ⟨p, hp⟩ : ∃ p, ps[k]! = p := ⟨_, rfl⟩
    have hrow' : wr.ownsRow 0 338 4 (.slice (some ⟨g, 0, none⟩) ps.length cap) ps.length (flatP ps) := ownsRow_same HW.out (fun j hj => by simp [Value.ownBlock] at hj; subst hj; exact R1.block g hg); obtain ⟨c0, c1, c2, c3⟩ := row_cells hrow' k (by rw [HN.out]; exact hkn) p hp; have HP := lH hp; clear hp hrow'; obtain ⟨d0, d1, d2, d3⟩ := R3.cells; have hcon := fun W' => cmp282 p m W'; obtain ⟨r, hr⟩ : ∃ r, cmpI p.v m.v = r := ⟨_, rfl⟩
    rw [hr] at hcon; have HC := lH hr; clear hr; obtain ⟨i1, ww1, v1, day1⟩ := p; obtain ⟨i2, ww2, v2, day2⟩ := m; simp only [Pt.cells] at c0 c1 c2 c3 d0 d1 d2 d3 hcon; have hgb : g ≠ W.heap.size + 1 := by omega
    have hq : Below W.heap.size W wr ∧ BoxAt wr W.heap.size ⟨0, 0, 0, 0⟩ ∧ BoxAt wr (W.heap.size + 1) ⟨i2, ww2, v2, day2⟩ := ⟨R1, R2, R3⟩
    have HW' := lH (⟨c0, c1, c2, c3⟩ : RowAt wr g k ⟨i1, ww1, v1, day1⟩); clear R1 R2 R3 c0 c1 c2 c3 d0 d1 d2 d3; have hlt : (k : Int) < (n : Int) := by omega
    have hk0 : 0 ≤ (k : Int) := by omega
    go_upto_region 7 with fail
    go_cut [27] (fun c W2 => c = .bool (decide (r < 0)) ∧ MinS W W2 g k ⟨i1, ww1, v1, day1⟩ ⟨i2, ww2, v2, day2⟩)
    case first =>
     have hS : MinS W wr.drew g k ⟨i1, ww1, v1, day1⟩ ⟨i2, ww2, v2, day2⟩ := ⟨HW'.out, hq.1.drew, hq.2⟩
     go_wp2_with fail
     obtain ⟨⟨c0, c1, c2, c3⟩, d0, d1, d2, d3⟩ := hS.cells; simp only at c0 c1 c2 c3 d0 d1 d2 d3; go_region_held3 (fun W2 => MinC W2 W g k ⟨i1, ww1, v1, day1⟩ ⟨i2, ww2, v2, day2⟩) (first | (with_reducible exact hS.cells) | fail) (first | (go_at_call 282; with_reducible refine (hcon _).mono ?_; rintro e w9 ⟨rfl, hb⟩; have hS := hS.below hb hg; obtain ⟨⟨c0, c1, c2, c3⟩, d0, d1, d2, d3⟩ := hS.cells; simp only at c0 c1 c2 c3 d0 d1 d2 d3) | fail)
     all_goals (go_wp2_with fail; go_meet; exact ⟨rfl, hS⟩)
    case rest =>
     obtain ⟨rfl, hS⟩ := hcut; have HS := lH hS; obtain ⟨⟨c0, c1, c2, c3⟩, d0, d1, d2, d3⟩ := hS.cells; simp only at c0 c1 c2 c3 d0 d1 d2 d3; have f := fun i => hS.2.2.2.frozen i; have f0 := f 0; have f1 := f 1; have f2 := f 2; have f3 := f 3; clear f hS; by_cases hr : r < 0
     · have hd : decide (r < 0) = true := decide_eq_true hr; rw [hd]; go_wp2
       go_roundw
       case rel =>
        have hS := HS.out; refine ⟨k + 1, by omega, hkn, by go_num, lH ⟨?_, hS.2.2.1.other4 (by omega) ⟨i1, ww1, v1, day1⟩, ?_⟩⟩
        · exact (((hS.2.1.setCell (by simp) _).setCell (by simp) _).setCell (by simp) _).setCell (by simp) _
        · rw [min_next hk1 (by rw [HN.out]; exact hkn) HP.out HM.out]; have e : lowP ⟨i2, ww2, v2, day2⟩ ⟨i1, ww1, v1, day1⟩ = ⟨i1, ww1, v1, day1⟩ := by
           have h1 := HC.out; unfold cmpI at h1; unfold lowP; simp only at h1 ⊢; split
           · rfl
           · rename_i h2; rw [if_neg h2] at h1; split at h1 <;> omega
          rw [e]; exact hS.2.2.2.store4 ⟨i1, ww1, v1, day1⟩
       case measure => simp [intOf]; omega
     · have hd : decide (r < 0) = false := decide_eq_false hr; rw [hd]; go_wp2
       go_roundw
       case rel =>
        have hS := HS.out; refine ⟨k + 1, by omega, hkn, by go_num, lH ⟨hS.2.1, hS.2.2.1, ?_⟩⟩; rw [min_next hk1 (by rw [HN.out]; exact hkn) HP.out HM.out]; have e : lowP ⟨i2, ww2, v2, day2⟩ ⟨i1, ww1, v1, day1⟩ = ⟨i2, ww2, v2, day2⟩ := by
         have h1 := HC.out; unfold cmpI at h1; unfold lowP; simp only at h1 ⊢; split
         · rename_i h2; rw [if_pos h2] at h1; omega
         · rfl
        rw [e]; exact hS.2.2.2
       case measure => simp [intOf]; omega
  · obtain rfl : k = n := by omega
    obtain ⟨d0, d1, d2, d3⟩ := R3.cells; obtain ⟨e0, e1, e2, e3⟩ := R2.cells; have f := fun i => R2.frozen i; have f0 := f 0; have f1 := f 1; have f2 := f 2; have f3 := f 3; clear f; have HB := lH R1; have g := (R2.store4 m).cells; obtain ⟨g0, g1, g2, g3⟩ := g; have HG0 := lH g0; have HG1 := lH g1; have HG2 := lH g2; have HG3 := lH g3; clear R1 R2 R3 g0 g1 g2 g3; go_wp2
    have hmin : minP ps = m := by rw [← HM.out, List.take_of_length_le (by rw [HN.out]; exact Nat.le_refl _)]
    exact bodyPost_ret (v := .agg m.cells.toArray) (by simp [results, Tryz.results281, go_sem, HG0.out, HG1.out, HG2.out, HG3.out, Pt.cells]) rfl ⟨by rw [hmin], (((HB.out.setCell (by simp) _).setCell (by simp) _).setCell (by simp) _).setCell (by simp) _⟩
theorem boxZero {W w' : World} (hb : Below (W.alloc (.cells #[.int .i64 0, .int .i64 0, .int .i64 0, .int .i64 0] 338)).heap.size (W.alloc (.cells #[.int .i64 0, .int .i64 0, .int .i64 0, .int .i64 0] 338)) w') :
 w'.cell? ⟨W.heap.size, 0, none⟩ = some (.int .i64 0) ∧ w'.cell? ⟨W.heap.size, 1, none⟩ = some (.int .i64 0) ∧ w'.cell? ⟨W.heap.size, 2, none⟩ = some (.int .i64 0) ∧ w'.cell? ⟨W.heap.size, 3, none⟩ = some (.int .i64 0) := by
 have hbox : BoxAt w' W.heap.size ⟨0, 0, 0, 0⟩ := (hb.block W.heap.size (by simp)).trans (heap_alloc_new W _)
 exact hbox.cells
theorem boxZeroF {W w' : World} (hb : Below (W.alloc (.cells #[.int .i64 0, .int .i64 0, .int .i64 0, .int .i64 0] 338)).heap.size (W.alloc (.cells #[.int .i64 0, .int .i64 0, .int .i64 0, .int .i64 0] 338)) w') :
 w'.frozen? ⟨W.heap.size, 0, none⟩ = false ∧ w'.frozen? ⟨W.heap.size, 1, none⟩ = false ∧ w'.frozen? ⟨W.heap.size, 2, none⟩ = false ∧ w'.frozen? ⟨W.heap.size, 3, none⟩ = false := by
 have hbox : BoxAt w' W.heap.size ⟨0, 0, 0, 0⟩ := (hb.block W.heap.size (by simp)).trans (heap_alloc_new W _)
 exact ⟨hbox.frozen _, hbox.frozen _, hbox.frozen _, hbox.frozen _⟩
theorem least_any (b : Nat) (v : Value) (l : Ln) (W : World) (h : LineAt W b v l) (hlen : l.ps.length ≤ 64) :
 Calls Tryz.prog 274 #[.pointer (some ⟨b, 0, none⟩)] W fun e w' => e = .returned (.tuple #[.agg (minP l.ps).cells.toArray, .bool (!l.ps.isEmpty)]) ∧ Below W.heap.size W w' := by
 have hsl := h.sl; have hb := h.lt b (.inl rfl); have hrow := h.row; obtain ⟨ps, HP⟩ : ∃ ps, Hid (l.ps = ps) := ⟨_, lH rfl⟩
 rw [HP.out] at hrow hlen ⊢; rcases hrow.2 with ⟨rfl, h0⟩ | ⟨g, cap, cur, rfl, hb', hgg, hn, hm, hsz, ht⟩
 · have : ps = [] := List.length_eq_zero_iff.1 h0; have HR := lH this; clear this h0 hrow hlen; rw [HR.out]; go_enter Tryz.func274, Tryz.ntmps274; go_wp2
   exact bodyPost_ret (v := .tuple #[.agg #[.int .i64 0, .int .i64 0, .int .i64 0, .int .i64 0], .bool false]) (by simp [results, Tryz.results274, go_sem]) rfl ⟨rfl, (Below.refl _ _).alloc (Nat.le_refl _) _⟩
 · clear hgg hsz ht hn; cases hps : ps with
   | nil =>
    have HR := lH hps; clear hps; rw [HR.out] at hsl; simp only [List.length_nil] at hsl; go_enter Tryz.func274, Tryz.ntmps274; go_wp2
    exact bodyPost_ret (v := .tuple #[.agg #[.int .i64 0, .int .i64 0, .int .i64 0, .int .i64 0], .bool false]) (by simp [results, Tryz.results274, go_sem]) rfl ⟨rfl, (Below.refl _ _).alloc (Nat.le_refl _) _⟩
   | cons p0 l0 =>
    rw [← hps]; have hpos : 0 < ps.length := by rw [hps]; simp
    have he : (!ps.isEmpty) = true := by rw [hps]; rfl
    rw [he]; have hcon := fun W' (hk : W'.ownsRow 0 338 4 (.slice (some ⟨g, 0, none⟩) ps.length cap) ps.length (flatP ps)) => minfunc_any g cap ps W' hk hpos hlen; have hcon1 := hcon _ (hrow.alloc (.cells #[.int .i64 0, .int .i64 0, .int .i64 0, .int .i64 0] 338)); obtain ⟨m, hm'⟩ : ∃ m, minP ps = m := ⟨_, rfl⟩
    rw [hm'] at hcon1 ⊢; obtain ⟨n, HN⟩ : ∃ n, Hid (ps.length = n) := ⟨_, lH rfl⟩
    rw [HN.out] at hcon1 hsl hpos hlen; have hn0 : ¬ (n : Int) = 0 := by omega
    have HR := lH hps; clear hps hcon hrow he hm'; go_enter Tryz.func274, Tryz.ntmps274; go_wp2_with fail
    refine hcon1.mono ?_; rintro e w' ⟨rfl, hbl⟩; obtain ⟨d0, d1, d2, d3⟩ := boxZero (W := W) hbl; obtain ⟨f0, f1, f2, f3⟩ := boxZeroF (W := W) hbl; have HB := lH hbl; have hbox : BoxAt w' W.heap.size ⟨0, 0, 0, 0⟩ := (hbl.block W.heap.size (by simp)).trans (heap_alloc_new W _)
    obtain ⟨g0, g1, g2, g3⟩ := (hbox.store4 m).cells; have HG0 := lH g0; have HG1 := lH g1; have HG2 := lH g2; have HG3 := lH g3; clear hbl hbox g0 g1 g2 g3; obtain ⟨i, ww, v, day⟩ := m; simp only [Pt.cells]; go_wp2
    exact bodyPost_ret (v := .tuple #[.agg #[.int .i64 i, .int .i64 ww, .int .i64 v, .int .i64 day], .bool true]) (by simp [results, Tryz.results274, go_sem, HG0.out, HG1.out, HG2.out, HG3.out]) rfl ⟨rfl, ((((((Below.refl _ _).alloc (Nat.le_refl _) _).trans (HB.out.mono (by simp))).setCell (by simp) _).setCell (by simp) _).setCell (by simp) _).setCell (by simp) _⟩
theorem cell_setCell_ne {W : World} {p q : Addr} (x : Value) (h : q ≠ p) : (W.setCell p x).cell? q = W.cell? q := World.cell?_setCell_other _ _ _ _ (fun e => h e.symm)
theorem LineAt.setBase {W : World} {b : Nat} {v : Value} {l : Ln} (h : LineAt W b v l) (x : Int) : LineAt (W.setCell ⟨b, 0, none⟩ (.int .i64 x)) b v ⟨x, l.cur, l.ps⟩ := by
 refine ⟨World.cell?_setCell_same _ _ _ h.base, ?_, ?_, fun i => ?_, ?_, h.ne⟩
 · rw [cell_setCell_ne _ (by simp)]; exact h.cur
 · rw [cell_setCell_ne _ (by simp)]; exact h.sl
 · rw [World.frozen?_setCell]; exact h.live i
 · exact ownsRow_same h.row (fun k hk => Below.heap_setCell _ _ _ _ (by rintro rfl; exact h.ne hk))
theorem LineAt.setCur {W : World} {b : Nat} {v : Value} {l : Ln} (h : LineAt W b v l) (x : Int) : LineAt (W.setCell ⟨b, 1, none⟩ (.int .i64 x)) b v ⟨l.base, x, l.ps⟩ := by
 refine ⟨?_, World.cell?_setCell_same _ _ _ h.cur, ?_, fun i => ?_, ?_, h.ne⟩
 · rw [cell_setCell_ne _ (by simp)]; exact h.base
 · rw [cell_setCell_ne _ (by simp)]; exact h.sl
 · rw [World.frozen?_setCell]; exact h.live i
 · exact ownsRow_same h.row (fun k hk => Below.heap_setCell _ _ _ _ (by rintro rfl; exact h.ne hk))
theorem LineAt.alloc {W : World} {b : Nat} {v : Value} {l : Ln} (h : LineAt W b v l) (o : Obj) : LineAt (W.alloc o) b v l := h.below ((Below.refl _ _).alloc (Nat.le_refl _) _)
theorem LineAt.drew {W : World} {b : Nat} {v : Value} {l : Ln} (h : LineAt W b v l) : LineAt W.drew b v l := h.below ((Below.refl _ _).drew)
theorem touch1 (W : World) (b i : Nat) (x : Value) : Touch (fun k => k = b) W (W.setCell ⟨b, i, none⟩ x) := (Touch.refl (fun k => k = b) W).setCell (t := none) (c := b) (.inl rfl) x
theorem Touch.self {F : Nat → Prop} {a b c : World} (h : Touch F a b) (k : Touch F b c) : Touch F a c := h.trans (Grows.refl _ _) k
theorem bcell {W w1 : World} (hb : Below W.heap.size W w1) : (∀ b o, b < W.heap.size → w1.cell? ⟨b, o, none⟩ = W.cell? ⟨b, o, none⟩) ∧ (∀ b o, b < W.heap.size → w1.frozen? ⟨b, o, none⟩ = W.frozen? ⟨b, o, none⟩) :=
 ⟨fun b o h => hb.cell (p := ⟨b, o, none⟩) h, fun b o h => hb.frozen (p := ⟨b, o, none⟩) h⟩
theorem grow_any (b : Nat) (v : Value) (l : Ln) (W : World) (h : LineAt W b v l) (hlen : l.ps.length ≤ 64) :
 Calls Tryz.prog 277 #[.pointer (some ⟨b, 0, none⟩)] W fun e w' => e = .returned (.tuple #[]) ∧ LineAt w' b v ⟨growB l.base l.ps, l.cur, l.ps⟩ ∧ Touch (fun k => k = b) W w' := by
 have hcon := least_any b v l W h hlen; cases hps : l.ps with
 | nil =>
  rw [hps] at hcon; rw [show minP [] = ⟨0, 0, 0, 0⟩ from rfl, show (!([] : List Pt).isEmpty) = false from rfl] at hcon; simp only [Pt.cells] at hcon; have HP := lH hps; clear hps; go_enter Tryz.func277, Tryz.ntmps277; go_wp2_with fail
  refine hcon.mono ?_; rintro e w' ⟨rfl, hbl⟩; have HB := lH hbl; clear hbl; go_wp2
  go_end0
  refine ⟨rfl, ?_, (Touch.of_below HB.out).alloc _⟩; have h2 := (h.below HB.out).alloc (.cells #[.int .i64 0, .int .i64 0, .int .i64 0, .int .i64 0] 338); obtain ⟨B0, C0, ps⟩ := l; have hp := HP.out; simp only at hp; subst hp; exact h2
 | cons p0 l0 =>
  rw [← hps]; obtain ⟨m, hm⟩ : ∃ m, minP l.ps = m := ⟨_, rfl⟩
  have he : (!l.ps.isEmpty) = true := by rw [hps]; rfl
  have hg : growB l.base l.ps = if l.base < m.v then m.v else l.base := by rw [← hm, hps]; rfl
  rw [he, hm] at hcon; have HP := lH hps; have HG := lH hg; clear hps he hm hg; obtain ⟨i, ww, mv, day⟩ := m; simp only [Pt.cells] at hcon; go_enter Tryz.func277, Tryz.ntmps277; go_wp2_with fail
  refine hcon.mono ?_; rintro e w' ⟨rfl, hbl⟩; have hL := h.below hbl; have hb0 := hL.base; have hf0 := hL.live 0; have hlt := hL.lt b (.inl rfl); have HB := lH hbl; have HL := lH hL; clear hbl hL; go_wp2
  go_region
  go_wp2_with fail
  go_end0
  have h1 := HG.out; have e : max l.base mv = growB l.base l.ps := by
   rw [h1]; split <;> omega
  refine ⟨rfl, ?_, ?_⟩
  · rw [← e]; exact ((HL.out.setBase _).alloc _).drew
  · exact ((((Touch.of_below (F := fun k => k = b) HB.out).setCell (t := none) (.inl rfl) _).alloc _)).drew
theorem step_any (x : Int) (W : World) : Calls Tryz.prog 238 #[.int .i64 x] W fun e w' => e = .returned (.int .i64 (stepI x)) ∧ W = w' := by
 have hcon := fun W' => wgood_any x W'; have hle := stepI_le x; cases hg : goodW x with
 | false =>
  rw [hg] at hcon; have e : stepI x = 0 := by unfold stepI; rw [hg]; rfl
  rw [e]; clear e hle; go_enter Tryz.func238, Tryz.ntmps238; go_wp2_with fail
  refine (hcon _).mono ?_; rintro e w' ⟨rfl, rfl⟩; go_wp2
  go_ret
  exact ⟨rfl, rfl⟩
 | true =>
  have h1 : 1 ≤ x ∧ x ≤ 20 := by unfold goodW at hg; simpa using hg
  rw [hg] at hcon; have e : stepI x = Int.tdiv 232792560 x := by unfold stepI; rw [hg]; rfl
  rw [e] at hle ⊢; obtain ⟨q, hq⟩ : ∃ q, Int.tdiv 232792560 x = q := ⟨_, rfl⟩
  have HQ := lH hq; rw [hq] at hle ⊢; have hw : IntKind.i64.wrap (Int.tdiv 232792560 x) = q := by rw [hq, IntKind.wrap_i64]; omega
  have HW := lH hw; have hx0 : x ≠ 0 := by omega
  have hx1 : (x == 0) = false := beq_eq_false_iff_ne.2 hx0; clear e hq hg hw; go_enter Tryz.func238, Tryz.ntmps238; go_wp2_with fail
  refine (hcon _).mono ?_; rintro e w' ⟨rfl, rfl⟩; go_wp2
  go_ret
  exact ⟨by rw [← HQ.out, Int.tdiv_eq_ediv_of_nonneg (by omega)]; rfl, rfl⟩
theorem day_any (p : Pt) (W : World) (h1 : -4611686018427387904 ≤ p.v) (h2 : p.v ≤ 4611686018427387904) :
 Calls Tryz.prog 236 #[.agg p.cells.toArray] W fun e w' => e = .returned (.agg (dayP p).cells.toArray) ∧ Below W.heap.size W w' := by
 have hcon := fun W' => step_any p.w W'; have hle := stepI_le p.w; unfold dayP; generalize stepI p.w = s at hcon hle ⊢; obtain ⟨i, ww, v, day⟩ := p; simp only [Pt.cells] at h1 h2 hcon ⊢; go_enter Tryz.func236, Tryz.ntmps236; have k1 : IntKind.i64.wrap (4 * s) = 4 * s := by rw [IntKind.wrap_i64]; omega
 have k2 : IntKind.i64.wrap (v + 4 * s) = v + 4 * s := by rw [IntKind.wrap_i64]; omega
 go_wp2_with fail
 go_region_with (go_at_call 238; refine (hcon _).mono ?_; rintro e w' ⟨rfl, rfl⟩)
 all_goals
  go_wp2_with fail
  refine bodyPost_ret (v := .agg #[.int .i64 i, .int .i64 ww, .int .i64 v, .int .i64 (v + 4 * s)]) (by simp [results, Tryz.results236, go_sem]) rfl ⟨rfl, ?_⟩; repeat (first | exact Below.refl _ _ | refine Below.drew ?_ | refine Below.alloc ?_ (by simp) _ | refine Below.setCell ?_ (by simp) _)
theorem imay_any (id w lag : Int) (W : World) :
 Calls Tryz.prog 42 #[.agg #[.int .i64 id, .int .i64 w, .int .i64 lag]] W fun e w' => e = .returned (.bool (mayI id w lag)) ∧ Below W.heap.size W w' := by
 have hcon := fun W' => wgood_any w W'; unfold mayI; generalize goodW w = g at hcon ⊢; by_cases h1 : 0 ≤ id
 · by_cases h2 : id ≤ 1073741824
   · cases g with
     | true =>
      by_cases h3 : -1125899906842624 ≤ lag
      · by_cases h4 : lag ≤ 1125899906842624
        · rw [decide_eq_true h1, decide_eq_true h2, decide_eq_true h3, decide_eq_true h4]; go_enter Tryz.func42, Tryz.ntmps42; go_wp2_with (go_at_call 94; refine (hcon _).mono ?_; rintro e w' ⟨rfl, rfl⟩)
          go_ret
          exact ⟨by first | rfl | (clear hcon; simp [*]), (Below.refl _ _).alloc (Nat.le_refl _) _⟩
        · rw [decide_eq_true h1, decide_eq_true h2, decide_eq_true h3, decide_eq_false h4]; go_enter Tryz.func42, Tryz.ntmps42; go_wp2_with (go_at_call 94; refine (hcon _).mono ?_; rintro e w' ⟨rfl, rfl⟩)
          go_ret
          exact ⟨by first | rfl | (clear hcon; simp [*]), (Below.refl _ _).alloc (Nat.le_refl _) _⟩
      · rw [decide_eq_true h1, decide_eq_true h2, decide_eq_false h3]; go_enter Tryz.func42, Tryz.ntmps42; go_wp2_with (go_at_call 94; refine (hcon _).mono ?_; rintro e w' ⟨rfl, rfl⟩)
        go_ret
        exact ⟨by first | rfl | (clear hcon; simp [*]), (Below.refl _ _).alloc (Nat.le_refl _) _⟩
     | false =>
      rw [decide_eq_true h1, decide_eq_true h2]; go_enter Tryz.func42, Tryz.ntmps42; go_wp2_with (go_at_call 94; refine (hcon _).mono ?_; rintro e w' ⟨rfl, rfl⟩)
      go_ret
      exact ⟨by first | rfl | (clear hcon; simp [*]), (Below.refl _ _).alloc (Nat.le_refl _) _⟩
   · rw [decide_eq_true h1, decide_eq_false h2]; go_enter Tryz.func42, Tryz.ntmps42; go_wp2_with fail
     go_ret
     exact ⟨by first | rfl | (clear hcon; simp [*]), (Below.refl _ _).alloc (Nat.le_refl _) _⟩
 · rw [decide_eq_false h1]; go_enter Tryz.func42, Tryz.ntmps42; go_wp2_with fail
   go_ret
   exact ⟨by first | rfl | (clear hcon; simp [*]), (Below.refl _ _).alloc (Nat.le_refl _) _⟩
def Tryz.l284_ren : Go.Shelf.Ren := ⟨fun | 6 => 284 | n => n, fun | 22 => 265 | 23 => 338 | 25 => 368 | 3 => 3 | 0 => 0 | 4 => 4 | n => n, fun | n => n⟩
theorem Tryz.l284 : Go.Proofs.SlLaysH0.n6 Tryz.prog Tryz.l284_ren := {
 mixed := by kernel_rfl
 f6 := ⟨Tryz.f284.name, by decide, Tryz.func284.trans (congrArg some (by kernel_rfl))⟩
 t0 := Tryz.underlying0
 a0 := Tryz.isAgg0
 z0 := Tryz.sizeOf0
 v0 := Tryz.zeroValue0
 t3 := Tryz.underlying3
 a3 := Tryz.isAgg3
 z3 := Tryz.sizeOf3
 v3 := Tryz.zeroValue3
 t4 := Tryz.underlying4
 a4 := Tryz.isAgg4
 z4 := Tryz.sizeOf4
 v4 := Tryz.zeroValue4
 t22 := Tryz.underlying265
 a22 := Tryz.isAgg265
 z22 := Tryz.sizeOf265
 v22 := Tryz.zeroValue265
 t25 := Tryz.underlying368
 a25 := Tryz.isAgg368
 z25 := Tryz.sizeOf368
 v25 := Tryz.zeroValue368 }
theorem pred285 (id : Int) (B : Nat) (w : World) (hB : B < w.heap.size) (hcell : w.cell? ⟨B, 0, none⟩ = some (.int .i64 id)) :
 PredBelow Tryz.prog 285 #[.pointer (some ⟨B, 0, none⟩)] (fun x : Pt => .agg x.cells.toArray) (fun x => decide (x.id = id)) w := fun W x hb => by
 have hc : W.cell? ⟨B, 0, none⟩ = some (.int .i64 id) := (hb.cell (p := ⟨B, 0, none⟩) hB).trans hcell; have hBW : B < W.heap.size := Nat.lt_of_lt_of_le hB hb.size; have hne : B ≠ W.heap.size := by omega
 obtain ⟨i, ww, v, day⟩ := x; show Calls Tryz.prog 285 #[.agg #[.int .i64 i, .int .i64 ww, .int .i64 v, .int .i64 day], .pointer (some ⟨B, 0, none⟩)] W _; go_enter Tryz.func285, Tryz.ntmps285; go_wp2
 all_goals (go_ret; exact ⟨by simp_all; exact Bool.eq_iff_iff.2 (by simp), hb.alloc hb.size _⟩)
theorem find_any (b : Nat) (v : Value) (l : Ln) (id : Int) (W : World) (h : LineAt W b v l) :
 Calls Tryz.prog 276 #[.pointer (some ⟨b, 0, none⟩), .int .i64 id] W fun e w' => e = .returned (.int .i64 (posP l.ps id)) ∧ Below W.heap.size W w' := by
 have hsl := h.sl; have hb := h.lt b (.inl rfl); have hrow := h.row; obtain ⟨ps, HP⟩ : ∃ ps, Hid (l.ps = ps) := ⟨_, lH rfl⟩
 rw [HP.out] at hrow ⊢; rcases hrow.2 with ⟨rfl, h0⟩ | ⟨g, cap, cur, rfl, hb', hgg, hn, hm, hsz, ht⟩
 · have : ps = [] := List.length_eq_zero_iff.1 h0; have HR := lH this; clear this h0 hrow; go_enter Tryz.func276, Tryz.ntmps276; go_wp2_with fail
   refine (indexfunc_nil _ _ _).mono ?_; rintro e w' ⟨rfl, rfl⟩; go_wp2
   go_ret
   exact ⟨by rw [HR.out]; rfl, (Below.refl _ _).alloc (Nat.le_refl _) _⟩
 · have eg : ∀ args w, (callFunc 285 args).run Tryz.prog w = .ok (.enter 285 args) w := enters_of Tryz.func285 (by kernel_rfl) rfl; have hgl : g < W.heap.size := (Array.getElem?_eq_some_iff.1 hgg).1; have hcon := AnyQ.slices_IndexFunc Tryz.l284 4 Tryz.isAgg338 Tryz.sizeOf338 Pt.cells (fun _ => rfl) (fun x => decide (x.id = id)) 285 #[.pointer (some ⟨W.heap.size, 0, none⟩)] eg g 0 ps.length cap ps (W.alloc (.cells #[.int .i64 id] 3))
    (pred285 id W.heap.size _ (by simp) (by simp)) (Nat.le_refl _) (by unfold maxLen at hm; omega) (by simp; omega) (fun j hj i v hi => Lib.cell?_alloc_some _ (ownsRow_cell hrow j hj i v hi))
   change Calls Tryz.prog 284 _ _ _ at hcon; rw [List.take_of_length_le (Nat.le_refl _)] at hcon; change Calls Tryz.prog 284 _ _ (fun e w' => e = .returned (.int .i64 (posP ps id)) ∧ _) at hcon; generalize posP ps id = r at hcon ⊢; obtain ⟨m, HM⟩ : ∃ m, Hid (ps.length = m) := ⟨_, lH rfl⟩
   rw [HM.out] at hcon hsl; clear hrow hgg hsz ht hn eg; go_enter Tryz.func276, Tryz.ntmps276; go_wp2_with (go_at_call 284; refine hcon.mono ?_; rintro e w' ⟨rfl, hb'⟩)
   go_ret
   exact ⟨rfl, ((Below.refl _ W).alloc (Nat.le_refl _) _).trans (hb'.mono (by simp))⟩
theorem may_any (b : Nat) (v : Value) (l : Ln) (id w lag : Int) (W : World) (h : LineAt W b v l) :
 Calls Tryz.prog 268 #[.pointer (some ⟨b, 0, none⟩), .int .i64 id, .int .i64 w, .int .i64 lag] W fun e w' => e = .returned (.int .i64 (mayE l id w lag)) ∧ Below W.heap.size W w' := by
 have hcon := fun W' => imay_any id w lag W'; have hfind := fun W' (h' : LineAt W' b v l) => find_any b v l id W' h'; unfold mayE; cases hm : mayI id w lag with
 | false =>
  rw [hm] at hcon; clear hm hfind; go_enter Tryz.func268, Tryz.ntmps268; go_wp2_with fail
  refine (hcon _).mono ?_; rintro e w' ⟨rfl, hb⟩; go_wp2
  go_ret
  exact ⟨rfl, hb⟩
 | true =>
  rw [hm] at hcon; clear hm; obtain ⟨r, hr⟩ : ∃ r, posP l.ps id = r := ⟨_, rfl⟩
  rw [hr] at hfind ⊢; have HR := lH hr; clear hr; have HL := lH h; obtain ⟨n, hn⟩ : ∃ n, l.ps.length = n := ⟨_, rfl⟩
  rw [hn]; have hv : ∃ a c, v = .slice a n c := by
   rcases h.row.2 with ⟨rfl, h0⟩ | ⟨g, cap, cur, rfl, _⟩
   · exact ⟨none, 0, by rw [← hn, h0]⟩
   · exact ⟨_, cap, by rw [← hn]⟩
  obtain ⟨a, c, HV⟩ := hv; have HV := lH HV; have HN := lH hn; clear hn h; by_cases h0 : 0 ≤ r
  · go_enter Tryz.func268, Tryz.ntmps268; go_wp2_with fail
    refine (hcon _).mono ?_; rintro e w' ⟨rfl, hb⟩; go_wp2_with fail
    refine (hfind _ (HL.out.below hb)).mono ?_; rintro e w2 ⟨rfl, hb2⟩; have HB := lH (hb.trans (hb2.mono hb.size)); clear hb hb2; go_wp2
    go_ret
    exact ⟨by simp [h0], HB.out⟩
  · by_cases h64 : n = 64
    · have e64 : ((n : Int) == 64) = true := by simp [h64]
      have H6 := lH h64; clear h64; go_enter Tryz.func268, Tryz.ntmps268; go_wp2_with fail
      refine (hcon _).mono ?_; rintro e w' ⟨rfl, hb⟩; go_wp2_with fail
      refine (hfind _ (HL.out.below hb)).mono ?_; rintro e w2 ⟨rfl, hb2⟩; have h2 := hb.trans (hb2.mono hb.size)
      have hsl := (HL.out.below h2).sl; rw [HV.out] at hsl; have HB := lH h2; clear hb hb2 h2; go_wp2
      go_ret
      exact ⟨by simp [h0, H6.out], HB.out⟩
    · have e64 : ((n : Int) == 64) = false := by simp; omega
      go_enter Tryz.func268, Tryz.ntmps268; go_wp2_with fail
      refine (hcon _).mono ?_; rintro e w' ⟨rfl, hb⟩; go_wp2_with fail
      refine (hfind _ (HL.out.below hb)).mono ?_; rintro e w2 ⟨rfl, hb2⟩; have h2 := hb.trans (hb2.mono hb.size)
      have hsl := (HL.out.below h2).sl; rw [HV.out] at hsl; have HB := lH h2; clear hb hb2 h2; go_wp2
      go_ret
      exact ⟨by simp [h0, h64], HB.out⟩
end Go.Proofs.YtoiajjobecinpaaGreat
