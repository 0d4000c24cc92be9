/- Groups: has; the way up from one. Path; how deep a group is. Slots at the top seat's numbers: the texts of the small sea -/
import Derived.RangeFuncNested
import Derived.RangeFuncBound
import Derived.RangeFuncCalls
import Derived.RangeFuncLeaves
import Derived.RangeFuncFrom
import Derived.Shelf.Abstract
import Derived.Shelf.RegionOpen
import Derived.OwnWalkIn
import Derived.TacticsInMore
import Derived.LoopNIn
import Derived.LoopIn
import Derived.WalkSpells
import Derived.WalkLawsBesides
import Derived.Test.YtoiajjobecinpaaGreatTA05
set_option maxHeartbeats 4000000
namespace Go.Proofs.YtoiajjobecinpaaGreat
open Go.RowKit Go.Shelf Go.Lib Go.Proofs
set_option linter.unusedVariables false
set_option linter.unusedSimpArgs false
section
attribute [local go_sem] Oper.semAt_some
def hasG (gs : List (Bool × Int)) (id : Int) : Bool := decide (0 ≤ id) && (decide (id < 16) && (gs.getD id.toNat default).1)
def upG (gs : List (Bool × Int)) (id : Int) : Int := (gs.getD id.toNat default).2
structure GroupsAt (W : World) (gb : Nat) (gs : List (Bool × Int)) : Prop where
 len : gs.length = 16
 there : ∀ i, i < 16 → W.cell? ⟨gb, i * 2, none⟩ = some (.bool (gs.getD i default).1)
 up : ∀ i, i < 16 → W.cell? ⟨gb, i * 2 + 1, none⟩ = some (.int .i64 (gs.getD i default).2)
 live : ∀ i, W.frozen? ⟨gb, i, none⟩ = false
theorem GroupsAt.same {W W' : World} {gb : Nat} {gs : List (Bool × Int)} (h : GroupsAt W gb gs) (hb : W'.heap[gb]? = W.heap[gb]?) : GroupsAt W' gb gs :=
 ⟨h.len, fun i hi => (World.cell?_of_block (a := ⟨gb, _, none⟩) hb).trans (h.there i hi), fun i hi => (World.cell?_of_block (a := ⟨gb, _, none⟩) hb).trans (h.up i hi), fun i => (World.frozen?_of_block (a := ⟨gb, i, none⟩) hb).trans (h.live i)⟩
theorem GroupsAt.lt {W : World} {gb : Nat} {gs : List (Bool × Int)} (h : GroupsAt W gb gs) : gb < W.heap.size := World.block_lt_of_cell? W _ (h.there 0 (by omega))
theorem has_any (gb : Nat) (gs : List (Bool × Int)) (id : Int) (W : World) (h : GroupsAt W gb gs) :
 Calls Tryz.prog 148 #[.pointer (some ⟨gb, 0, none⟩), .int .i64 id] W fun e w' => e = .returned (.bool (hasG gs id)) ∧ W = w' := by
 unfold hasG; by_cases h1 : 0 ≤ id
 · by_cases h2 : id < 16
   · obtain ⟨k, rfl⟩ := Int.eq_ofNat_of_zero_le h1; have h3 := h.there k (by omega); rw [decide_eq_true h1, decide_eq_true h2]; simp only [Int.toNat_natCast]; generalize (gs.getD k default).1 = b at h3 ⊢; clear h; go_enter Tryz.func148, Tryz.ntmps148; go_wp2
     all_goals (go_ret; exact ⟨by first | rfl | simp, rfl⟩)
   · rw [decide_eq_false h2]; clear h; go_enter Tryz.func148, Tryz.ntmps148; go_wp2
     go_ret
     exact ⟨by simp, rfl⟩
 · rw [decide_eq_false h1]; clear h; go_enter Tryz.func148, Tryz.ntmps148; go_wp2
   go_ret
   exact ⟨by simp, rfl⟩
abbrev G16 := { x : Int // 0 ≤ x ∧ x < 16 }
def IsPath (gs : List (Bool × Int)) : Int → List G16 → Prop
 | id, [] => hasG gs id = false
 | id, x :: xs => x.1 = id ∧ hasG gs id = true ∧ IsPath gs (upG gs id) xs
theorem IsPath.unique {gs : List (Bool × Int)} : ∀ {id : Int} {xs ys : List G16}, IsPath gs id xs → IsPath gs id ys → xs = ys
 | _, [], [], _, _ => rfl
 | _, [], _ :: _, h, ⟨_, h2, _⟩ => by rw [show hasG gs _ = false from h] at h2; cases h2
 | _, _ :: _, [], ⟨_, h2, _⟩, h => by rw [show hasG gs _ = false from h] at h2; cases h2
 | _, x :: xs, y :: ys, ⟨h1, _, hr⟩, ⟨h2, _, hr'⟩ => by rw [Subtype.ext (h1.trans h2.symm), IsPath.unique hr hr']
open Classical in
noncomputable def leftG (gs : List (Bool × Int)) (v : Value) : Nat :=
 if h : ∃ r : Int × List G16, v = .int .i64 r.1 ∧ IsPath gs r.1 r.2 then (Classical.choose h).2.length else 0
theorem leftG_eq {gs : List (Bool × Int)} {id : Int} {xs : List G16} (h : IsPath gs id xs) : leftG gs (.int .i64 id) = xs.length := by
 have hex : ∃ r : Int × List G16, Value.int .i64 id = .int .i64 r.1 ∧ IsPath gs r.1 r.2 := ⟨(id, xs), rfl, h⟩
 unfold leftG; rw [dif_pos hex]; obtain ⟨e, hl⟩ := Classical.choose_spec hex; have e' : id = (Classical.choose hex).1 := by simpa using e
 rw [← e'] at hl; rw [IsPath.unique hl h]
theorem hasG_bd {gs : List (Bool × Int)} {id : Int} (h : hasG gs id = true) : 0 ≤ id ∧ id < 16 := by
 unfold hasG at h; simp only [Bool.and_eq_true, decide_eq_true_eq] at h; exact ⟨h.1, h.2.1⟩
def KpG (gb Bg : Nat) (W W' : World) : Prop := W'.heap[gb]? = W.heap[gb]? ∧ W'.heap[Bg]? = W.heap[Bg]?
theorem KpG.t {gb Bg : Nat} {A B C : World} (h : KpG gb Bg A B) (k : KpG gb Bg B C) : KpG gb Bg A C := ⟨k.1.trans h.1, k.2.trans h.2⟩
theorem KpG.b {gb Bg : Nat} {w : World} (h1 : gb < w.heap.size) (h2 : Bg < w.heap.size) (W : World) (l : Nat) (o o' : Obj) (hl : w.heap.size ≤ l) (_ : W.heap[l]? = some o) (_ : o.isCells = false) (_ : o.isWalk = false) : KpG gb Bg W (W.putObj l o') := by
 have e : ∀ k, k < w.heap.size → (W.putObj l o').heap[k]? = W.heap[k]? := fun k hk => World.putObj_heap_other (by omega); exact ⟨e gb h1, e Bg h2⟩
set_option maxRecDepth 100000 in
theorem path1_in (n : Nat) (hn : 2 ≤ n) (l Bi Bg gb : Nat) (gs : List (Bool × Int)) (id : Int) (xs : List G16) (J Jx : List G16 → World → Prop)
 (hY : ∀ pre x W, J pre W → pre.length < xs.length → YieldAt Fence.wide (n - 1) Tryz.prog l #[.int .i64 x.1] W fun e W' =>
  (e = .returned (.bool true) ∧ J (pre ++ [x]) W' ∧ KpG gb Bg W W') ∨ (e = .returned (.bool false) ∧ Jx (pre ++ [x]) W'))
 (W : World) (hBi : W.cell? ⟨Bi, 0, none⟩ = some (.int .i64 id)) (hBg : W.cell? ⟨Bg, 0, none⟩ = some (.pointer (some ⟨gb, 0, none⟩))) (hG : GroupsAt W gb gs) (hL : IsPath gs id xs) (h0 : J [] W) :
 CallsIn Fence.wide n Tryz.prog 155 #[.func (.yield l) #[] #[], .pointer (some ⟨Bi, 0, none⟩), .pointer (some ⟨Bg, 0, none⟩)] W fun e W' => (∃ v, e = .returned v) ∧
  ((∃ ys, ys = xs ∧ J ys W') ∨ (∃ pre, pre <+: xs ∧ Jx pre W')) := by
 have h1 : 1 ≤ n := by omega
 have h2 : 1 ≤ n - 1 := by omega
 refine callsIn_of_wp Tryz.func155 rfl trivial ?_ rfl; simp only [Tryz.ntmps155, List.size_toArray, List.length_cons, List.length_nil, Nat.reduceAdd, Nat.reduceSub, Array.replicate_succ, Array.replicate_zero, List.push_toArray, List.append_toArray, List.nil_append, List.cons_append]; gi_wp2
 gi_loopw [4] (fun p wr => ∃ (pre rest : List G16) (q : Int), p = .int .i64 q ∧ xs = pre ++ rest ∧ IsPath gs q rest ∧ J pre wr ∧ GroupsAt wr gb gs ∧ wr.cell? ⟨Bg, 0, none⟩ = some (.pointer (some ⟨gb, 0, none⟩)))
  (fun p wr => leftG gs p)
 case atStart =>
  exact ⟨[], xs, id, rfl, rfl, hL, h0, hG, hBg⟩
 case round =>
  obtain ⟨pre, rest, q, rfl, hx, hl, hJs, hGs, hgc⟩ := hrel; have hhas := has_any gb gs q wr hGs; cases rest with
  | nil =>
   have hl0 : hasG gs q = false := hl; rw [hl0] at hhas; gi_wp2_with (refine ⟨trivial, ?_⟩; gi_at_call 148; refine (callsIn_wide.2 hhas).mono ?_; rintro e w' ⟨rfl, rfl⟩)
   go_end0
   exact ⟨⟨_, rfl⟩, .inl ⟨pre, by simp [hx], hJs⟩⟩
  | cons x rest =>
   have hl' := hl; obtain ⟨hxq, hh, hr⟩ := hl; rw [hh] at hhas; obtain ⟨b1, b2⟩ := hasG_bd hh; obtain ⟨fn, tmps, assign, body, hy, hR⟩ := hY pre x wr hJs (by rw [hx]; simp); rw [hxq] at hy; obtain ⟨k, rfl⟩ := Int.eq_ofNat_of_zero_le b1; have hu := hGs.up k (by omega); have HU : upG gs (k : Int) = (gs.getD k default).2 := by unfold upG; simp
   rw [HU] at hr; generalize (gs.getD k default).2 = u at hu hr; clear hG hL HU hxq; gi_wp2_with (refine ⟨trivial, ?_⟩; gi_at_call 148; refine (callsIn_wide.2 hhas).mono ?_; rintro e w' ⟨rfl, rfl⟩)
   refine hR.mono ?_; rintro e W3 (⟨rfl, hJ3, hk3⟩ | ⟨rfl, hJx3⟩)
   · have hG3 : GroupsAt W3 gb gs := hGs.same hk3.1; have hgc3 : W3.cell? ⟨Bg, 0, none⟩ = some (.pointer (some ⟨gb, 0, none⟩)) := (World.cell?_of_block (a := ⟨Bg, 0, none⟩) hk3.2).trans hgc; have hu3 : W3.cell? ⟨gb, k * 2 + 1, none⟩ = some (.int .i64 u) := (World.cell?_of_block (a := ⟨gb, _, none⟩) hk3.1).trans hu; gi_wp2
     go_roundw
     case rel => exact ⟨pre ++ [x], rest, u, rfl, by simp [hx], hr, hJ3, hG3, hgc3⟩
     case measure => rw [leftG_eq hr, leftG_eq hl']; simp
   · gi_wp2
     refine bodyPost_ret (results_none rfl _ _ _) rfl ?_; exact ⟨⟨_, rfl⟩, .inr ⟨pre ++ [x], ⟨rest, by simp [hx]⟩, hJx3⟩⟩
end
section
attribute [local go_sem] Oper.semAt_some
theorem path_any (gb : Nat) (id : Int) (W : World) :
 Calls Tryz.prog 112 #[.pointer (some ⟨gb, 0, none⟩), .int .i64 id] W fun e w' => e = .returned (.func (.func 155) #[] #[.pointer (some ⟨W.heap.size + 1, 0, none⟩), .pointer (some ⟨W.heap.size, 0, none⟩)]) ∧
  (W.alloc (.cells #[.pointer (some ⟨gb, 0, none⟩)] 113)).alloc (.cells #[.int .i64 id] 3) = w' := by
 go_enter Tryz.func112, Tryz.ntmps112; go_wp2
 go_ret
 exact ⟨by simp, rfl⟩
theorem path_stops (n : Nat) (hn : 2 ≤ n) (Bi Bg gb : Nat) (gs : List (Bool × Int)) (id : Int) (xs : List G16) (w : World) (hBi : Bi < w.heap.size) (hBg : Bg < w.heap.size) (hgb : gb < w.heap.size)
 (c1 : w.cell? ⟨Bi, 0, none⟩ = some (.int .i64 id)) (c2 : w.cell? ⟨Bg, 0, none⟩ = some (.pointer (some ⟨gb, 0, none⟩))) (hG : GroupsAt w gb gs) (hL : IsPath gs id xs) :
 SeqStopsK Fence.wide n Tryz.prog 155 #[.pointer (some ⟨Bi, 0, none⟩), .pointer (some ⟨Bg, 0, none⟩)] (fun x : G16 => #[Value.int .i64 x.1]) (KpG gb Bg) (fun ys => ys = xs) (fun pre => pre <+: xs) xs.length w := fun l J Jx W hW _ _ hY h0 =>
 path1_in n hn l Bi Bg gb gs id xs J Jx hY W ((hW.cell (p := ⟨Bi, 0, none⟩) hBi).trans c1) ((hW.cell (p := ⟨Bg, 0, none⟩) hBg).trans c2) (hG.same (hW.block gb hgb)) hL h0
theorem cell_of_box_l {W : World} {B : Nat} {v : Value} {t : TypeId} (h : W.heap[B]? = some (.cells #[v] t (0, 0))) : W.cell? ⟨B, 0, none⟩ = some v ∧ W.frozen? ⟨B, 0, none⟩ = false := by
 constructor <;> simp [World.cell?, World.frozen?, h]
theorem cell_new_l (W : World) (v : Value) (t : TypeId) : (W.alloc (.cells #[v] t)).cell? ⟨W.heap.size, 0, none⟩ = some v ∧ (W.alloc (.cells #[v] t)).frozen? ⟨W.heap.size, 0, none⟩ = false :=
 cell_of_box_l (World.alloc_heap_new W _)
theorem frozen_alloc_l {W : World} {a : Addr} {v : Value} (o : Obj) (h : W.cell? a = some v) (hf : W.frozen? a = false) : (W.alloc o).frozen? a = false := (frozen_kept h (World.grownBy_alloc W o none) (fun r e => by cases e)).trans hf
set_option maxRecDepth 100000 in
theorem depth_in (gb : Nat) (gs : List (Bool × Int)) (id : Int) (xs : List G16) (w : World) (hG : GroupsAt w gb gs) (hL : IsPath gs id xs) (hlen : xs.length ≤ 1000) :
 CallsIn Fence.wide 5 Tryz.prog 100 #[.pointer (some ⟨gb, 0, none⟩), .int .i64 id] w fun e W' => e = .returned (.int .i64 xs.length) ∧ Below w.heap.size w W' := by
 have h1 : 1 ≤ 5 := by omega
 refine callsIn_of_wp_marks Tryz.func100 rfl trivial ?_ rfl; simp only [Tryz.ntmps100, List.size_toArray, List.length_cons, List.length_nil, Nat.reduceAdd, Nat.reduceSub, Array.replicate_succ, Array.replicate_zero, List.push_toArray, List.append_toArray, List.nil_append, List.cons_append]; gi_wp2_with (refine ⟨trivial, ?_⟩; gi_at_call 112; refine (callsIn_wide.2 (path_any gb id _)).mono ?_; rintro e w' ⟨rfl, rfl⟩)
 have hgl := hG.lt; have hs := cell_new_l w (.int .i64 0) 3; have hb1 := cell_new_l (w.alloc (.cells #[.int .i64 0] 3)) (.pointer (some ⟨gb, 0, none⟩)) 113; have hb2 := cell_new_l ((w.alloc (.cells #[.int .i64 0] 3)).alloc (.cells #[.pointer (some ⟨gb, 0, none⟩)] 113)) (.int .i64 id) 3; simp only [World.size_alloc] at hb1 hb2; have hB0 : Below w.heap.size w (((w.alloc (.cells #[.int .i64 0] 3)).alloc (.cells #[.pointer (some ⟨gb, 0, none⟩)] 113)).alloc (.cells #[.int .i64 id] 3)) := (((Below.refl _ w).alloc (Nat.le_refl _) _).alloc (by simp) _).alloc (by simp; omega) _; refine wpIn_rangeFunc_ownF rfl h1 (gf := 155) (lb := #[.pointer (some ⟨w.heap.size + 1 + 1, 0, none⟩), .pointer (some ⟨w.heap.size + 1, 0, none⟩)]) rfl trivial (enters_of Tryz.func155 (by kernel_rfl) rfl)
  (path_stops (5 - 1) (by omega) (w.heap.size + 1 + 1) (w.heap.size + 1) gb gs id xs _ (by simp) (by simp) (by simp; omega) hb2.1 (c2a _ hb1.1) (hG.same (hB0.block gb hgl)) hL) KpG.t (KpG.b (by simp; omega) (by simp)) (Below.refl _ _) (fun _ => rfl)
  (fun pre W => (W.cell? ⟨w.heap.size, 0, none⟩ = some (.int .i64 (pre.length : Nat)) ∧ W.frozen? ⟨w.heap.size, 0, none⟩ = false) ∧ Below w.heap.size w W)
  (fun _ _ _ => False)
  (OwnFrom.and (Own.from (fun s A B row hs hg hr => ⟨cell_kept hs.1 hg hr, (frozen_kept hs.1 hg hr).trans hs.2⟩) _) (ownFrom_below (Nat.le_refl _) (by simp; omega)))
  (fun _ _ _ _ _ hs _ _ => hs)
  ⟨⟨c2a _ (c2a _ hs.1), frozen_alloc_l _ (c2a _ hs.1) (frozen_alloc_l _ hs.1 hs.2)⟩, hB0⟩
  (fun x => { tmps := #[.pointer (some ⟨gb, 0, none⟩), .int .i64 id, undef, undef, .int .i64 0, .pointer (some ⟨w.heap.size, 0, none⟩), .pointer (some ⟨gb, 0, none⟩), .int .i64 id, .func (.func 155) #[] #[.pointer (some ⟨w.heap.size + 1 + 1, 0, none⟩), .pointer (some ⟨w.heap.size + 1, 0, none⟩)], (.int .i64 x.1), undef, undef, undef], defers := [] }) ?assign ?body ?done ?stop
 case assign =>
  intro l x W K hK; gi_wp2
  simpa using hK
 case body =>
  rintro l pre x W ⟨⟨hc, hf⟩, hB⟩ hpl; have hpl2 : (pre.length : Int) ≤ 1000 := by omega
  gi_wp2
  refine ⟨KeepsOthers.setCell _ _ _, ⟨Below.heap_setCell _ _ _ _ (by simp; omega), Below.heap_setCell _ _ _ _ (by simp)⟩, ⟨?_, by rw [World.frozen?_setCell]; exact hf⟩, hB.setCell (p := ⟨w.heap.size, 0, none⟩) (Nat.le_refl _) _⟩; rw [List.length_append]; simpa using World.cell?_setCell_same _ _ _ hc
 case done =>
  rintro D ys W hD rfl ⟨⟨hc, _⟩, hB⟩ hK; gi_wp2
  refine ⟨by simp, .inl ⟨_, _, rfl, run_takeDeferred hK, ?_⟩⟩; exact ⟨_, results_tmp rfl _ _ _, rfl, hB.trans (belowK_b (w := w) (Nat.le_refl _) W D _ _ (by simp at hD; omega) hK rfl rfl)⟩
 case stop =>
  rintro D c pre W _ _ h _; exact h.elim
theorem depth_any (gb : Nat) (gs : List (Bool × Int)) (id : Int) (xs : List G16) (w : World) (hG : GroupsAt w gb gs) (hL : IsPath gs id xs) (hlen : xs.length ≤ 1000) :
 Calls Tryz.prog 100 #[.pointer (some ⟨gb, 0, none⟩), .int .i64 id] w fun e W' => e = .returned (.int .i64 xs.length) ∧ Below w.heap.size w W' :=
 callsIn_wide.1 (depth_in gb gs id xs w hG hL hlen)
end
end Go.Proofs.YtoiajjobecinpaaGreat
namespace Go.Proofs.YtoiajjobecinpaaGreat
open Go.RowKit
set_option linter.unusedVariables false
set_option linter.unusedSimpArgs false
def cellsOf : List (Int × Bool) → List Value
 | [] => []
 | p :: t => .int .i64 p.1 :: .bool p.2 :: cellsOf t
theorem cellsOf_length (ps : List (Int × Bool)) : (cellsOf ps).length = ps.length * 2 := by
 induction ps with
 | nil => rfl
 | cons p t ih => simp [cellsOf, ih]; omega
theorem cellsOf_turn (ps : List (Int × Bool)) : ∀ i, i < ps.length → (cellsOf ps)[i * 2]? = some (.int .i64 (ps.getD i default).1) := by
 induction ps with
 | nil => intro i h; simp at h
 | cons p t ih =>
  intro i h; cases i with
  | zero => rfl
  | succ i =>
   have := ih i (by simpa using h); rw [show (i + 1) * 2 = i * 2 + 1 + 1 from by omega]; simpa [cellsOf] using this
theorem cellsOf_taken (ps : List (Int × Bool)) : ∀ i, i < ps.length → (cellsOf ps)[i * 2 + 1]? = some (.bool (ps.getD i default).2) := by
 induction ps with
 | nil => intro i h; simp at h
 | cons p t ih =>
  intro i h; cases i with
  | zero => rfl
  | succ i =>
   have := ih i (by simpa using h); rw [show (i + 1) * 2 + 1 = i * 2 + 1 + 1 + 1 from by omega]; simpa [cellsOf] using this
theorem cellsOf_set (ps : List (Int × Bool)) (t : Int) (b : Bool) : ∀ i, i < ps.length →
 cellsOf (ps.set i (t, b)) = ((cellsOf ps).set (i * 2) (.int .i64 t)).set (i * 2 + 1) (.bool b) := by
 induction ps with
 | nil => intro i h; simp at h
 | cons p q ih =>
  intro i h; cases i with
  | zero => rfl
  | succ i =>
   have := ih i (by simpa using h); rw [show (i + 1) * 2 = i * 2 + 1 + 1 from by omega]; simp [cellsOf, this]
theorem set_same {l : List Value} {i : Nat} {v : Value} (h : l[i]? = some v) : l.set i v = l := by
 apply List.ext_getElem?
 intro j; rw [List.getElem?_set]; split
 · rename_i e; subst e; split
   · exact h.symm
   · rename_i hn; rw [List.getElem?_eq_none (by omega)] at h; cases h
 · rfl
structure SlotsAt (w : World) (b a : Nat) (ps : List (Int × Bool)) : Prop where
 head : w.cell? ⟨b, 0, none⟩ = some (.slice (some ⟨a, 0, none⟩) ps.length ps.length)
 ne : b ≠ a
 row : ∃ T, w.heap[a]? = some (.cells (cellsOf ps).toArray T (0, 0))
theorem SlotsAt.turn {w : World} {b a : Nat} {ps : List (Int × Bool)} (h : SlotsAt w b a ps) (i : Nat) (hi : i < ps.length) :
 w.cell? ⟨a, i * 2, none⟩ = some (.int .i64 (ps.getD i default).1) := by
 obtain ⟨T, hr⟩ := h.row; simp only [World.cell?, hr]; simpa using cellsOf_turn ps i hi
theorem SlotsAt.taken {w : World} {b a : Nat} {ps : List (Int × Bool)} (h : SlotsAt w b a ps) (i : Nat) (hi : i < ps.length) :
 w.cell? ⟨a, i * 2 + 1, none⟩ = some (.bool (ps.getD i default).2) := by
 obtain ⟨T, hr⟩ := h.row; simp only [World.cell?, hr]; simpa using cellsOf_taken ps i hi
theorem SlotsAt.frozen {w : World} {b a : Nat} {ps : List (Int × Bool)} (h : SlotsAt w b a ps) (i : Nat) :
 w.frozen? ⟨a, i, none⟩ = false := by
 obtain ⟨T, hr⟩ := h.row; simp [World.frozen?, hr]
theorem sheap_setCell_row {w : World} {a i : Nat} {v : Value} {cs : List Value} {T : TypeId} (h : w.heap[a]? = some (.cells cs.toArray T (0, 0))) :
 (w.setCell ⟨a, i, none⟩ v).heap[a]? = some (.cells (cs.set i v).toArray T (0, 0)) := by
 simp [World.setCell, Array.getElem?_modify, h]
theorem SlotsAt.set {w : World} {b a : Nat} {ps : List (Int × Bool)} (h : SlotsAt w b a ps) (i : Nat) (hi : i < ps.length) (t : Int) (d : Bool) :
 SlotsAt ((w.setCell ⟨a, i * 2 + 1, none⟩ (.bool d)).setCell ⟨a, i * 2, none⟩ (.int .i64 t)) b a (ps.set i (t, d)) := by
 obtain ⟨T, hr⟩ := h.row; refine ⟨?_, h.ne, T, ?_⟩
 · rw [World.cell?_setCell_other _ _ _ _ (by intro e; injection e with e1; exact h.ne e1.symm), World.cell?_setCell_other _ _ _ _ (by intro e; injection e with e1; exact h.ne e1.symm)]; simpa using h.head
 · rw [sheap_setCell_row (sheap_setCell_row hr), cellsOf_set ps t d i hi, List.set_comm _ _ (by omega)]
theorem SlotsAt.free {w : World} {b a : Nat} {ps : List (Int × Bool)} (h : SlotsAt w b a ps) (i : Nat) (hi : i < ps.length) :
 SlotsAt (w.setCell ⟨a, i * 2 + 1, none⟩ (.bool false)) b a (ps.set i ((ps.getD i default).1, false)) := by
 obtain ⟨T, hr⟩ := h.row; refine ⟨?_, h.ne, T, ?_⟩
 · rw [World.cell?_setCell_other _ _ _ _ (by intro e; injection e with e1; exact h.ne e1.symm)]; simpa using h.head
 · rw [sheap_setCell_row hr, cellsOf_set ps _ _ i hi, set_same (cellsOf_turn ps i hi)]
theorem SlotsAt.below {w w' : World} {b a : Nat} {ps : List (Int × Bool)} (h : SlotsAt w b a ps) {B : Nat} (hb : Below B w w') (h1 : b < B) (h2 : a < B) : SlotsAt w' b a ps := by
 obtain ⟨T, hr⟩ := h.row; exact ⟨(hb.cell (p := ⟨b, 0, none⟩) h1).trans h.head, h.ne, T, (hb.block a h2).trans hr⟩
theorem SlotsAt.lt {w : World} {b a : Nat} {ps : List (Int × Bool)} (h : SlotsAt w b a ps) : b < w.heap.size ∧ a < w.heap.size := by
 obtain ⟨T, hr⟩ := h.row; exact ⟨World.block_lt_of_cell? w _ h.head, (Array.getElem?_eq_some_iff.1 hr).1⟩
theorem splace_any (id : Int) (w : World) (h : 0 ≤ id) (h2 : id ≤ 9223372036854775807) :
 Calls Tryz.prog 179 #[.int .i64 id] w fun e w' => e = .returned (.tuple #[.int .i64 (id % 64), .int .i64 (id / 64)]) ∧ w = w' := by
 go_enter Tryz.func179, Tryz.ntmps179; go_wp2
 go_ret2
 exact ⟨by simp, rfl⟩
theorem splace_neg (id : Int) (w : World) (h : id < 0) :
 Calls Tryz.prog 179 #[.int .i64 id] w fun e w' => e = .returned (.tuple #[.int .i64 (-1), .int .i64 (-1)]) ∧ w = w' := by
 go_enter Tryz.func179, Tryz.ntmps179; go_wp2
 go_ret2
 exact ⟨rfl, rfl⟩
theorem stake_hit (b a i : Nat) (w : World) (ps : List (Int × Bool)) (hn : ps.length ≤ 64) (hs : SlotsAt w b a ps) (hi : i < ps.length)
 (hfree : (ps.getD i default).2 = false) (hall : ∀ j, j < i → (ps.getD j default).2 = true) (t : Int) (ht0 : 0 ≤ t) (ht1 : t ≤ 1000000) (ht : (ps.getD i default).1 = t) :
 Calls Tryz.prog 101 #[.pointer (some ⟨b, 0, none⟩)] w fun e w' => e = .returned (.tuple #[.int .i64 (i + 64 * t), .int .i64 0]) ∧
  (w.setCell ⟨a, i * 2 + 1, none⟩ (.bool true)).setCell ⟨a, i * 2, none⟩ (.int .i64 (t + 1)) = w' := by
 have hb := hs.head; obtain ⟨n, HN⟩ : ∃ n, Hid (ps.length = n) := ⟨_, lH rfl⟩
 rw [HN.out] at hb hn hi; go_enter Tryz.func101, Tryz.ntmps101; go_wp2
 go_loop [4, 5, 11] (fun x4 x5 x11 => ∃ k : Nat, k ≤ i ∧ x11 = .int .i64 k) (fun _ _ i => n - (intOf i).toNat)
 case atStart => exact ⟨0, by omega, rfl⟩
 case round =>
  obtain ⟨k, hk, rfl⟩ := hrel; have hkn : k < n := by omega
  have h1 := hs.turn k (by rw [HN.out]; exact hkn); have h2 := hs.taken k (by rw [HN.out]; exact hkn); have h3 := hs.frozen (k * 2 + 1); have h4 := hs.frozen (k * 2); by_cases hlt : k < i
  · rw [hall k hlt] at h2; clear hall ht hfree; go_wp2
    go_round
    case rel => exact ⟨k + 1, by omega, by go_num⟩
    case measure => simp [intOf]; omega
  · obtain rfl : k = i := by omega
    rw [hfree] at h2; rw [ht] at h1; clear hall hfree; have HT := lH ht; clear ht; have h5 : (w.setCell ⟨a, k * 2 + 1, none⟩ (.bool true)).cell? ⟨a, k * 2, none⟩ = some (.int .i64 t) := by
     rw [World.cell?_setCell_other _ _ _ _ (by simp)]; exact h1
    have h6 : ((w.setCell ⟨a, k * 2 + 1, none⟩ (.bool true)).setCell ⟨a, k * 2, none⟩ (.int .i64 (t + 1))).cell? ⟨a, k * 2, none⟩ = some (.int .i64 (t + 1)) :=
     World.cell?_setCell_same _ _ _ h5
    go_wp2
    go_ret2
    exact ⟨by simp [Int.add_sub_cancel], rfl⟩
theorem stake_miss (b a : Nat) (w : World) (ps : List (Int × Bool)) (hn : ps.length ≤ 64) (hs : SlotsAt w b a ps)
 (hall : ∀ j, j < ps.length → (ps.getD j default).2 = true) :
 Calls Tryz.prog 101 #[.pointer (some ⟨b, 0, none⟩)] w fun e w' => e = .returned (.tuple #[.int .i64 0, .int .i64 3]) ∧ w = w' := by
 have hb := hs.head; obtain ⟨n, HN⟩ : ∃ n, Hid (ps.length = n) := ⟨_, lH rfl⟩
 rw [HN.out] at hb hn hall; go_enter Tryz.func101, Tryz.ntmps101; go_wp2
 go_loop [4, 5, 11] (fun x4 x5 x11 => ∃ k : Nat, k ≤ n ∧ x11 = .int .i64 k) (fun _ _ i => n - (intOf i).toNat)
 case atStart => exact ⟨0, by omega, rfl⟩
 case round =>
  obtain ⟨k, hk, rfl⟩ := hrel; by_cases hlt : k < n
  · have h2 := hs.taken k (by rw [HN.out]; exact hlt); rw [hall k hlt] at h2; clear hall; go_wp2
    go_round
    case rel => exact ⟨k + 1, by omega, by go_num⟩
    case measure => simp [intOf]; omega
  · clear hall; go_wp2
    go_ret2
    exact ⟨rfl, rfl⟩
theorem shas_neg (p : Value) (id : Int) (w : World) (h : id < 0) :
 Calls Tryz.prog 152 #[p, .int .i64 id] w fun e w' => e = .returned (.bool false) ∧ w = w' := by
 go_enter Tryz.func152, Tryz.ntmps152; go_wp2_with (go_at_call 179; refine (splace_neg _ _ h).mono ?_; rintro e w' ⟨rfl, rfl⟩)
 go_ret
 exact ⟨rfl, rfl⟩
def hasB (ps : List (Int × Bool)) (id : Int) : Bool :=
 decide (0 ≤ id) && (decide ((id % 64).toNat < ps.length) && ((ps.getD (id % 64).toNat default).2 && ((ps.getD (id % 64).toNat default).1 - 1 == id / 64)))
theorem shas_pos (b a : Nat) (id : Int) (w : World) (ps : List (Int × Bool)) (hn : ps.length ≤ 64) (hs : SlotsAt w b a ps)
 (h0 : 0 ≤ id) (h2 : id ≤ 9223372036854775807) (ht : ∀ j, j < ps.length → 0 ≤ (ps.getD j default).1 ∧ (ps.getD j default).1 ≤ 1000000) :
 Calls Tryz.prog 152 #[.pointer (some ⟨b, 0, none⟩), .int .i64 id] w fun e w' => e = .returned (.bool (hasB ps id)) ∧ w = w' := by
 have hb := hs.head; obtain ⟨n, HN⟩ : ∃ n, Hid (ps.length = n) := ⟨_, lH rfl⟩
 rw [HN.out] at hb hn ht; obtain ⟨q, HQ⟩ : ∃ q : Int, Hid (id % 64 = q) := ⟨_, lH rfl⟩
 obtain ⟨u, HU⟩ : ∃ q : Int, Hid (id / 64 = q) := ⟨_, lH rfl⟩
 have hq0 : 0 ≤ q := by rw [← HQ.out]; omega
 have hq1 : q < 64 := by rw [← HQ.out]; omega
 have HP := splace_any id w h0 h2; rw [HQ.out, HU.out] at HP; obtain ⟨m, hm⟩ := Int.eq_ofNat_of_zero_le hq0; subst hm; have HG : Hid (hasB ps id = (decide (m < n) && ((ps.getD m default).2 && ((ps.getD m default).1 - 1 == u)))) := by
  refine lH ?_; unfold hasB; rw [decide_eq_true h0, HQ.out, HU.out, HN.out]; rfl
 rw [HG.out]; clear HG; by_cases hlt : m < n
 · have c1 := hs.turn m (by rw [HN.out]; exact hlt); have c2 := hs.taken m (by rw [HN.out]; exact hlt); obtain ⟨t, HT⟩ : ∃ t : Int, Hid ((ps.getD m default).1 = t) := ⟨_, lH rfl⟩
   obtain ⟨d, HD⟩ : ∃ t : Bool, Hid ((ps.getD m default).2 = t) := ⟨_, lH rfl⟩
   have ht' := ht m hlt; rw [HT.out] at c1 ht'; rw [HD.out] at c2; rw [HT.out, HD.out]; obtain ⟨k1, k2⟩ := ht'; clear ht; cases d with
   | false =>
    go_enter Tryz.func152, Tryz.ntmps152; go_wp2_with (go_at_call 179; refine HP.mono ?_; rintro e w' ⟨rfl, rfl⟩)
    go_ret
    exact ⟨by simp, rfl⟩
   | true =>
    go_enter Tryz.func152, Tryz.ntmps152; go_wp2_with (go_at_call 179; refine HP.mono ?_; rintro e w' ⟨rfl, rfl⟩)
    go_ret
    exact ⟨by simp [hlt], rfl⟩
 · clear ht; go_enter Tryz.func152, Tryz.ntmps152; go_wp2_with (go_at_call 179; refine HP.mono ?_; rintro e w' ⟨rfl, rfl⟩)
   go_ret
   exact ⟨by simp [hlt], rfl⟩
theorem shas_any (b a : Nat) (id : Int) (w : World) (ps : List (Int × Bool)) (hn : ps.length ≤ 64) (hs : SlotsAt w b a ps)
 (h2 : id ≤ 9223372036854775807) (ht : ∀ j, j < ps.length → 0 ≤ (ps.getD j default).1 ∧ (ps.getD j default).1 ≤ 1000000) :
 Calls Tryz.prog 152 #[.pointer (some ⟨b, 0, none⟩), .int .i64 id] w fun e w' => e = .returned (.bool (hasB ps id)) ∧ w = w' := by
 by_cases h0 : 0 ≤ id
 · exact shas_pos b a id w ps hn hs h0 h2 ht
 · have e : hasB ps id = false := by unfold hasB; rw [decide_eq_false h0]; rfl
   rw [e]; exact shas_neg _ id w (by omega)
theorem sfree_any (b a : Nat) (id : Int) (w : World) (ps : List (Int × Bool)) (hn : ps.length ≤ 64) (hs : SlotsAt w b a ps)
 (h2 : id ≤ 9223372036854775807) (ht : ∀ j, j < ps.length → 0 ≤ (ps.getD j default).1 ∧ (ps.getD j default).1 ≤ 1000000) :
 Calls Tryz.prog 107 #[.pointer (some ⟨b, 0, none⟩), .int .i64 id] w fun e w' => e = .returned (.int .i64 (if hasB ps id = true then 0 else 2)) ∧
  (if hasB ps id = true then w.setCell ⟨a, (id % 64).toNat * 2 + 1, none⟩ (.bool false) else w) = w' := by
 have HP := shas_any b a id w ps hn hs h2 ht; have hb := hs.head; cases hh : hasB ps id with
 | false =>
  rw [hh] at HP; clear hh; go_enter Tryz.func107, Tryz.ntmps107; go_wp2_with (go_at_call 152; refine HP.mono ?_; rintro e w' ⟨rfl, rfl⟩)
  go_ret
  exact ⟨by simp, by simp⟩
 | true =>
  rw [hh] at HP; have g := hh; unfold hasB at g; simp only [Bool.and_eq_true, decide_eq_true_eq] at g; obtain ⟨g1, g2, g3, g4⟩ := g; clear hh g4 ht; have c2 := hs.taken _ g2; rw [g3] at c2; clear g3; have c3 := hs.frozen ((id % 64).toNat * 2 + 1); obtain ⟨n, HN⟩ : ∃ n, Hid (ps.length = n) := ⟨_, lH rfl⟩
  rw [HN.out] at hb hn g2; go_enter Tryz.func107, Tryz.ntmps107; go_wp2_with (go_at_call 152; refine HP.mono ?_; rintro e w' ⟨rfl, rfl⟩)
  go_ret
  exact ⟨by simp, by simp⟩
theorem info248 : (Tryz.prog.info? 248).map (fun i => (i.zero, i.size, i.bytes)) = some (some (.agg #[.int .i64 0, .bool false]), 2, 16) := by kernel_rfl
def fresh (m : Nat) : List (Int × Bool) := List.replicate m (0, false)
theorem fresh_length (m : Nat) : (fresh m).length = m := by simp [fresh]
theorem fresh_get (m j : Nat) : (fresh m).getD j default = (0, false) := by
 simp only [fresh, List.getD_eq_getElem?_getD, List.getElem?_replicate]; split <;> rfl
theorem cellsOf_fresh (m : Nat) : (cellsOf (fresh m)).toArray = madeCells #[.int .i64 0, .bool false] (m * 2) := by
 apply Array.ext_getElem?
 intro j; have hl := cellsOf_length (fresh m); rw [fresh_length] at hl; by_cases hj : j < m * 2
 · have e : (madeCells #[.int .i64 0, .bool false] (m * 2))[j]? = some (if j % 2 = 0 then .int .i64 0 else .bool false) := by
    rcases Nat.mod_two_eq_zero_or_one j with h | h <;> simp [madeCells, hj, h]
   rw [e, List.getElem?_toArray]; have hi : j / 2 < (fresh m).length := by rw [fresh_length]; omega
   rcases Nat.mod_two_eq_zero_or_one j with h | h
   · have := cellsOf_turn (fresh m) (j / 2) hi; rw [show j / 2 * 2 = j from by omega, fresh_get] at this; rw [this, if_pos h]
   · have := cellsOf_taken (fresh m) (j / 2) hi; rw [show j / 2 * 2 + 1 = j from by omega, fresh_get] at this; rw [this, if_neg (by omega)]
 · rw [Array.getElem?_eq_none (by simp [hl]; omega), Array.getElem?_eq_none (by simp [size_madeCells]; omega)]
theorem make179 (c : Int) (h0 : 0 ≤ c) (h1 : c ≤ 64) (W : World) :
 (Instr.makeSlice 179 (.int .i64 c) (.int .i64 c)).run Tryz.prog W = .ok (.slice (some ⟨W.heap.size, 0, none⟩) c.toNat c.toNat) (W.alloc (.cells (cellsOf (fresh c.toNat)).toArray 248)) := by
 obtain ⟨i, hi, hz, hs, hb⟩ := info_parts info248; have := run_make (P := Tryz.prog) W 179 248 i _ Tryz.underlying179 hi hz .i64 .i64 c c h0 (Int.le_refl _) (by rw [hb]; omega) (by omega); rw [hs] at this; rw [this, cellsOf_fresh]; rfl
theorem slots_at_new (w : World) (m : Nat) :
 SlotsAt ((w.alloc (.cells (cellsOf (fresh m)).toArray 248)).alloc (.cells #[.slice (some ⟨w.heap.size, 0, none⟩) m m] 181)) (w.heap.size + 1) w.heap.size (fresh m) := by
 refine ⟨?_, by omega, 248, ?_⟩
 · have := World.cell?_alloc_new (w.alloc (.cells (cellsOf (fresh m)).toArray 248)) #[.slice (some ⟨w.heap.size, 0, none⟩) m m] 181 0; rw [World.size_alloc] at this; rw [this, fresh_length]; rfl
 · rw [Below.heap_alloc _ _ _ (by simp)]; exact heap_alloc_new w _
set_option maxRecDepth 100000 in
theorem snew64 (w : World) :
 Calls Tryz.prog 44 #[.int .i64 64] w fun e w' => e = .returned (.pointer (some ⟨w.heap.size + 1, 0, none⟩)) ∧
  SlotsAt w' (w.heap.size + 1) w.heap.size (fresh 64) ∧ w'.heap.size = w.heap.size + 2 ∧ Below w.heap.size w w' := by
 have hm := make179 64 (by omega) (by omega); have HF := slots_at_new w 64; rw [show Int.toNat 64 = 64 from rfl] at hm; generalize hx : (cellsOf (fresh 64)).toArray = X at hm HF; clear hx; have hmm : min (max (64 : Int) 1) 64 = 64 := by decide
 go_enter Tryz.func44, Tryz.ntmps44; go_wp2
 go_ret
 exact ⟨rfl, by simpa using HF, by simp, ((Below.refl _ _).alloc (Nat.le_refl _) _).alloc (by simp) _⟩
def Sized (ps : List (Int × Bool)) : Prop := ps.length ≤ 64 ∧ ∀ j, j < ps.length → 0 ≤ (ps.getD j default).1 ∧ (ps.getD j default).1 ≤ 1000000
def takeP (ps : List (Int × Bool)) : Int × Int × List (Int × Bool) :=
 match ps.findIdx? (fun p => !p.2) with
 | some i => ((i : Int) + 64 * (ps.getD i default).1, 0, ps.set i ((ps.getD i default).1 + 1, true))
 | none => (0, 3, ps)
def freeP (ps : List (Int × Bool)) (id : Int) : Int × List (Int × Bool) :=
 if hasB ps id = true then (0, ps.set (id % 64).toNat ((ps.getD (id % 64).toNat default).1, false)) else (2, ps)
theorem getD_of {ps : List (Int × Bool)} {i : Nat} (h : i < ps.length) : ps.getD i default = ps[i] := by
 simp [List.getD_eq_getElem?_getD, h]
end Go.Proofs.YtoiajjobecinpaaGreat
namespace Go.Proofs.YtoiajjobecinpaaGreat
open Go.RowKit Go.Shelf Go.Lib Go.Proofs
set_option linter.unusedVariables false
set_option linter.unusedSimpArgs false
inductive Own
 | sys
 | groups
 | names
 | places
 | map
 | row
 | core (i : Nat)
 | task (id : Int)
deriving DecidableEq
structure Tk where
 id : Int
 w : Int
 group : Int
 core : Int
 state : Int
 mask : Int
 lag : Int
deriving Inhabited
structure Sy where
 cores : List Co
 gs : List (Bool × Int)
 acc : List (Int × Int × Int × Int)
 ps : List (Int × Bool)
 tasks : Int → Option Tk
 cnt : Nat
instance : Inhabited Co := ⟨⟨0, default, 0, 0⟩⟩
structure TaskAt (W : World) (b : Nat) (t : Tk) : Prop where
 id : W.cell? ⟨b, 0, none⟩ = some (.int .i64 t.id)
 w : W.cell? ⟨b, 1, none⟩ = some (.int .i64 t.w)
 group : W.cell? ⟨b, 2, none⟩ = some (.int .i64 t.group)
 core : W.cell? ⟨b, 3, none⟩ = some (.int .i64 t.core)
 state : W.cell? ⟨b, 4, none⟩ = some (.int .i64 t.state)
 mask : W.cell? ⟨b, 5, none⟩ = some (.int .u16 t.mask)
 lag : W.cell? ⟨b, 6, none⟩ = some (.int .i64 t.lag)
 live : ∀ i, W.frozen? ⟨b, i, none⟩ = false
theorem TaskAt.same {W W' : World} {b : Nat} {t : Tk} (h : TaskAt W b t) (hb : W'.heap[b]? = W.heap[b]?) : TaskAt W' b t := by
 have h0 : ∀ i, W'.cell? ⟨b, i, none⟩ = W.cell? ⟨b, i, none⟩ := fun i => World.cell?_of_block hb; have h1 : ∀ i, W'.frozen? ⟨b, i, none⟩ = W.frozen? ⟨b, i, none⟩ := fun i => World.frozen?_of_block hb; exact ⟨(h0 _).trans h.id, (h0 _).trans h.w, (h0 _).trans h.group, (h0 _).trans h.core, (h0 _).trans h.state, (h0 _).trans h.mask, (h0 _).trans h.lag, fun i => (h1 i).trans (h.live i)⟩
def rptr : Value → Option (DataW Unit × List MemPlace)
 | .pointer none => some (.lit (.bool false), [])
 | .pointer (some ⟨b, 0, none⟩) => some (.lit (.int .i64 b), [])
 | _ => none
theorem rptr_none {v : Value} {ps : List MemPlace} (h : rptr v = some (.lit (.bool false), ps)) : v = .pointer none := by
 unfold rptr at h; split at h
 · rfl
 · simp at h
 · cases h
theorem rptr_some {v : Value} {b : Nat} {ps : List MemPlace} (h : rptr v = some (.lit (.int .i64 (b : Int)), ps)) : v = .pointer (some ⟨b, 0, none⟩) := by
 unfold rptr at h; split at h
 · simp at h
 · simp at h; obtain ⟨h1, _⟩ := h; have h2 := Int.ofNat_inj.1 h1; subst h2; rfl
 · cases h
def ptrs (cbs : List Nat) : List Value := cbs.map fun b => .pointer (some ⟨b, 0, none⟩)
structure SysAt (W : World) (sb gb nb pb mb n : Nat) (cv : Value) (D : DataW Unit) (cbs : List Nat) (tb : Int → Nat) (own : Nat → Option Own) (s : Sy) : Prop where
 head : W.cell? ⟨sb, 0, none⟩ = some cv
 c1 : W.cell? ⟨sb, 1, none⟩ = some (.pointer (some ⟨gb, 0, none⟩))
 acc : ∀ i, i < 16 → W.cell? ⟨sb, 2 + i * 4, none⟩ = some (.int .i64 (s.acc.getD i default).1) ∧ W.cell? ⟨sb, 2 + i * 4 + 1, none⟩ = some (.int .i64 (s.acc.getD i default).2.1) ∧
  W.cell? ⟨sb, 2 + i * 4 + 2, none⟩ = some (.int .i64 (s.acc.getD i default).2.2.1) ∧ W.cell? ⟨sb, 2 + i * 4 + 3, none⟩ = some (.int .i64 (s.acc.getD i default).2.2.2)
 c66 : W.cell? ⟨sb, 66, none⟩ = some (.pointer (some ⟨nb, 0, none⟩))
 c67 : W.cell? ⟨sb, 67, none⟩ = some (.map (some mb))
 live : ∀ i, W.frozen? ⟨sb, i, none⟩ = false
 groups : GroupsAt W gb s.gs
 slots : SlotsAt W nb pb s.ps
 map : W.ownsMap Tryz.prog 3 rptr mb n D
 cnt : n ≤ s.cnt
 reads : ∀ id : Int, -9223372036854775808 ≤ id → id ≤ 9223372036854775807 → D.atKey (.int .i64 id) (.lit (.bool false)) = (match s.tasks id with | none => .lit (.bool false) | some _ => .lit (.int .i64 (tb id)))
 task : ∀ id t, s.tasks id = some t → TaskAt W (tb id) t ∧ own (tb id) = some (.task id)
 row : W.ownsRow 0 123 1 cv cbs.length (ptrs cbs)
 rown : ∀ k, cv.ownBlock = some k → own k = some .row
 num : cbs.length = s.cores.length
 core : ∀ i, i < cbs.length → CoreIn W cbs[i]! (fun k => own k = some (.core i)) s.cores[i]!
 osb : own sb = some .sys
 ogb : own gb = some .groups
 onb : own nb = some .names
 opb : own pb = some .places
 omb : own mb = some .map
 lt : ∀ k, own k ≠ none → k < W.heap.size
def SysIn (W : World) (sb : Nat) (own : Nat → Option Own) (s : Sy) : Prop :=
 ∃ (gb nb pb mb n : Nat) (cv : Value) (D : DataW Unit) (cbs : List Nat) (tb : Int → Nat), SysAt W sb gb nb pb mb n cv D cbs tb own s
theorem SlotsAt.same {w w' : World} {b a : Nat} {ps : List (Int × Bool)} (h : SlotsAt w b a ps) (h1 : w'.heap[b]? = w.heap[b]?) (h2 : w'.heap[a]? = w.heap[a]?) : SlotsAt w' b a ps := by
 obtain ⟨T, hr⟩ := h.row; exact ⟨(World.cell?_of_block (a := ⟨b, 0, none⟩) h1).trans h.head, h.ne, T, h2.trans hr⟩
theorem SysAt.same {W W' : World} {sb gb nb pb mb n : Nat} {cv : Value} {D : DataW Unit} {cbs : List Nat} {tb : Int → Nat} {own : Nat → Option Own} {s : Sy} (h : SysAt W sb gb nb pb mb n cv D cbs tb own s)
 (hs : W.heap.size ≤ W'.heap.size) (hb : ∀ k, own k ≠ none → W'.heap[k]? = W.heap[k]?) : SysAt W' sb gb nb pb mb n cv D cbs tb own s := by
 have bsb := hb sb (by rw [h.osb]; simp); have h0 : ∀ i, W'.cell? ⟨sb, i, none⟩ = W.cell? ⟨sb, i, none⟩ := fun i => World.cell?_of_block bsb; have h1 : ∀ i, W'.frozen? ⟨sb, i, none⟩ = W.frozen? ⟨sb, i, none⟩ := fun i => World.frozen?_of_block bsb; refine ⟨(h0 _).trans h.head, (h0 _).trans h.c1, fun i hi => ?_, (h0 _).trans h.c66, (h0 _).trans h.c67, fun i => (h1 i).trans (h.live i), h.groups.same (hb gb (by rw [h.ogb]; simp)), h.slots.same (hb nb (by rw [h.onb]; simp)) (hb pb (by rw [h.opb]; simp)),
  ownsMap_same h.map (hb mb (by rw [h.omb]; simp)), h.cnt, h.reads, fun id t ht => ?_, ownsRow_same h.row (fun k hk => hb k (by rw [h.rown k hk]; simp)), h.rown, h.num, fun i hi => (h.core i hi).same hs (fun k hk => hb k (by rw [hk]; simp)), h.osb, h.ogb, h.onb, h.opb, h.omb, fun k hk => Nat.lt_of_lt_of_le (h.lt k hk) hs⟩
 · obtain ⟨a1, a2, a3, a4⟩ := h.acc i hi; exact ⟨(h0 _).trans a1, (h0 _).trans a2, (h0 _).trans a3, (h0 _).trans a4⟩
 · obtain ⟨t1, t2⟩ := h.task id t ht; exact ⟨t1.same (hb _ (by rw [t2]; simp)), t2⟩
theorem SysAt.below {W W' : World} {sb gb nb pb mb n : Nat} {cv : Value} {D : DataW Unit} {cbs : List Nat} {tb : Int → Nat} {own : Nat → Option Own} {s : Sy} (h : SysAt W sb gb nb pb mb n cv D cbs tb own s)
 (hb : Below W.heap.size W W') : SysAt W' sb gb nb pb mb n cv D cbs tb own s := h.same hb.size (fun k hk => hb.block k (h.lt k hk))
theorem getElem!_set_co (l : List Co) (k j : Nat) (q : Co) (hj : j < l.length) : (l.set k q)[j]! = if k = j then q else l[j]! := by
 rw [getElem!_pos _ j (by simpa using hj), List.getElem_set, getElem!_pos l j hj]
open Classical in
theorem SysAt.setCore {W W' : World} {sb gb nb pb mb n : Nat} {cv : Value} {D : DataW Unit} {cbs : List Nat} {tb : Int → Nat} {own : Nat → Option Own} {s : Sy} (h : SysAt W sb gb nb pb mb n cv D cbs tb own s)
 {i : Nat} (hi : i < cbs.length) {F' : Nat → Prop} {c' : Co} (hc : CoreIn W' cbs[i]! F' c') (ht : Touch (fun k => own k = some (.core i)) W W') (hF : ∀ k, F' k → own k = some (.core i) ∨ W.heap.size ≤ k) :
 ∃ own', SysAt W' sb gb nb pb mb n cv D cbs tb own' ⟨s.cores.set i c', s.gs, s.acc, s.ps, s.tasks, s.cnt⟩ ∧ ∀ k, k < W.heap.size → own' k = own k := by
 refine ⟨fun k => if k < W.heap.size then own k else if F' k then some (.core i) else none, ?_, fun k hk => if_pos hk⟩; have hold : ∀ k x, own k = some x → (if k < W.heap.size then own k else if F' k then some (.core i) else none) = some x := fun k x hk => by
  rw [if_pos (h.lt k (by rw [hk]; simp))]; exact hk
 have hb : ∀ k x, own k = some x → x ≠ .core i → W'.heap[k]? = W.heap[k]? := fun k x hk hx => ht.block k (h.lt k (by rw [hk]; simp)) (by rw [hk]; simpa using hx); have bsb := hb sb _ h.osb (by simp); have h0 : ∀ i, W'.cell? ⟨sb, i, none⟩ = W.cell? ⟨sb, i, none⟩ := fun i => World.cell?_of_block bsb; have h1 : ∀ i, W'.frozen? ⟨sb, i, none⟩ = W.frozen? ⟨sb, i, none⟩ := fun i => World.frozen?_of_block bsb; have hlt' : ∀ k, (if k < W.heap.size then own k else if F' k then some (Own.core i) else none) ≠ none → k < W'.heap.size := by
  intro k hk; split at hk
  · rename_i hk2; exact Nat.lt_of_lt_of_le hk2 ht.size
  · split at hk
    · rename_i hk3; exact hc.lt k hk3
    · exact absurd rfl hk
 refine ⟨(h0 _).trans h.head, (h0 _).trans h.c1, fun j hj => ?_, (h0 _).trans h.c66, (h0 _).trans h.c67, fun j => (h1 j).trans (h.live j), h.groups.same (hb gb _ h.ogb (by simp)), h.slots.same (hb nb _ h.onb (by simp)) (hb pb _ h.opb (by simp)),
  ownsMap_same h.map (hb mb _ h.omb (by simp)), h.cnt, h.reads, fun id t hid => ?_, ownsRow_same h.row (fun k hk => hb k _ (h.rown k hk) (by simp)), fun k hk => hold k _ (h.rown k hk), by rw [List.length_set]; exact h.num, fun j hj => ?_,
  hold _ _ h.osb, hold _ _ h.ogb, hold _ _ h.onb, hold _ _ h.opb, hold _ _ h.omb, hlt'⟩
 · obtain ⟨a1, a2, a3, a4⟩ := h.acc j hj; exact ⟨(h0 _).trans a1, (h0 _).trans a2, (h0 _).trans a3, (h0 _).trans a4⟩
 · obtain ⟨t1, t2⟩ := h.task id t hid; exact ⟨t1.same (hb _ _ t2 (by simp)), hold _ _ t2⟩
 · simp only
   rw [getElem!_set_co _ _ _ _ (by rw [← h.num]; exact hj)]; by_cases e : i = j
   · subst e; rw [if_pos rfl]; refine hc.wider (fun k hk => ?_) (fun k hk => hlt' k (by rw [hk]; simp)); rcases hF k hk with h5 | h5
     · exact hold k _ h5
     · rw [if_neg (by omega), if_pos hk]
   · rw [if_neg e]; have hcj := h.core j hj; have hcj' : CoreIn W' cbs[j]! (fun k => own k = some (.core j)) s.cores[j]! := hcj.same ht.size (fun k hk => hb k _ hk (by simp; omega)); exact hcj'.wider (fun k hk => hold k _ hk) (fun k hk => hlt' k (by rw [hk]; simp))
end Go.Proofs.YtoiajjobecinpaaGreat
