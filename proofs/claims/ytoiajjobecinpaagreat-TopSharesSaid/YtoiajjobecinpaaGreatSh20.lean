/- Own law: append of one known run of cells at a plain region's list, inside a fence. Masks. The least load. All loads; the core with the least. -/
import Derived.Sort.BigQuietIn
import Derived.BigQuiet
import Derived.StillTail
import Derived.Test.YtoiajjobecinpaaGreatRows
import Derived.WalkKit
import Derived.ProofKit
import Derived.Below
import Derived.Lib.Hide
import Derived.Laws.AppendOwn
import Derived.Shelf.SlicesQ.IndexFunc
import Derived.Ground.SlgfProg
import Derived.Deep.QuietTactic
import Derived.Deep.DeepCutAuto
import Derived.Deep.RegionHeld3
import Derived.Ground.SlsfProg
import Derived.Deep.AppendLies
import Derived.Deep.RegionLaw
import Derived.Lib.SlBy
import Derived.Shelf.Bits.Mul64
import Derived.Shelf.Spec.BitsCarry
import Derived.Shelf.Lay
import Derived.Ground.NamesProg
import Derived.Ground.Names7Prog
import Derived.Maps.Views
import Derived.Maps.OwnSet
import Derived.RangeFuncNested
import Derived.RangeFuncBound
import Derived.RangeFuncCalls
import Derived.RangeFuncLeaves
import Derived.RangeFuncFrom
import Derived.Shelf.Abstract
import Derived.Shelf.RegionOpen
import Derived.OwnWalkIn
import Derived.TacticsInMore
import Derived.LoopNIn
import Derived.LoopIn
import Derived.WalkSpells
import Derived.WalkLawsBesides
import Derived.WalkMore
import Derived.Lib.SliceRun
import Derived.Laws.BytesArg
import Derived.Shelf.Bytes.SlEqualAll
import Derived.WalkSmall
import Derived.OwnWalk
import Derived.Shelf.SlicesQ.Equal
import Derived.Laws.StructEq
import Derived.Ground.SlgqProg
import Derived.Test.YtoiajjobecinpaaGreatSh19

namespace Go.Proofs.YtoiajjobecinpaaGreat
set_option linter.unusedSimpArgs false
open Go.RowKit Go.Shelf Go.Lib Go.Proofs
set_option linter.unusedVariables false

theorem wpListIn_append_lies {F : Fence} {n0 : Nat} {P : Program} (w : World) {ops : Array Oper} {rest : List Oper} {o : Oper} {a : Act} {Q : Exit → Act → World → Prop} (hgd : o.guard = none) (s x : Operand) (t : TypeId)
    (ho : o.op = .call { callee := .builtin .append, args := #[s, x], argTypes := #[t, t] })
    (base : Nat) (e : TypeId) (i : TypeInfo) (z : Value) (size bytes : Nat) (ht : P.underlying t = some (.slice e)) (hi : P.info? e = some i) (hz : i.zero = some z)
    (hsize : i.size = size) (hby : i.bytes = bytes) (hzs : z.cells.size = size) (hsz : 0 < size)
    (v : Value) (n : Nat) (xs : List Value) (hs : a.eval s = v) (hown : w.ownsRow base e size v n xs)
    (ad : Addr) (m c : Nat) (news : List Value) (hx : a.eval x = .slice (some ad) m c) (hl : news.length = m * size) (hnews : ∀ j u, news[j]? = some u → w.cell? (ad.add j) = some u) (h1 : ∀ u ∈ news, u.oneCell' = true)
    (hm : 0 < m) (h63 : n + m ≤ maxLen) (hbytes : (n + m) * bytes ≤ 140737488355328) (hbase : base ≤ w.heap.size) (H : Nat) (hH : w.heap.size = H)
    (h : ∀ g cap w', w'.ownsRow base e size (.slice (some ⟨g, 0, none⟩) (n + m) cap) (n + m) (xs ++ news) → w.grownBy w' v.ownBlock → (v.ownBlock = some g ∨ g = H) → g < w'.heap.size → wpListIn F n0 P ops Q rest (a.put o.dst (.slice (some ⟨g, 0, none⟩) (n + m) cap)) w') :
    wpListIn F n0 P ops Q (o :: rest) a w := by
  refine wpListIn_plain hgd fun K hK => ?_
  obtain ⟨g, cap, w', hr, h2, h3, h4, h5⟩ := run_append_lies (P := P) w t o.type base e i z size bytes ht hi hz hsize hby hzs hsz v n xs hown ad m c news hl hnews h1 hm h63 hbytes hbase H hH
  unfold Oper.wpIn
  refine ⟨by simp [Oper.about, ho, resolve, Target.leads, Sem.run_pure], ?_⟩
  rw [Oper.semAt_plain F _ _ (by rw [ho]; intro c hc'; cases hc')]
  simp [execOp, ho, resolve, invoke, builtin, hs, hx, hr, Result.andThen]
  exact hK _ _ (h g cap w' h2 h3 h4 h5)

end Go.Proofs.YtoiajjobecinpaaGreat

namespace Go.Proofs.YtoiajjobecinpaaGreat
open Go.RowKit Go.Shelf Go.Lib Go.Proofs
set_option linter.unusedVariables false
set_option linter.unusedSimpArgs false
attribute [local go_sem] Oper.semAt_some

/-- Whether a core is in a set. -/
def hasM (m c : Int) : Bool := decide (0 ≤ c) && (decide (c < 16) && (bits BinOp.and IntKind.u16 (m / 2 ^ c.toNat) 1 == 1))

theorem mhas_any (m c : Int) (hm : 0 ≤ m ∧ m < 65536) (W : World) :
    Calls Tryz.prog 20 #[.int .u16 m, .int .i64 c] W fun e w' => e = .returned (.bool (hasM m c)) ∧ W = w' := by
  unfold hasM
  by_cases h1 : 0 ≤ c
  · by_cases h2 : c < 16
    · rw [decide_eq_true h1, decide_eq_true h2]
      go_enter Tryz.func20, Tryz.ntmps20
      go_wp2
      go_ret
      exact ⟨by simp, rfl⟩
    · rw [decide_eq_false h2]
      go_enter Tryz.func20, Tryz.ntmps20
      go_wp2
      go_ret
      exact ⟨by simp, rfl⟩
  · rw [decide_eq_false h1]
    go_enter Tryz.func20, Tryz.ntmps20
    go_wp2
    go_ret
    exact ⟨by simp, rfl⟩

/-- All numbers of cores. -/
def all16 : List G16 := (List.finRange 16).map fun i => ⟨(i.val : Int), by omega, by omega⟩
/-- The cores of a set. -/
def listM (m : Int) : List G16 := all16.filter fun x => hasM m x.1

theorem all16_len : all16.length = 16 := by simp [all16]
theorem all16_get (k : Nat) (hk : k < 16) : all16[k]'(by rw [all16_len]; exact hk) = ⟨(k : Int), by omega, by omega⟩ := by simp [all16]

theorem all16_take (m : Int) (k : Nat) (hk : k < 16) : (all16.take (k + 1)).filter (fun x => hasM m x.1) = (all16.take k).filter (fun x => hasM m x.1) ++ (if hasM m k = true then [⟨(k : Int), by omega, by omega⟩] else []) := by
  rw [List.take_succ_eq_append_getElem (by rw [all16_len]; exact hk), List.filter_append, all16_get k hk]
  simp [List.filter_cons]

theorem listM_len (m : Int) (k : Nat) (hk : k < 16) (h : hasM m k = true) : ((all16.take k).filter (fun x => hasM m x.1)).length < (listM m).length := by
  have h1 := all16_take m k hk
  rw [if_pos h] at h1
  have h2 : ((all16.take (k + 1)).filter (fun x => hasM m x.1)).length ≤ (listM m).length := ((List.take_sublist _ _).filter _).length_le
  rw [h1, List.length_append] at h2
  simp at h2
  omega

theorem listM_all (m : Int) (k : Nat) (hk : ¬ k < 16) : (all16.take k).filter (fun x => hasM m x.1) = listM m := by
  rw [List.take_of_length_le (by rw [all16_len]; omega)]; rfl

theorem listM_pre (m : Int) (k : Nat) : (all16.take k).filter (fun x => hasM m x.1) <+: listM m := by
  unfold listM
  conv => rhs; rw [← List.take_append_drop k all16, List.filter_append]
  exact List.prefix_append _ _

set_option maxRecDepth 100000 in
set_option maxHeartbeats 1000000 in
theorem mall1_in (n : Nat) (hn : 2 ≤ n) (l Bm : Nat) (m : Int) (hm : 0 ≤ m ∧ m < 65536) (J Jx : List G16 → World → Prop)
    (hY : ∀ pre x W, J pre W → pre.length < (listM m).length → YieldAt Fence.wide (n - 1) Tryz.prog l #[.int .i64 x.1] W fun e W' =>
      (e = .returned (.bool true) ∧ J (pre ++ [x]) W' ∧ KpG Bm Bm W W') ∨ (e = .returned (.bool false) ∧ Jx (pre ++ [x]) W'))
    (W : World) (hBm : W.cell? ⟨Bm, 0, none⟩ = some (.int .u16 m)) (h0 : J [] W) :
    CallsIn Fence.wide n Tryz.prog 190 #[.func (.yield l) #[] #[], .pointer (some ⟨Bm, 0, none⟩)] W fun e W' => (∃ v, e = .returned v) ∧
      ((∃ ys, ys = listM m ∧ J ys W') ∨ (∃ pre, pre <+: listM m ∧ Jx pre W')) := by
  have h1 : 1 ≤ n := by omega
  have h2 : 1 ≤ n - 1 := by omega
  refine callsIn_of_wp Tryz.func190 rfl trivial ?_ rfl
  simp only [Tryz.ntmps190, List.size_toArray, List.length_cons, List.length_nil, Nat.reduceAdd, Nat.reduceSub, Array.replicate_succ, Array.replicate_zero, List.push_toArray, List.append_toArray, List.nil_append, List.cons_append]
  gi_wp2
  gi_loopw [4] (fun p wr => ∃ k : Nat, k ≤ 16 ∧ p = .int .i64 k ∧ J ((all16.take k).filter (fun x => hasM m x.1)) wr ∧ wr.cell? ⟨Bm, 0, none⟩ = some (.int .u16 m))
    (fun p wr => 16 - (intOf p).toNat)
  case atStart =>
    exact ⟨0, by omega, rfl, h0, hBm⟩
  case round =>
    obtain ⟨k, hk, rfl, hJs, hgc⟩ := hrel
    by_cases hk16 : k < 16
    · have hi : (k : Int) < 16 := by omega
      have htk := all16_take m k hk16
      have hhas := mhas_any m k hm wr
      by_cases hh : hasM m k = true
      · rw [if_pos hh] at htk
        rw [hh] at hhas
        obtain ⟨fn, tmps, assign, body, hy, hR⟩ := hY _ ⟨(k : Int), by omega, by omega⟩ wr hJs (listM_len m k hk16 hh)
        dsimp only at hy
        gi_wp2_with (refine ⟨trivial, ?_⟩; gi_at_call 20; refine (callsIn_wide.2 hhas).mono ?_; rintro e w' ⟨rfl, rfl⟩)
        refine hR.mono ?_
        rintro e W3 (⟨rfl, hJ3, hk3⟩ | ⟨rfl, hJx3⟩)
        · have hgc3 : W3.cell? ⟨Bm, 0, none⟩ = some (.int .u16 m) := (World.cell?_of_block (a := ⟨Bm, 0, none⟩) hk3.2).trans hgc
          rw [← htk] at hJ3
          gi_wp2
          go_roundw
          case rel => exact ⟨k + 1, by omega, by go_num, hJ3, hgc3⟩
          case measure => simp [intOf]; omega
        · gi_wp2
          refine bodyPost_ret (results_none rfl _ _ _) rfl ?_
          refine ⟨⟨_, rfl⟩, .inr ⟨_, ?_, hJx3⟩⟩
          rw [← htk]; exact listM_pre m (k + 1)
      · rw [if_neg hh, List.append_nil] at htk
        rw [Bool.not_eq_true] at hh
        rw [hh] at hhas
        rw [← htk] at hJs
        gi_wp2_with (refine ⟨trivial, ?_⟩; gi_at_call 20; refine (callsIn_wide.2 hhas).mono ?_; rintro e w' ⟨rfl, rfl⟩)
        refine ⟨fun _ h => (by cases h), ?_⟩
        gi_wp2
        go_roundw
        case rel => exact ⟨k + 1, by omega, by go_num, hJs, hgc⟩
        case measure => simp [intOf]; omega
    · have hi : ¬ (k : Int) < 16 := by omega
      rw [listM_all m k hk16] at hJs
      gi_wp2
      go_end0
      exact ⟨⟨_, rfl⟩, .inl hJs⟩

theorem mall_any (m : Int) (W : World) :
    Calls Tryz.prog 178 #[.int .u16 m] W fun e w' => e = .returned (.func (.func 190) #[] #[.pointer (some ⟨W.heap.size, 0, none⟩)]) ∧ W.alloc (.cells #[.int .u16 m] 58) = w' := by
  go_enter Tryz.func178, Tryz.ntmps178
  go_wp2
  go_ret
  exact ⟨by simp, rfl⟩

theorem mall_stops (n : Nat) (hn : 2 ≤ n) (Bm : Nat) (m : Int) (hm : 0 ≤ m ∧ m < 65536) (w : World) (hBm : Bm < w.heap.size) (c1 : w.cell? ⟨Bm, 0, none⟩ = some (.int .u16 m)) :
    SeqStopsK Fence.wide n Tryz.prog 190 #[.pointer (some ⟨Bm, 0, none⟩)] (fun x : G16 => #[Value.int .i64 x.1]) (KpG Bm Bm) (fun ys => ys = listM m) (fun pre => pre <+: listM m) (listM m).length w := fun l J Jx W hW _ _ hY h0 =>
  mall1_in n hn l Bm m hm J Jx hY W ((hW.cell (p := ⟨Bm, 0, none⟩) hBm).trans c1) h0

end Go.Proofs.YtoiajjobecinpaaGreat

namespace Go.Proofs.YtoiajjobecinpaaGreat
open Go.RowKit Go.Shelf Go.Lib Go.Proofs
set_option linter.unusedVariables false
set_option linter.unusedSimpArgs false
attribute [local go_sem] Oper.semAt_some

def lstep (loads : List Int) (a : Int × Bool) (x : G16) : Int × Bool :=
  if x.1 < loads.length ∧ (a.2 = false ∨ loads.getD x.1.toNat 0 < loads.getD a.1.toNat 0) then (x.1, true) else a
def leastL (loads : List Int) (m : Int) : Int × Bool := (listM m).foldl (lstep loads) (0, false)

theorem lstep_bd {loads : List Int} {a : Int × Bool} {x : G16} (h : a.2 = true → 0 ≤ a.1 ∧ a.1 < loads.length) (h' : (lstep loads a x).2 = true) : 0 ≤ (lstep loads a x).1 ∧ (lstep loads a x).1 < loads.length := by
  unfold lstep at h' ⊢
  have := x.2
  split at h' <;> rename_i hc
  · rw [if_pos hc]; exact ⟨this.1, hc.1⟩
  · rw [if_neg hc]; exact h h'

theorem lfold_bd {loads : List Int} : ∀ (xs : List G16) (a : Int × Bool), (a.2 = true → 0 ≤ a.1 ∧ a.1 < loads.length) → (xs.foldl (lstep loads) a).2 = true → 0 ≤ (xs.foldl (lstep loads) a).1 ∧ (xs.foldl (lstep loads) a).1 < loads.length
  | [], a, h => h
  | x :: xs, a, h => lfold_bd xs (lstep loads a x) (lstep_bd h)

set_option maxRecDepth 100000 in
set_option maxHeartbeats 4000000 in
theorem lleast_any (g c : Nat) (loads : List Int) (m : Int) (w : World) (hm : 0 ≤ m ∧ m < 65536) (hn : loads.length ≤ 16) (hcell : ∀ i, i < loads.length → w.cell? ⟨g, i, none⟩ = some (.int .i64 (loads.getD i 0))) :
    Calls Tryz.prog 150 #[.slice (some ⟨g, 0, none⟩) loads.length c, .int .u16 m] w fun e W' => e = .returned (.tuple #[.int .i64 (leastL loads m).1, .bool (leastL loads m).2]) ∧ Below w.heap.size w W' := by
  have h1 : 1 ≤ 5 := by omega
  refine callsIn_wide.1 (callsIn_of_wp_marks (n := 5) Tryz.func150 rfl trivial (wpIn_wide.2 ?_) rfl)
  simp only [Tryz.ntmps150, List.size_toArray, List.length_cons, List.length_nil, Nat.reduceAdd, Nat.reduceSub, Array.replicate_succ, Array.replicate_zero, List.push_toArray, List.append_toArray, List.nil_append, List.cons_append]
  go_wp2_with (go_at_call 178; refine (mall_any m _).mono ?_; rintro e w' ⟨rfl, rfl⟩)
  have q0 := cell_new_l w (.slice (some ⟨g, 0, none⟩) loads.length c) 42
  have q1 := cell_new_l (w.alloc (.cells #[.slice (some ⟨g, 0, none⟩) loads.length c] 42)) (.int .i64 0) 3
  have q2 := cell_new_l ((w.alloc (.cells #[.slice (some ⟨g, 0, none⟩) loads.length c] 42)).alloc (.cells #[.int .i64 0] 3)) (.bool false) 4
  have q3 := cell_new_l (((w.alloc (.cells #[.slice (some ⟨g, 0, none⟩) loads.length c] 42)).alloc (.cells #[.int .i64 0] 3)).alloc (.cells #[.bool false] 4)) (.int .u16 m) 58
  have f1 := frozen_alloc_l (.cells #[.int .u16 m] 58) (c2a (.cells #[.bool false] 4) q1.1) (frozen_alloc_l (.cells #[.bool false] 4) q1.1 q1.2)
  have f2 := frozen_alloc_l (.cells #[.int .u16 m] 58) q2.1 q2.2
  replace q0 := c2a (.cells #[.int .u16 m] 58) (c2a (.cells #[.bool false] 4) (c2a (.cells #[.int .i64 0] 3) q0.1))
  replace q1 := c2a (.cells #[.int .u16 m] 58) (c2a (.cells #[.bool false] 4) q1.1)
  replace q2 := c2a (.cells #[.int .u16 m] 58) q2.1
  replace q3 := q3.1
  simp only [World.size_alloc] at q0 q1 q2 q3 f1 f2
  have hB0 : Below w.heap.size w ((((w.alloc (.cells #[.slice (some ⟨g, 0, none⟩) loads.length c] 42)).alloc (.cells #[.int .i64 0] 3)).alloc (.cells #[.bool false] 4)).alloc (.cells #[.int .u16 m] 58)) := ((((Below.refl _ w).alloc (Nat.le_refl _) _).alloc (by simp) _).alloc (by simp; omega) _).alloc (by simp; omega) _
  have hz : ((((w.alloc (.cells #[.slice (some ⟨g, 0, none⟩) loads.length c] 42)).alloc (.cells #[.int .i64 0] 3)).alloc (.cells #[.bool false] 4)).alloc (.cells #[.int .u16 m] 58)).heap.size = w.heap.size + 1 + 1 + 1 + 1 := by simp
  generalize (((w.alloc (.cells #[.slice (some ⟨g, 0, none⟩) loads.length c] 42)).alloc (.cells #[.int .i64 0] 3)).alloc (.cells #[.bool false] 4)).alloc (.cells #[.int .u16 m] 58) = W1 at q0 q1 q2 q3 f1 f2 hB0 hz ⊢
  refine (wpIn_wide (n := 5)).1 (wpIn_rangeFunc_ownF rfl h1 (gf := 190) (lb := #[.pointer (some ⟨w.heap.size + 1 + 1 + 1, 0, none⟩)]) rfl trivial (enters_of Tryz.func190 (by kernel_rfl) rfl)
    (mall_stops (5 - 1) (by omega) (w.heap.size + 1 + 1 + 1) m hm W1 (by omega) q3) KpG.t (KpG.b (by omega) (by omega)) (Below.refl _ _) (fun _ => rfl)
    (fun pre W => (W1.heap.size ≤ W.heap.size ∧ W.cell? ⟨w.heap.size, 0, none⟩ = some (.slice (some ⟨g, 0, none⟩) loads.length c) ∧ (W.cell? ⟨w.heap.size + 1, 0, none⟩ = some (.int .i64 (pre.foldl (lstep loads) (0, false)).1) ∧ W.frozen? ⟨w.heap.size + 1, 0, none⟩ = false) ∧ (W.cell? ⟨w.heap.size + 1 + 1, 0, none⟩ = some (.bool (pre.foldl (lstep loads) (0, false)).2) ∧ W.frozen? ⟨w.heap.size + 1 + 1, 0, none⟩ = false)) ∧ Below w.heap.size w W)
    (fun _ _ _ => False)
    (OwnFrom.and (Own.from (fun s A B row hs hg hr => ⟨Nat.le_trans hs.1 hg.size, cell_kept hs.2.1 hg hr, ⟨cell_kept hs.2.2.1.1 hg hr, (frozen_kept hs.2.2.1.1 hg hr).trans hs.2.2.1.2⟩, ⟨cell_kept hs.2.2.2.1 hg hr, (frozen_kept hs.2.2.2.1 hg hr).trans hs.2.2.2.2⟩⟩) _) (ownFrom_below (Nat.le_refl _) (by omega)))
    (fun _ _ _ _ _ hs _ _ => hs)
    ⟨⟨Nat.le_refl _, q0, ⟨q1, f1⟩, ⟨q2, f2⟩⟩, hB0⟩
    (fun x => { tmps := #[Value.slice (some ⟨g, 0, none⟩) loads.length c, .int .u16 m, .pointer (some ⟨w.heap.size, 0, none⟩), undef, .int .i64 0, .bool false, .pointer (some ⟨w.heap.size + 1, 0, none⟩), .pointer (some ⟨w.heap.size + 1 + 1, 0, none⟩), .int .i64 x.1, .int .u16 m, .func (.func 190) #[] #[.pointer (some ⟨w.heap.size + 1 + 1 + 1, 0, none⟩)], .int .i64 x.1, undef, undef, undef, undef, undef, undef, undef, undef, undef, undef, undef, undef, undef, undef, undef, undef, undef, undef, undef, undef, undef, undef], defers := [] }) ?assign ?body ?done ?stop)
  case assign =>
    intro l x W K hK
    gi_wp2
    simpa using hK
  case body =>
    rintro l pre ⟨x, hx0, hx1⟩ W ⟨⟨hwz, hk0, ⟨hb, hbf⟩, ⟨ho, hof⟩⟩, hB⟩ hpl
    have e1 : 1 ≤ 5 - 1 - 1 := by omega
    have hbd := lfold_bd (loads := loads) pre (0, false) (by simp)
    have hfold : (pre ++ [(⟨x, hx0, hx1⟩ : G16)]).foldl (lstep loads) (0, false) = lstep loads (pre.foldl (lstep loads) (0, false)) ⟨x, hx0, hx1⟩ := by rw [List.foldl_append]; rfl
    obtain ⟨a, ha⟩ : ∃ a, pre.foldl (lstep loads) (0, false) = a := ⟨_, rfl⟩
    rw [ha] at hb ho hbd hfold
    obtain ⟨k, rfl⟩ := Int.eq_ofNat_of_zero_le hx0
    obtain ⟨best, ok⟩ := a
    simp only at hb ho hbd
    clear q0 q1 q2 q3 f1 f2
    have hmx : Tryz.prog.follows .mixedOrders = true := by kernel_rfl
    obtain ⟨n, hn'⟩ : ∃ n, loads.length = n := ⟨_, rfl⟩
    by_cases hk : k < loads.length
    · cases ok with
      | false =>
        have hst : lstep loads (best, false) ⟨(k : Int), hx0, hx1⟩ = ((k : Int), true) := by unfold lstep; rw [if_pos ⟨by simp; omega, .inl rfl⟩]
        rw [hst] at hfold
        have HF := Lib.hid hfold
        rw [hn'] at hk0 ⊢
        have hkn : (k : Int) < (n : Int) := by omega
        clear hst hfold ha hcell
        gi_wp2
        refine wpIn_quiet_round rfl hmx (by kernel_rfl) (by kernel_rfl) ?_
        repeat (gi_big_quiet_step (fail))
        refine wpQuietIn_nil ?_
        intro _ hw'
        obtain ⟨nq, hw''⟩ := hw'
        subst hw''
        have hd : Below W.heap.size W (W.drewN nq) := below_drewN (Below.refl _ _) _
        have hb2 : (W.drewN nq).cell? ⟨w.heap.size + 1, 0, none⟩ = some (.int .i64 best) := hb
        have ho2 : (W.drewN nq).cell? ⟨w.heap.size + 1 + 1, 0, none⟩ = some (.bool false) := ho
        have hk2 : (W.drewN nq).cell? ⟨w.heap.size, 0, none⟩ = some (.slice (some ⟨g, 0, none⟩) n c) := hk0
        have hbf2 : (W.drewN nq).frozen? ⟨w.heap.size + 1, 0, none⟩ = false := hbf
        have hof2 : (W.drewN nq).frozen? ⟨w.heap.size + 1 + 1, 0, none⟩ = false := hof
        have hz2 : W.heap.size ≤ (W.drewN nq).heap.size := hd.size
        generalize W.drewN nq = W2 at hd hb2 ho2 hk2 hbf2 hof2 hz2 ⊢
        gi_wp2
        refine ⟨(keeps_below hd).trans ((KeepsOthers.setCell _ _ _).trans (KeepsOthers.setCell _ _ _)), ⟨(Below.heap_setCell _ _ _ _ (by first | (simp; done) | (simp; omega))).trans ((Below.heap_setCell _ _ _ _ (by first | (simp; done) | (simp; omega))).trans (hd.block _ (by omega))), (Below.heap_setCell _ _ _ _ (by first | (simp; done) | (simp; omega))).trans ((Below.heap_setCell _ _ _ _ (by first | (simp; done) | (simp; omega))).trans (hd.block _ (by omega)))⟩, ⟨by simp; omega, ?_, ⟨?_, ?_⟩, ⟨?_, ?_⟩⟩, ?_⟩
        · rw [cell_setCell_ne _ (by first | (simp; done) | (simp; omega)), cell_setCell_ne _ (by first | (simp; done) | (simp; omega))]; exact hk2
        · rw [cell_setCell_ne _ (by simp), HF.out]; exact World.cell?_setCell_same _ _ _ hb2
        · rw [World.frozen?_setCell, World.frozen?_setCell]; exact hbf2
        · rw [HF.out]; exact World.cell?_setCell_same _ _ _ (by rw [cell_setCell_ne _ (by simp)]; exact ho2)
        · rw [World.frozen?_setCell, World.frozen?_setCell]; exact hof2
        · exact ((hB.trans (hd.mono hB.size)).setCell (p := ⟨w.heap.size + 1, 0, none⟩) (by simp) _).setCell (p := ⟨w.heap.size + 1 + 1, 0, none⟩) (by simp; omega) _
      | true =>
        obtain ⟨hb0, hb1⟩ := hbd rfl
        obtain ⟨j, rfl⟩ := Int.eq_ofNat_of_zero_le hb0
        have hck := (hB.cell (p := ⟨g, k, none⟩) (World.block_lt_of_cell? w _ (hcell k hk))).trans (hcell k hk)
        have hcj := (hB.cell (p := ⟨g, j, none⟩) (World.block_lt_of_cell? w _ (hcell j (by omega)))).trans (hcell j (by omega))
        have hst0 : lstep loads ((j : Int), true) ⟨(k : Int), hx0, hx1⟩ = if loads.getD k 0 < loads.getD j 0 then ((k : Int), true) else ((j : Int), true) := by
          unfold lstep
          by_cases hlt : loads.getD k 0 < loads.getD j 0
          · rw [if_pos ⟨by simp; omega, .inr (by simpa using hlt)⟩, if_pos hlt]
          · rw [if_neg (fun hh => hh.2.elim (fun h3 => by cases h3) (fun h3 => hlt (by simpa using h3))), if_neg hlt]
        rw [hst0] at hfold
        have HF := Lib.hid hfold
        rw [hn'] at hk0 ⊢ hb1
        have hkn : (k : Int) < (n : Int) := by omega
        clear hst0 hfold ha hbd hcell
        generalize loads.getD k 0 = x at hck HF
        generalize loads.getD j 0 = y at hcj HF
        by_cases hlt : x < y
        · rw [if_pos hlt] at HF
          gi_wp2
          refine wpIn_quiet_round rfl hmx (by kernel_rfl) (by kernel_rfl) ?_
          repeat (gi_big_quiet_step (fail))
          refine wpQuietIn_nil ?_
          intro _ hw'
          obtain ⟨nq, hw''⟩ := hw'
          subst hw''
          have hd : Below W.heap.size W (W.drewN nq) := below_drewN (Below.refl _ _) _
          have hb2 : (W.drewN nq).cell? ⟨w.heap.size + 1, 0, none⟩ = some (.int .i64 j) := hb
          have ho2 : (W.drewN nq).cell? ⟨w.heap.size + 1 + 1, 0, none⟩ = some (.bool true) := ho
          have hk2 : (W.drewN nq).cell? ⟨w.heap.size, 0, none⟩ = some (.slice (some ⟨g, 0, none⟩) n c) := hk0
          have hbf2 : (W.drewN nq).frozen? ⟨w.heap.size + 1, 0, none⟩ = false := hbf
          have hof2 : (W.drewN nq).frozen? ⟨w.heap.size + 1 + 1, 0, none⟩ = false := hof
          have hz2 : W.heap.size ≤ (W.drewN nq).heap.size := hd.size
          generalize W.drewN nq = W2 at hd hb2 ho2 hk2 hbf2 hof2 hz2 ⊢
          gi_wp2
          refine ⟨(keeps_below hd).trans ((KeepsOthers.setCell _ _ _).trans (KeepsOthers.setCell _ _ _)), ⟨(Below.heap_setCell _ _ _ _ (by first | (simp; done) | (simp; omega))).trans ((Below.heap_setCell _ _ _ _ (by first | (simp; done) | (simp; omega))).trans (hd.block _ (by omega))), (Below.heap_setCell _ _ _ _ (by first | (simp; done) | (simp; omega))).trans ((Below.heap_setCell _ _ _ _ (by first | (simp; done) | (simp; omega))).trans (hd.block _ (by omega)))⟩, ⟨by simp; omega, ?_, ⟨?_, ?_⟩, ⟨?_, ?_⟩⟩, ?_⟩
          · rw [cell_setCell_ne _ (by first | (simp; done) | (simp; omega)), cell_setCell_ne _ (by first | (simp; done) | (simp; omega))]; exact hk2
          · rw [cell_setCell_ne _ (by simp), HF.out]; exact World.cell?_setCell_same _ _ _ hb2
          · rw [World.frozen?_setCell, World.frozen?_setCell]; exact hbf2
          · rw [HF.out]; exact World.cell?_setCell_same _ _ _ (by rw [cell_setCell_ne _ (by simp)]; exact ho2)
          · rw [World.frozen?_setCell, World.frozen?_setCell]; exact hof2
          · exact ((hB.trans (hd.mono hB.size)).setCell (p := ⟨w.heap.size + 1, 0, none⟩) (by simp) _).setCell (p := ⟨w.heap.size + 1 + 1, 0, none⟩) (by simp; omega) _
        · rw [if_neg hlt] at HF
          have hle : y ≤ x := by omega
          gi_wp2
          refine wpIn_quiet_round rfl hmx (by kernel_rfl) (by kernel_rfl) ?_
          repeat (gi_big_quiet_step (fail))
          refine wpQuietIn_nil ?_
          intro _ hw'
          obtain ⟨nq, hw''⟩ := hw'
          subst hw''
          have hd : Below W.heap.size W (W.drewN nq) := below_drewN (Below.refl _ _) _
          have hb2 : (W.drewN nq).cell? ⟨w.heap.size + 1, 0, none⟩ = some (.int .i64 j) := hb
          have ho2 : (W.drewN nq).cell? ⟨w.heap.size + 1 + 1, 0, none⟩ = some (.bool true) := ho
          have hk2 : (W.drewN nq).cell? ⟨w.heap.size, 0, none⟩ = some (.slice (some ⟨g, 0, none⟩) n c) := hk0
          have hbf2 : (W.drewN nq).frozen? ⟨w.heap.size + 1, 0, none⟩ = false := hbf
          have hof2 : (W.drewN nq).frozen? ⟨w.heap.size + 1 + 1, 0, none⟩ = false := hof
          have hz2 : W.heap.size ≤ (W.drewN nq).heap.size := hd.size
          generalize W.drewN nq = W2 at hd hb2 ho2 hk2 hbf2 hof2 hz2 ⊢
          gi_wp2
          refine ⟨keeps_below hd, kpg_below hd (by omega) (by omega), ⟨by omega, hk2, ⟨by rw [HF.out]; exact hb2, hbf2⟩, ⟨by rw [HF.out]; exact ho2, hof2⟩⟩, hB.trans (hd.mono hB.size)⟩
    · have hst : lstep loads (best, ok) ⟨(k : Int), hx0, hx1⟩ = (best, ok) := by unfold lstep; rw [if_neg (fun hh => by have := hh.1; simp at this; omega)]
      rw [hst] at hfold
      have HF := Lib.hid hfold
      rw [hn'] at hk0 ⊢
      have hkn : decide ((k : Int) < (n : Int)) = false := decide_eq_false (by omega)
      have hkn2 : decide (k < n) = false := decide_eq_false (by omega)
      clear hst hfold ha hcell
      gi_wp2
      refine wpIn_quiet_round rfl hmx (by kernel_rfl) (by kernel_rfl) ?_
      repeat (gi_big_quiet_step (fail))
      refine wpQuietIn_nil ?_
      intro _ hw'
      obtain ⟨nq, hw''⟩ := hw'
      subst hw''
      have hd : Below W.heap.size W (W.drewN nq) := below_drewN (Below.refl _ _) _
      have hb2 : (W.drewN nq).cell? ⟨w.heap.size + 1, 0, none⟩ = some (.int .i64 best) := hb
      have ho2 : (W.drewN nq).cell? ⟨w.heap.size + 1 + 1, 0, none⟩ = some (.bool ok) := ho
      have hk2 : (W.drewN nq).cell? ⟨w.heap.size, 0, none⟩ = some (.slice (some ⟨g, 0, none⟩) n c) := hk0
      have hbf2 : (W.drewN nq).frozen? ⟨w.heap.size + 1, 0, none⟩ = false := hbf
      have hof2 : (W.drewN nq).frozen? ⟨w.heap.size + 1 + 1, 0, none⟩ = false := hof
      have hz2 : W.heap.size ≤ (W.drewN nq).heap.size := hd.size
      generalize W.drewN nq = W2 at hd hb2 ho2 hk2 hbf2 hof2 hz2 ⊢
      gi_wp2
      refine ⟨keeps_below hd, kpg_below hd (by omega) (by omega), ⟨by omega, hk2, ⟨by rw [HF.out]; exact hb2, hbf2⟩, ⟨by rw [HF.out]; exact ho2, hof2⟩⟩, hB.trans (hd.mono hB.size)⟩
  case done =>
    rintro D ys W hD rfl ⟨⟨hwz, hk0, ⟨hb, hbf⟩, ⟨ho, hof⟩⟩, hB⟩ hK
    rw [show (listM m).foldl (lstep loads) (0, false) = leastL loads m from rfl] at hb ho
    obtain ⟨x1, hx1⟩ : ∃ x, (leastL loads m).1 = x := ⟨_, rfl⟩
    obtain ⟨x2, hx2⟩ : ∃ x, (leastL loads m).2 = x := ⟨_, rfl⟩
    rw [hx1] at hb
    rw [hx2] at ho
    have HX1 := Lib.hid hx1
    have HX2 := Lib.hid hx2
    clear hx1 hx2
    go_wp2_with fail
    go_quiet (fail)
    go_wp2_with fail
    have hK' : (W.drewN nq).heap[D]? = some (.deferred (some [])) := hK
    have hB' : Below w.heap.size w (W.drewN nq) := below_drewN hB _
    generalize W.drewN nq = W2 at hK' hB' ⊢
    refine ⟨by simp, .inl ⟨_, _, rfl, run_takeDeferred hK', ?_⟩⟩
    refine ⟨.tuple #[.int .i64 x1, .bool x2], ?_, by rw [HX1.out, HX2.out], hB'.trans (belowK_b (w := w) (Nat.le_refl _) _ D _ _ (by omega) hK' rfl rfl)⟩
    simp [results, Tryz.f150, go_sem]
  case stop =>
    rintro D c pre W _ _ h _
    exact h.elim

end Go.Proofs.YtoiajjobecinpaaGreat

namespace Go.Proofs.YtoiajjobecinpaaGreat
open Go.RowKit Go.Shelf Go.Lib Go.Proofs
set_option linter.unusedVariables false
set_option linter.unusedSimpArgs false

theorem info2 : (Tryz.prog.info? 2).map (fun i => (i.zero, i.size, i.bytes)) = some (some (.int .i64 0), 1, 8) := by kernel_rfl

/-- All cores' queues fit. -/
def FitsY (s : Sy) : Prop := ∀ i, i < s.cores.length → Fits s.cores[i]!.l
def loadsY (s : Sy) : List Int := s.cores.map fun c => sumW (formL c.l)

theorem below_grown {n₀ : Nat} {w a b : World} {r : Option Nat} (h : Below n₀ w a) (hn : n₀ ≤ a.heap.size) (hg : a.grownBy b r) (hr : ∀ k, r = some k → n₀ ≤ k) : Below n₀ w b := h.grown hg hn hr

theorem ints_own {W : World} {base : Nat} {v : Value} {xs : List Int} (h : W.ownsRow base 2 1 v xs.length (xs.map fun x => .int .i64 x)) (hne : 0 < xs.length) :
    ∃ g c, v = .slice (some ⟨g, 0, none⟩) xs.length c ∧ ∀ i, i < xs.length → W.cell? ⟨g, i, none⟩ = some (.int .i64 (xs.getD i 0)) := by
  rcases h.2 with ⟨_, h0⟩ | ⟨g, cap, cur, e, _⟩
  · rw [h0] at hne; simp at hne
  · refine ⟨g, cap, e, fun i hi => ?_⟩
    have := h.cells (g := g) (by rw [e]; rfl) i (.int .i64 (xs.getD i 0)) (by rw [List.getElem?_map, List.getElem?_eq_getElem hi]; simp [hi])
    simpa [Addr.add_lit] using this

set_option maxRecDepth 100000 in
set_option maxHeartbeats 2000000 in
theorem loads_any (sb gb nb pb mb n : Nat) (cv : Value) (D : DataW Unit) (cbs : List Nat) (tb : Int → Nat) (own : Nat → Option Own) (s : Sy) (w : World)
    (h : SysAt w sb gb nb pb mb n cv D cbs tb own s) (hf : FitsY s) (h0 : 0 < cbs.length) (h16 : cbs.length ≤ 16) :
    Calls Tryz.prog 120 #[.pointer (some ⟨sb, 0, none⟩)] w fun e W' => ∃ v, e = .returned v ∧ W'.ownsRow w.heap.size 2 1 v cbs.length ((loadsY s).map fun x => .int .i64 x) ∧ Below w.heap.size w W' := by
  obtain ⟨g, c, hcv⟩ := h.form h0
  subst hcv
  have c0 := h.head
  obtain ⟨i0, hi, hz0, hz1, hz2⟩ := info_parts info2
  have HS := Lib.hid h
  have HF := Lib.hid hf
  obtain ⟨m, hm⟩ : ∃ m, cbs.length = m := ⟨_, rfl⟩
  rw [hm] at c0 h0 h16 ⊢
  have HM := Lib.hid hm
  clear h hf hm
  go_enter Tryz.func120, Tryz.ntmps120
  go_wp2_with fail
  go_loopw [3, 11] (fun a x wr => ∃ k : Nat, k ≤ m ∧ x = .int .i64 k ∧ Hid (wr.ownsRow w.heap.size 2 1 a k (((loadsY s).take k).map fun x => .int .i64 x)) ∧ Hid (Below w.heap.size w wr)) (fun _ x _ => m - (intOf x).toNat)
  case atStart => exact ⟨0, Nat.zero_le _, rfl, Lib.hid (World.ownsRow_nil ..), Lib.hid (Below.refl _ _)⟩
  case round =>
    obtain ⟨k, hk, rfl, HR, HB⟩ := hrel
    by_cases hkn : k < m
    · have hS := HS.out.below HB.out
      have hck := hS.coreCell k (by rw [HM.out]; exact hkn)
      have hcl : k < s.cores.length := by rw [← hS.num, HM.out]; exact hkn
      have hload := cload_any cbs[k]! _ s.cores[k]! wr (hS.core k (by rw [HM.out]; exact hkn)) (HF.out k hcl)
      have hnext : (loadsY s).take (k + 1) = (loadsY s).take k ++ [sumW (formL s.cores[k]!.l)] := by
        unfold loadsY
        rw [List.take_succ_eq_append_getElem (by rw [List.length_map]; exact hcl), List.getElem_map, getElem!_pos s.cores k hcl]
      generalize sumW (formL s.cores[k]!.l) = y at hload hnext
      generalize cbs[k]! = cb at hck hload
      have HN := Lib.hid hnext
      have hk1 : (k : Int) < (m : Int) := by omega
      have hk0 : 0 ≤ (k : Int) := by omega
      clear hS hcl hnext
      go_wp2_with fail
      refine hload.mono ?_
      rintro e w3 ⟨rfl, hb3⟩
      have hz3 := hb3.size
      have hrow3 := ownsRow_same HR.out (fun j hj => hb3.block j (HR.out.lt j hj).2)
      have hbz := HB.out.size
      clear hload
      go_wp2_with (at_builtin; refine wpList_append_lies _ rfl _ _ 42 rfl w.heap.size 2 i0 (.int .i64 0) 1 8 Tryz.underlying42 hi hz0 hz1 hz2 rfl (by decide) _ k _ rfl (hrow3.alloc _) ⟨w3.heap.size, 0, none⟩ 1 1 [.int .i64 y] rfl rfl (World.news_of_block (cs := #[.int .i64 y]) (t := 2) (fr := (0, 0)) (heap_alloc_new w3 _)) (by simp [Value.oneCell']) (by omega) (by unfold maxLen; omega) (by omega) (by simp; omega) (w3.heap.size + 1) (by simp) ?_; intro g cap w4 hown4 hgrow4 hat4 hlt4)
      have hr : w4.ownsRow w.heap.size 2 1 (.slice (some ⟨g, 0, none⟩) (k + 1) cap) (k + 1) (((loadsY s).take (k + 1)).map fun x => .int .i64 x) := by
        rw [HN.out, List.map_append]; exact hown4
      have HR4 := Lib.hid hr
      have HB4 : Hid (Below w.heap.size w w4) := Lib.hid (((HB.out.trans (hb3.mono hbz)).alloc (by omega) _).grown hgrow4 (by simp; omega) (fun j hj => (hrow3.lt j hj).1))
      clear hr hown4 hgrow4 hat4 hlt4 hrow3 hz3 hbz hb3
      go_roundw
      case rel => exact ⟨k + 1, hkn, by go_num, HR4, HB4⟩
      case measure => simp [intOf]; omega
    · obtain rfl : k = m := by omega
      have hall : (loadsY s).take k = loadsY s := List.take_of_length_le (by unfold loadsY; rw [List.length_map, ← HS.out.num, HM.out]; exact Nat.le_refl _)
      rw [hall] at HR
      clear hall
      go_wp2_with fail
      go_ret
      exact ⟨_, rfl, HR.out, HB.out⟩

set_option maxRecDepth 100000 in
theorem yleast_any (sb gb nb pb mb n : Nat) (cv : Value) (D : DataW Unit) (cbs : List Nat) (tb : Int → Nat) (own : Nat → Option Own) (s : Sy) (m : Int) (w : World)
    (h : SysAt w sb gb nb pb mb n cv D cbs tb own s) (hf : FitsY s) (h0 : 0 < cbs.length) (h16 : cbs.length ≤ 16) (hm : 0 ≤ m ∧ m < 65536) :
    Calls Tryz.prog 103 #[.pointer (some ⟨sb, 0, none⟩), .int .u16 m] w fun e W' => e = .returned (.int .i64 (leastL (loadsY s) m).1) ∧ Below w.heap.size w W' := by
  have hl := loads_any sb gb nb pb mb n cv D cbs tb own s w h hf h0 h16
  have hlen : (loadsY s).length = cbs.length := by unfold loadsY; rw [List.length_map, h.num]
  generalize loadsY s = ls at hl hlen ⊢
  rw [← hlen] at hl h0 h16
  clear h hf hlen
  go_enter Tryz.func103, Tryz.ntmps103
  go_wp2_with fail
  refine hl.mono ?_
  rintro e w1 ⟨v, rfl, hrow, hb⟩
  obtain ⟨g, c, hv, hcell⟩ := ints_own hrow h0
  subst hv
  have hll := lleast_any g c ls m w1 hm h16 hcell
  go_wp2_with fail
  refine hll.mono ?_
  rintro e w2 ⟨rfl, hb2⟩
  go_wp2_with fail
  go_ret
  exact ⟨rfl, hb.trans (hb2.mono hb.size)⟩

end Go.Proofs.YtoiajjobecinpaaGreat
