/- slots.All: what its rounds must keep. Where an item is in a form. Bytes: what a call makes and what it reads; a number in bytes. The seal: its rest, bytes cloned and compared. The seal: put and get; the version; a number read. The seal opened; the version. Bytes opened; a number read. A region that draws its order, in a class of worlds: whose callees may make new blocks. -/
import Derived.Sort.BigQuietIn
import Derived.Test.YtoiajjobecinpaaGreatRows
import Derived.WalkKit
import Derived.ProofKit
import Derived.Below
import Derived.Lib.Hide
import Derived.Laws.AppendOwn
import Derived.Shelf.SlicesQ.IndexFunc
import Derived.Ground.SlgfProg
import Derived.Deep.QuietTactic
import Derived.BigQuiet
import Derived.Deep.DeepCutAuto
import Derived.Deep.RegionHeld3
import Derived.Ground.SlsfProg
import Derived.Deep.AppendLies
import Derived.Deep.RegionLaw
import Derived.Lib.SlBy
import Derived.StillTail
import Derived.Shelf.Bits.Mul64
import Derived.Shelf.Spec.BitsCarry
import Derived.Shelf.Lay
import Derived.Ground.NamesProg
import Derived.Ground.Names7Prog
import Derived.Maps.Views
import Derived.Maps.OwnSet
import Derived.RangeFuncNested
import Derived.RangeFuncBound
import Derived.RangeFuncCalls
import Derived.RangeFuncLeaves
import Derived.RangeFuncFrom
import Derived.Shelf.Abstract
import Derived.Shelf.RegionOpen
import Derived.OwnWalkIn
import Derived.TacticsInMore
import Derived.LoopNIn
import Derived.LoopIn
import Derived.WalkSpells
import Derived.WalkLawsBesides
import Derived.Lib.SliceRun
import Derived.Laws.BytesArg
import Derived.Shelf.Bytes.SlEqualAll
import Derived.WalkSmall
import Derived.OwnWalk
import Derived.Test.YtoiajjobecinpaaGreatSh07

namespace Go.Proofs.YtoiajjobecinpaaGreat
open Go.RowKit Go.Shelf Go.Lib Go.Proofs
set_option linter.unusedVariables false
set_option linter.unusedSimpArgs false
attribute [local go_sem] Oper.semAt_some

/-- A round turns no cells but those of one box, and of the row that it holds; a new row is new. -/
structure KpL (B : Nat) (W W' : World) : Prop where
  size : W.heap.size ≤ W'.heap.size
  same : ∀ k o, W.heap[k]? = some o → o.isCells = true → k ≠ B → (∀ v, W.cell? ⟨B, 0, none⟩ = some v → v.ownBlock ≠ some k) → W'.heap[k]? = some o
  row : ∀ v' k, W'.cell? ⟨B, 0, none⟩ = some v' → v'.ownBlock = some k → (∃ v, W.cell? ⟨B, 0, none⟩ = some v ∧ v.ownBlock = some k) ∨ W.heap.size ≤ k

theorem lt_of_some {W : World} {k : Nat} {o : Obj} (h : W.heap[k]? = some o) : k < W.heap.size := (Array.getElem?_eq_some_iff.1 h).1

theorem KpL.t {B : Nat} {W1 W2 W3 : World} (h : KpL B W1 W2) (k : KpL B W2 W3) : KpL B W1 W3 := by
  refine ⟨Nat.le_trans h.size k.size, fun j o ho hc hne hv => ?_, fun v' j hv' hj => ?_⟩
  · refine k.same j o (h.same j o ho hc hne hv) hc hne (fun v hv2 e => ?_)
    rcases h.row v j hv2 e with ⟨v0, h1, h2⟩ | h1
    · exact hv v0 h1 h2
    · have := lt_of_some ho; omega
  · rcases k.row v' j hv' hj with ⟨v0, h1, h2⟩ | h1
    · exact h.row v0 j h1 h2
    · have := h.size; exact .inr (by omega)

theorem KpL.b {B : Nat} {w : World} (hB : B < w.heap.size) (W : World) (l : Nat) (o o' : Obj) (hl : w.heap.size ≤ l) (ho : W.heap[l]? = some o) (hc : o.isCells = false) (_ : o.isWalk = false) : KpL B W (W.putObj l o') := by
  have e : ∀ k, k ≠ l → (W.putObj l o').heap[k]? = W.heap[k]? := fun k hk => World.putObj_heap_other hk
  refine ⟨by simp [World.putObj], fun k o1 h1 h2 _ _ => (e k (fun e => by subst e; rw [ho] at h1; cases h1; rw [hc] at h2; cases h2)).trans h1, fun v' k hv hk => .inl ⟨v', ?_, hk⟩⟩
  rw [← hv]
  exact (World.cell?_of_block (a := ⟨B, 0, none⟩) (e B (by omega))).symm

theorem sall_any (b : Nat) (W : World) :
    Calls Tryz.prog 141 #[.pointer (some ⟨b, 0, none⟩)] W fun e w' => e = .returned (.func (.func 171) #[] #[.pointer (some ⟨W.heap.size, 0, none⟩)]) ∧ W.alloc (.cells #[.pointer (some ⟨b, 0, none⟩)] 115) = w' := by
  go_enter Tryz.func141, Tryz.ntmps141
  go_wp2
  go_ret
  exact ⟨by simp, rfl⟩

/-- The row of the names, as it lies, and no box's row. -/
def RowQ (B g : Nat) (O : Obj) (wr : World) : Prop := wr.heap[g]? = some O ∧ O.isCells = true ∧ g ≠ B ∧ ∀ v, wr.cell? ⟨B, 0, none⟩ = some v → v.ownBlock ≠ some g

theorem RowQ.step {B g : Nat} {O : Obj} {W W' : World} (h : RowQ B g O W) (k : KpL B W W') : RowQ B g O W' := by
  obtain ⟨h1, h2, h3, h4⟩ := h
  refine ⟨k.same g O h1 h2 h3 h4, h2, h3, fun v hv e => ?_⟩
  rcases k.row v g hv e with ⟨v0, e1, e2⟩ | e1
  · exact h4 v0 e1 e2
  · have := lt_of_some h1; omega

/-- The names' row lies there, and no box holds it. -/
def NameRow (B : Nat) (v : Value) (ls : List Int) (wr : World) : Prop :=
  (v = .slice none 0 0 ∧ ls = []) ∨ ∃ g c O, v = .slice (some ⟨g, 0, none⟩) ls.length c ∧ RowQ B g O wr ∧ ∀ i, i < ls.length → wr.cell? ⟨g, i, none⟩ = some (.int .i64 (ls.getD i 0))

theorem NameRow.step {B : Nat} {v : Value} {ls : List Int} {W W' : World} (h : NameRow B v ls W) (k : KpL B W W') : NameRow B v ls W' := by
  rcases h with h | ⟨g, c, O, e, h1, h2⟩
  · exact .inl h
  · have h1' := h1.step k
    exact .inr ⟨g, c, O, e, h1', fun i hi => (World.cell?_of_block (a := ⟨g, i, none⟩) (h1'.1.trans h1.1.symm)).trans (h2 i hi)⟩

theorem NameRow.form {B : Nat} {v : Value} {ls : List Int} {W : World} (h : NameRow B v ls W) : ∃ p c, v = .slice p ls.length c := by
  rcases h with ⟨h, h2⟩ | ⟨g, c, O, e, _⟩
  · exact ⟨none, 0, by rw [h, h2]; rfl⟩
  · exact ⟨_, _, e⟩

theorem nameRow_new {W w1 : World} {B : Nat} {v : Value} {ls : List Int} (hrow : w1.ownsRow W.heap.size 3 1 v ls.length (ls.map fun x => .int .i64 x)) (hb : Below W.heap.size W w1) (hB : W.cell? ⟨B, 0, none⟩ = some (.slice none 0 0)) : NameRow B v ls w1 := by
  have hBl : B < W.heap.size := World.block_lt_of_cell? W _ hB
  rcases hrow.2 with ⟨h, h0⟩ | ⟨g, cap, cur, e, hg, hgg, _⟩
  · refine .inl ⟨h, ?_⟩
    simpa using h0
  · refine .inr ⟨g, cap, _, e, ⟨hgg, rfl, by omega, fun v' hv' => ?_⟩, fun i hi => ?_⟩
    · rw [(hb.cell (p := ⟨B, 0, none⟩) hBl).trans hB] at hv'
      cases hv'
      simp [Value.ownBlock]
    · have := hrow.cells (g := g) (by rw [e]; rfl) i (.int .i64 (ls.getD i 0)) (by rw [List.getElem?_map, List.getElem?_eq_getElem hi]; simp [hi])
      simpa [Addr.add_lit] using this

theorem grownBy_of_below {W W' : World} (h : Below W.heap.size W W') : W.grownBy W' none := ⟨h.os, h.tape, h.output, h.size, fun k hk _ => h.block k hk⟩

set_option maxRecDepth 100000 in
set_option maxHeartbeats 2000000 in
theorem sall1_in (P : Int → Prop) (n : Nat) (hn : 2 ≤ n) (l Bs b a B : Nat) (ps : List (Int × Bool)) (xs : List {x : Int // P x}) (hxs : xs.map (·.1) = listP ps) (J Jx : List {x : Int // P x} → World → Prop)
    (hY : ∀ pre x W, J pre W → pre.length < xs.length → YieldAt Fence.wide (n - 1) Tryz.prog l #[.int .i64 x.1] W fun e W' =>
      (e = .returned (.bool true) ∧ J (pre ++ [x]) W' ∧ KpL B W W') ∨ (e = .returned (.bool false) ∧ Jx (pre ++ [x]) W'))
    (W : World) (hJ : AbidesFrom W.heap.size J) (hBs : W.cell? ⟨Bs, 0, none⟩ = some (.pointer (some ⟨b, 0, none⟩))) (hS : SlotsAt W b a ps) (hz : Sized ps) (hB : W.cell? ⟨B, 0, none⟩ = some (.slice none 0 0)) (h0 : J [] W) :
    CallsIn Fence.wide n Tryz.prog 171 #[.func (.yield l) #[] #[], .pointer (some ⟨Bs, 0, none⟩)] W fun e W' => (∃ v, e = .returned v) ∧
      ((∃ ys, ys = xs ∧ J ys W') ∨ (∃ pre, pre <+: xs ∧ Jx pre W')) := by
  have h1 : 1 ≤ n := by omega
  have h2 : 1 ≤ n - 1 := by omega
  have hlist := slist_any b a ps W hS hz
  have HXS := Lib.hid hxs
  rw [← hxs] at hlist
  have hml : (xs.map (·.1)).length = xs.length := List.length_map ..
  refine callsIn_of_wp Tryz.func171 rfl trivial ?_ rfl
  simp only [Tryz.ntmps171, List.size_toArray, List.length_cons, List.length_nil, Nat.reduceAdd, Nat.reduceSub, Array.replicate_succ, Array.replicate_zero, List.push_toArray, List.append_toArray, List.nil_append, List.cons_append]
  have h64 : xs.length ≤ 64 := by rw [← hml, hxs]; exact Nat.le_trans (listFrom_len _ _) hz.1
  have HML := Lib.hid hml
  clear hml hxs
  have HB := Lib.hid hB
  have HS := Lib.hid hS
  have HJ := Lib.hid hJ
  have HY := Lib.hid hY
  have HZ := Lib.hid h0
  clear hB hS hJ hY h0
  gi_wp2_with (refine ⟨trivial, ?_⟩; gi_at_call 172; refine (callsIn_wide.2 hlist).mono ?_; rintro e w1 ⟨v, rfl, hrow, hb⟩; have hq := nameRow_new hrow hb HB.out; obtain ⟨p, c, hv⟩ := hq.form; rw [HML.out] at hv; subst hv; have HQ := Lib.hid hq; have HBB := Lib.hid hb; clear hrow hq hb)
  have hJ0 : J [] w1 := HJ.out [] W w1 none HZ.out (grownBy_of_below HBB.out) (by simp)
  obtain ⟨m, hm⟩ : ∃ m, xs.length = m := ⟨_, rfl⟩
  rw [hm] at HQ h64 ⊢
  have HM := Lib.hid hm
  clear hm
  have HJ0 := Lib.hid hJ0
  clear hJ0
  gi_loopw [8] (fun x wr => ∃ k : Nat, k ≤ m ∧ x = .int .i64 k ∧ Hid (J (xs.take k) wr) ∧ Hid (NameRow B (.slice p m c) (xs.map (·.1)) wr))
    (fun x wr => m - (intOf x).toNat)
  case atStart => exact ⟨0, Nat.zero_le _, rfl, HJ0, HQ⟩
  case round =>
    obtain ⟨k, hk, rfl, HJs, HQs⟩ := hrel
    by_cases hkm : k < m
    · have hk1 : (k : Int) < (m : Int) := by omega
      have hk0 : 0 ≤ (k : Int) := by omega
      have hkl : k < xs.length := by rw [HM.out]; exact hkm
      obtain ⟨g, hp, hcell⟩ : ∃ g, p = some ⟨g, 0, none⟩ ∧ wr.cell? ⟨g, k, none⟩ = some (.int .i64 (xs[k]'hkl).1) := by
        rcases HQs.out with ⟨_, h0⟩ | ⟨g, c', O, e, _, h3⟩
        · rw [List.map_eq_nil_iff] at h0
          rw [h0] at hkl
          simp at hkl
        · simp only [Value.slice.injEq] at e
          refine ⟨g, e.1, ?_⟩
          have := h3 k (by rw [List.length_map]; exact hkl)
          rwa [List.getD_eq_getElem?_getD, List.getElem?_map, List.getElem?_eq_getElem hkl] at this
      subst hp
      have htk : xs.take (k + 1) = xs.take k ++ [xs[k]'hkl] := List.take_succ_eq_append_getElem hkl
      obtain ⟨fn, tmps, assign, body, hy, hR⟩ := HY.out (xs.take k) (xs[k]'hkl) wr HJs.out (by rw [List.length_take]; omega)
      rw [← htk] at hR
      have hpre : xs.take (k + 1) <+: xs := List.take_prefix _ _
      generalize (xs[k]'hkl).1 = y at hcell hy
      clear htk
      gi_wp2
      refine hR.mono ?_
      rintro e W3 (⟨rfl, hJ3, hk3⟩ | ⟨rfl, hJx3⟩)
      · have HJ3 := Lib.hid hJ3
        have HQ3 := Lib.hid (HQs.out.step hk3)
        clear hJ3 hk3
        gi_wp2
        go_roundw
        case rel => exact ⟨k + 1, hkm, by go_num, HJ3, HQ3⟩
        case measure => simp [intOf]; omega
      · gi_wp2
        refine bodyPost_ret (results_none rfl _ _ _) rfl ?_
        exact ⟨⟨_, rfl⟩, .inr ⟨_, hpre, hJx3⟩⟩
    · obtain rfl : k = m := by omega
      have hall : xs.take k = xs := List.take_of_length_le (by rw [HM.out]; exact Nat.le_refl _)
      rw [hall] at HJs
      clear hall
      gi_wp2
      go_end0
      exact ⟨⟨_, rfl⟩, .inl ⟨_, rfl, HJs.out⟩⟩

theorem sall_stops (P : Int → Prop) (n : Nat) (hn : 2 ≤ n) (Bs b a B : Nat) (ps : List (Int × Bool)) (xs : List {x : Int // P x}) (hxs : xs.map (·.1) = listP ps) (w : World) (hBs : w.cell? ⟨Bs, 0, none⟩ = some (.pointer (some ⟨b, 0, none⟩))) (hS : SlotsAt w b a ps) (hz : Sized ps) (hB : w.cell? ⟨B, 0, none⟩ = some (.slice none 0 0)) :
    SeqStopsK Fence.wide n Tryz.prog 171 #[.pointer (some ⟨Bs, 0, none⟩)] (fun x : {x : Int // P x} => #[Value.int .i64 x.1]) (KpL B) (fun ys => ys = xs) (fun pre => pre <+: xs) xs.length w := fun l J Jx W hW hJ _ hY h0 =>
  sall1_in P n hn l Bs b a B ps xs hxs J Jx hY W hJ ((hW.cell (p := ⟨Bs, 0, none⟩) (World.block_lt_of_cell? w _ hBs)).trans hBs) (hS.below hW hS.lt.1 hS.lt.2) hz ((hW.cell (p := ⟨B, 0, none⟩) (World.block_lt_of_cell? w _ hB)).trans hB) h0

end Go.Proofs.YtoiajjobecinpaaGreat

namespace Go.Proofs.YtoiajjobecinpaaGreat
open Go.RowKit Go.Shelf Go.Lib Go.Proofs
set_option linter.unusedVariables false
set_option linter.unusedSimpArgs false
def Tryz.l92_ren : Go.Shelf.Ren := ⟨fun | 6 => 92 | n => n, fun | 22 => 68 | 23 => 77 | 25 => 112 | 3 => 3 | 0 => 0 | 4 => 4 | n => n, fun | n => n⟩
theorem Tryz.l92 : Go.Proofs.SlLaysH0.n6 Tryz.prog Tryz.l92_ren := {
  mixed := by kernel_rfl
  f6 := ⟨Tryz.f92.name, by decide, Tryz.func92.trans (congrArg some (by kernel_rfl))⟩
  t0 := Tryz.underlying0
  a0 := Tryz.isAgg0
  z0 := Tryz.sizeOf0
  v0 := Tryz.zeroValue0
  t3 := Tryz.underlying3
  a3 := Tryz.isAgg3
  z3 := Tryz.sizeOf3
  v3 := Tryz.zeroValue3
  t4 := Tryz.underlying4
  a4 := Tryz.isAgg4
  z4 := Tryz.sizeOf4
  v4 := Tryz.zeroValue4
  t22 := Tryz.underlying68
  a22 := Tryz.isAgg68
  z22 := Tryz.sizeOf68
  v22 := Tryz.zeroValue68
  t25 := Tryz.underlying112
  a25 := Tryz.isAgg112
  z25 := Tryz.sizeOf112
  v25 := Tryz.zeroValue112 }

theorem pred93 (id : Int) (B : Nat) (w : World) (hB : B < w.heap.size) (hcell : w.cell? ⟨B, 0, none⟩ = some (.int .i64 id)) :
    PredBelow Tryz.prog 93 #[.pointer (some ⟨B, 0, none⟩)] (fun x : It => .agg x.cells.toArray) (fun x => decide (x.id = id)) w := fun W x hb => by
  have hc : W.cell? ⟨B, 0, none⟩ = some (.int .i64 id) := (hb.cell (p := ⟨B, 0, none⟩) hB).trans hcell
  have hBW : B < W.heap.size := Nat.lt_of_lt_of_le hB hb.size
  have hne : B ≠ W.heap.size := by omega
  obtain ⟨i, ww, v⟩ := x
  show Calls Tryz.prog 93 #[.agg #[.int .i64 i, .int .i64 ww, .int .i64 v], .pointer (some ⟨B, 0, none⟩)] W _
  go_enter Tryz.func93, Tryz.ntmps93
  go_wp2
  all_goals (go_ret; exact ⟨by simp_all; exact Bool.eq_iff_iff.2 (by simp), hb.alloc hb.size _⟩)

/-- Where an item is. -/
def posI (its : List It) (id : Int) : Int := Lib.idxBy (fun _ y => decide (y.id = id)) its default

theorem flatI_at (its : List It) : ∀ k i v, k < its.length → (its[k]!).cells[i]? = some v → (flatI its)[k * 3 + i]? = some v := by
  induction its with
  | nil => intro k i v h; simp at h
  | cons p l ih =>
    intro k i v h hv
    cases k with
    | zero =>
      have hi : i < p.cells.length := (List.getElem?_eq_some_iff.1 hv).1
      rw [show 0 * 3 + i = i from by omega]
      rw [flatI, List.getElem?_append_left hi]
      simpa using hv
    | succ k =>
      rw [flatI, List.getElem?_append_right (by simp [It.cells]; omega)]
      have := ih k i v (by simpa using h) (by simpa using hv)
      rw [show (k + 1) * 3 + i - p.cells.length = k * 3 + i from by simp [It.cells]; omega]
      exact this

/-- A form to be read: its items at an address, or none. -/
def FSl (W : World) (v : Value) (its : List It) : Prop :=
  (v = .slice none 0 0 ∧ its = []) ∨ ∃ g cap, v = .slice (some ⟨g, 0, none⟩) its.length cap ∧ its.length ≤ cap ∧ cap ≤ 9223372036854775807 ∧ g < W.heap.size ∧ ∀ j, j < its.length → ∀ i u, (its[j]!).cells[i]? = some u → W.cell? ⟨g, j * 3 + i, none⟩ = some u

theorem FSl.of {W : World} {B : Nat} {v : Value} {its : List It} (h : W.ownsRow B 77 3 v its.length (flatI its)) : FSl W v its := by
  rcases h.2 with ⟨rfl, h0⟩ | ⟨g, cap, cur, rfl, hb, hgg, hn, hm, _⟩
  · exact .inl ⟨rfl, List.length_eq_zero_iff.1 h0⟩
  · refine .inr ⟨g, cap, rfl, hn, by unfold maxLen at hm; exact hm, (Array.getElem?_eq_some_iff.1 hgg).1, fun j hj i u hu => ?_⟩
    have := h.cells (g := g) rfl _ _ (flatI_at its j i u hj hu)
    simpa [Addr.add_lit] using this

theorem FSl.same {W W' : World} {v : Value} {its : List It} (h : FSl W v its) (hs : W.heap.size ≤ W'.heap.size) (hb : ∀ k, v.ownBlock = some k → W'.heap[k]? = W.heap[k]?) : FSl W' v its := by
  rcases h with h | ⟨g, cap, rfl, h1, h2, h3, h4⟩
  · exact .inl h
  · exact .inr ⟨g, cap, rfl, h1, h2, Nat.lt_of_lt_of_le h3 hs, fun j hj i u hu => (World.cell?_of_block (a := ⟨g, j * 3 + i, none⟩) (hb g rfl)).trans (h4 j hj i u hu)⟩

theorem FSl.lt {W : World} {v : Value} {its : List It} (h : FSl W v its) {k : Nat} (hk : v.ownBlock = some k) : k < W.heap.size := by
  rcases h with ⟨rfl, _⟩ | ⟨g, cap, rfl, h1, h2, h3, h4⟩
  · simp [Value.ownBlock] at hk
  · have : g = k := by simpa [Value.ownBlock] using hk
    omega

theorem FSl.below {W W' : World} {v : Value} {its : List It} (h : FSl W v its) (hb : Below W.heap.size W W') : FSl W' v its := h.same hb.size (fun k hk => hb.block k (h.lt hk))
theorem FSl.alloc {W : World} {v : Value} {its : List It} (h : FSl W v its) (o : Obj) : FSl (W.alloc o) v its := h.same (by simp) (fun k hk => Below.heap_alloc _ _ _ (h.lt hk))

theorem FSl.form {W : World} {v : Value} {its : List It} (h : FSl W v its) : ∃ a c, v = .slice a its.length c := by
  rcases h with ⟨rfl, rfl⟩ | ⟨g, cap, rfl, _⟩
  · exact ⟨_, _, rfl⟩
  · exact ⟨_, _, rfl⟩

/-- One item's cells. -/
theorem FSl.cells {W : World} {a : Option Addr} {n c : Nat} {its : List It} (h : FSl W (.slice a n c) its) (k : Nat) (hk : k < its.length) : ∃ g, a = some ⟨g, 0, none⟩ ∧ g < W.heap.size ∧ W.cell? ⟨g, k * 3, none⟩ = some (.int .i64 its[k]!.id) ∧ W.cell? ⟨g, k * 3 + 1, none⟩ = some (.int .i64 its[k]!.w) ∧ W.cell? ⟨g, k * 3 + 2, none⟩ = some (.int .i64 its[k]!.lag) := by
  rcases h with ⟨_, rfl⟩ | ⟨g, cap, e, _, _, h3, h4⟩
  · simp at hk
  · simp only [Value.slice.injEq] at e
    exact ⟨g, e.1, h3, h4 k hk 0 _ rfl, h4 k hk 1 _ rfl, h4 k hk 2 _ rfl⟩

set_option maxHeartbeats 1000000 in
theorem indexI_nil (g : Nat) (lb : Array Value) (W : World) :
    Calls Tryz.prog 92 #[.slice none 0 0, .func (.func g) #[] lb] W fun e w' => e = .returned (.int .i64 (-1)) ∧ W = w' := by
  go_enter Tryz.func92, Tryz.ntmps92
  go_wp2
  go_loop [5, 8] (fun _ i => i = .int .i64 0) (fun _ i => 0)
  case atStart => rfl
  case round =>
    subst hrel
    go_wp2
    go_ret
    exact ⟨rfl, rfl⟩

set_option maxHeartbeats 1000000 in
theorem findI_any (cur : Int) (v : Value) (its : List It) (id : Int) (W : World) (h : FSl W v its) :
    Calls Tryz.prog 41 #[.agg #[.int .i64 cur, v], .int .i64 id] W fun e w' => e = .returned (.int .i64 (posI its id)) ∧ Below W.heap.size W w' := by
  rcases h with ⟨rfl, rfl⟩ | ⟨g, cap, rfl, hn, hm, hg, hcells⟩
  · go_enter Tryz.func41, Tryz.ntmps41
    go_wp2_with fail
    refine (indexI_nil _ _ _).mono ?_
    rintro e w' ⟨rfl, rfl⟩
    go_wp2
    go_ret
    exact ⟨rfl, ((Below.refl _ _).alloc (Nat.le_refl _) _).alloc (by simp) _⟩
  · have eg : ∀ args w, (callFunc 93 args).run Tryz.prog w = .ok (.enter 93 args) w := enters_of Tryz.func93 (by kernel_rfl) rfl
    obtain ⟨W2, hW2⟩ : ∃ W2, (W.alloc (.cells #[.int .i64 cur, .slice (some ⟨g, 0, none⟩) its.length cap] 70)).alloc (.cells #[.int .i64 id] 3) = W2 := ⟨_, rfl⟩
    have hid : W2.cell? ⟨W.heap.size + 1, 0, none⟩ = some (.int .i64 id) := by
      have := heap_alloc_new (W.alloc (.cells #[.int .i64 cur, .slice (some ⟨g, 0, none⟩) its.length cap] 70)) (.cells #[.int .i64 id] 3)
      rw [hW2, size_alloc1] at this
      simp only [World.cell?, this]; rfl
    have hsz : W2.heap.size = W.heap.size + 2 := by rw [← hW2]; simp
    have hB2 : Below W.heap.size W W2 := by rw [← hW2]; exact ((Below.refl _ _).alloc (Nat.le_refl _) _).alloc (by simp) _
    have hcon := AnyQ.slices_IndexFunc Tryz.l92 3 Tryz.isAgg77 Tryz.sizeOf77 It.cells (fun _ => rfl) (fun x => decide (x.id = id)) 93 #[.pointer (some ⟨W.heap.size + 1, 0, none⟩)] eg g 0 its.length cap its W2
      (pred93 id (W.heap.size + 1) _ (by omega) hid) (Nat.le_refl _) (by omega) (by omega) (fun j hj i u hu => by rw [Nat.zero_add, hB2.cell (p := ⟨g, j * 3 + i, none⟩) hg]; exact hcells j hj i u hu)
    change Calls Tryz.prog 92 _ _ _ at hcon
    rw [List.take_of_length_le (Nat.le_refl _)] at hcon
    change Calls Tryz.prog 92 _ _ (fun e w' => e = .returned (.int .i64 (posI its id)) ∧ _) at hcon
    generalize posI its id = r at hcon ⊢
    obtain ⟨m, HM⟩ : ∃ m, Hid (its.length = m) := ⟨_, Lib.hid rfl⟩
    rw [HM.out] at hcon hW2 ⊢
    subst hW2
    have HB2 := Lib.hid hB2
    clear hcells eg hB2 hsz hid hn
    go_enter Tryz.func41, Tryz.ntmps41
    go_wp2_with fail
    refine hcon.mono ?_
    rintro e w' ⟨rfl, hb'⟩
    go_wp2
    go_ret
    exact ⟨rfl, HB2.out.trans (hb'.mono HB2.out.size)⟩

end Go.Proofs.YtoiajjobecinpaaGreat

namespace Go.Proofs.YtoiajjobecinpaaGreat
open Go.RowKit Go.Shelf Go.Lib Go.Proofs
set_option linter.unusedVariables false
set_option linter.unusedSimpArgs false
attribute [local go_sem] Oper.semAt_some

theorem info5 : (Tryz.prog.info? 5).map (fun i => (i.zero, i.size, i.bytes)) = some (some (.int .u8 0), 1, 1) := by kernel_rfl

/-- Bytes that a call made, in blocks from B on. -/
def BRow (W : World) (B : Nat) (v : Value) (n : Nat) : Prop := ∃ bs : List Int, W.ownsRow B 5 1 v n (bs.map (Value.int .u8)) ∧ ∀ x ∈ bs, 0 ≤ x ∧ x ≤ 255

/-- Bytes that are read. -/
def BSl (W : World) (a : Option Addr) (n : Nat) : Prop := ∃ xs : List Int, xs.length = n ∧ (∀ x ∈ xs, 0 ≤ x ∧ x ≤ 255) ∧ (0 < n → ∃ g i, a = some ⟨g, i, none⟩ ∧ ∀ j, j < n → W.cell? ⟨g, i + j, none⟩ = some (.int .u8 (xs.getD j 0)))

theorem BRow.nil (W : World) (B : Nat) : BRow W B (.slice none 0 0) 0 := ⟨[], World.ownsRow_nil .., by simp⟩

theorem BRow.form {W : World} {B : Nat} {v : Value} {n : Nat} (h : BRow W B v n) : ∃ a c, v = .slice a n c := by
  obtain ⟨bs, h, -⟩ := h
  rcases h.2 with ⟨rfl, rfl⟩ | ⟨g, cap, cur, rfl, _⟩
  · exact ⟨_, _, rfl⟩
  · exact ⟨_, _, rfl⟩

theorem BRow.same {W W' : World} {B : Nat} {v : Value} {n : Nat} (h : BRow W B v n) (hb : ∀ k, v.ownBlock = some k → W'.heap[k]? = W.heap[k]?) : BRow W' B v n := by
  obtain ⟨bs, h, h2⟩ := h
  refine ⟨bs, ⟨h.1, ?_⟩, h2⟩
  rcases h.2 with hn | ⟨g, cap, cur, rfl, hb', hgg, rest⟩
  · exact .inl hn
  · exact .inr ⟨g, cap, cur, rfl, hb', (hb g rfl).trans hgg, rest⟩

theorem BRow.lt {W : World} {B : Nat} {v : Value} {n : Nat} (h : BRow W B v n) {k : Nat} (hk : v.ownBlock = some k) : B ≤ k ∧ k < W.heap.size := by
  obtain ⟨bs, h, -⟩ := h
  exact h.lt k hk

theorem BRow.alloc {W : World} {B : Nat} {v : Value} {n : Nat} (h : BRow W B v n) (o : Obj) : BRow (W.alloc o) B v n := h.same (fun k hk => Below.heap_alloc _ _ _ (h.lt hk).2)

theorem BRow.below {W W' : World} {B : Nat} {v : Value} {n : Nat} (h : BRow W B v n) (hb : Below W.heap.size W W') : BRow W' B v n := h.same (fun k hk => hb.block k (h.lt hk).2)

theorem BRow.base {W : World} {B B' : Nat} {v : Value} {n : Nat} (h : BRow W B v n) (hB : B' ≤ B) : BRow W B' v n := by
  obtain ⟨bs, h, h2⟩ := h
  refine ⟨bs, ⟨h.1, ?_⟩, h2⟩
  rcases h.2 with hn | ⟨g, cap, cur, rfl, hb', rest⟩
  · exact .inl hn
  · exact .inr ⟨g, cap, cur, rfl, by omega, rest⟩

theorem BSl.same {W W' : World} {a : Option Addr} {n : Nat} (h : BSl W a n) (hb : ∀ k, k < W.heap.size → (∃ i, a = some ⟨k, i, none⟩) → W'.heap[k]? = W.heap[k]?) : BSl W' a n := by
  obtain ⟨xs, h1, h2, h3⟩ := h
  refine ⟨xs, h1, h2, fun hn => ?_⟩
  obtain ⟨g, i, rfl, hc⟩ := h3 hn
  have hg : g < W.heap.size := World.block_lt_of_cell? W _ (hc 0 hn)
  exact ⟨g, i, rfl, fun j hj => (World.cell?_of_block (a := ⟨g, i + j, none⟩) (hb g hg ⟨i, rfl⟩)).trans (hc j hj)⟩

theorem BSl.below {W W' : World} {a : Option Addr} {n : Nat} (h : BSl W a n) (hb : Below W.heap.size W W') : BSl W' a n := h.same (fun k hk _ => hb.block k hk)

theorem BSl.alloc {W : World} {a : Option Addr} {n : Nat} (h : BSl W a n) (o : Obj) : BSl (W.alloc o) a n := h.same (fun k hk _ => Below.heap_alloc _ _ _ hk)

theorem BRow.toSl {W : World} {B : Nat} {a : Option Addr} {n c : Nat} (h : BRow W B (.slice a n c) n) : BSl W a n := by
  obtain ⟨bs, h, h2⟩ := h
  have hl : bs.length = n := by simpa using h.1
  refine ⟨bs, hl, h2, fun hn => ?_⟩
  rcases h.2 with ⟨_, h0⟩ | ⟨g, cap, cur, e, hb', hgg, _⟩
  · omega
  · simp only [Value.slice.injEq] at e
    obtain ⟨rfl, -, rfl⟩ := e
    refine ⟨g, 0, rfl, fun j hj => ?_⟩
    have := h.cells (g := g) rfl j (.int .u8 (bs.getD j 0)) (by simp [List.getD, List.getElem?_eq_getElem (show j < bs.length by omega)])
    simpa [Addr.add_lit] using this

theorem BSl.tail {W : World} {g i n : Nat} (h : BSl W (some ⟨g, i, none⟩) n) (k : Nat) (hk : k ≤ n) : BSl W (some ⟨g, i + k, none⟩) (n - k) := by
  obtain ⟨xs, h1, h2, h3⟩ := h
  refine ⟨xs.drop k, by simp [h1], fun x hx => h2 x (List.mem_of_mem_drop hx), fun hn => ⟨g, i + k, rfl, fun j hj => ?_⟩⟩
  obtain ⟨g', i', e, hc⟩ := h3 (by omega)
  simp only [Option.some.injEq, Addr.mk.injEq] at e
  obtain ⟨rfl, rfl, -⟩ := e
  rw [show i + k + j = i + (k + j) from by omega, hc (k + j) (by omega)]
  simp [List.getD, List.getElem?_drop]

theorem BSl.head {W : World} {a : Option Addr} {n : Nat} (h : BSl W a n) (k : Nat) (hk : k ≤ n) : BSl W a k := by
  obtain ⟨xs, h1, h2, h3⟩ := h
  refine ⟨xs.take k, by simp [h1]; omega, fun x hx => h2 x (List.mem_of_mem_take hx), fun hn => ?_⟩
  obtain ⟨g, i, e, hc⟩ := h3 (by omega)
  refine ⟨g, i, e, fun j hj => ?_⟩
  rw [hc j (by omega)]
  simp [List.getD, List.getElem?_take, hj]

theorem BSl.none (W : World) (a : Option Addr) : BSl W a 0 := ⟨[], rfl, by simp, fun h => absurd h (Nat.lt_irrefl 0)⟩

theorem BSl.get {W : World} {a : Option Addr} {n : Nat} (h : BSl W a n) (j : Nat) (hj : j < n) : ∃ g i x, a = some ⟨g, i, Option.none⟩ ∧ 0 ≤ x ∧ x ≤ 255 ∧ W.cell? ⟨g, i + j, Option.none⟩ = some (.int .u8 x) := by
  obtain ⟨xs, h1, h2, h3⟩ := h
  obtain ⟨g, i, e, hc⟩ := h3 (by omega)
  have hx := h2 (xs.getD j 0) (by simp [List.getD, List.getElem?_eq_getElem (show j < xs.length by omega)])
  exact ⟨g, i, _, e, hx.1, hx.2, hc j hj⟩

/-- The bytes behind an append. -/
theorem BRow.snoc {w4 : World} {B n m g cap : Nat} {bs : List Int} (news : List Int) (hbs : ∀ x ∈ bs, 0 ≤ x ∧ x ≤ 255) (hnews : ∀ x ∈ news, 0 ≤ x ∧ x ≤ 255)
    (h : w4.ownsRow B 5 1 (.slice (some ⟨g, 0, none⟩) (n + m) cap) (n + m) (bs.map (Value.int .u8) ++ news.map (Value.int .u8))) : BRow w4 B (.slice (some ⟨g, 0, none⟩) (n + m) cap) (n + m) :=
  ⟨bs ++ news, by rw [List.map_append]; exact h, fun x hx => (List.mem_append.1 hx).elim (hbs x) (hnews x)⟩

theorem u8_of (x : Int) : 0 ≤ IntKind.u8.wrap x ∧ IntKind.u8.wrap x ≤ 255 := by rw [IntKind.wrap_u8]; omega

/-- What an append to bytes leaves. -/
def Grew (w w' : World) (v v' : Value) : Prop := Touch (fun k => v.ownBlock = some k) w w' ∧ ∀ k, v'.ownBlock = some k → v.ownBlock = some k ∨ w.heap.size ≤ k

theorem Grew.refl (w : World) (v : Value) : Grew w w v v := ⟨Touch.refl _ _, fun k hk => .inl hk⟩
theorem Grew.trans {a b c : World} {u v x : Value} (h : Grew a b u v) (k : Grew b c v x) : Grew a c u x :=
  ⟨h.1.trans (fun i hi => h.2 i hi) k.1, fun i hi => (k.2 i hi).elim (fun e => h.2 i e) (fun e => .inr (Nat.le_trans h.1.size e))⟩
theorem Grew.alloc {a b : World} {u v : Value} (h : Grew a b u v) (o : Obj) : Grew a (b.alloc o) u v := ⟨h.1.alloc o, h.2⟩
theorem Grew.drew {a b : World} {u v : Value} (h : Grew a b u v) : Grew a b.drew u v := ⟨h.1.drew, h.2⟩
theorem Grew.ofBelow {a b : World} (u : Value) (h : Below a.heap.size a b) : Grew a b u u := ⟨Touch.of_below h, fun k hk => .inl hk⟩

theorem Grew.of {w w4 : World} {v : Value} {g H n cap : Nat} {o : Obj} (hg : (w.alloc o).grownBy w4 v.ownBlock) (hat : v.ownBlock = some g ∨ g = H) (hH : H = w.heap.size + 1) : Grew w w4 v (.slice (some ⟨g, 0, none⟩) n cap) := by
  refine ⟨⟨hg.os, hg.tape, hg.output, ?_, fun k hk hf => ?_⟩, fun k hk => ?_⟩
  · have := hg.size; simp at this; omega
  · rw [hg.block k (by simp; omega) (fun e => hf e.symm), Below.heap_alloc _ _ _ hk]
  · have : g = k := by simpa [Value.ownBlock] using hk
    subst this
    rcases hat with e | e
    · exact .inl e
    · exact .inr (by omega)

theorem Grew.below {a b : World} {u v : Value} {B : Nat} (h : Grew a b u v) (hB : B ≤ a.heap.size) (hu : ∀ k, u.ownBlock = some k → B ≤ k) : Below B a b := h.1.below hB hu

set_option maxRecDepth 100000 in
set_option maxHeartbeats 2000000 in
theorem number_any (B n s : Nat) (v : Value) (x : Int) (w : World) (h : BRow w B v n) (hB : B ≤ w.heap.size) (hn : n + s ≤ 100000) (hs : s ≤ 8) :
    Calls Tryz.prog 215 #[v, .int .i64 x, .int .i64 s] w fun e W' => ∃ v', e = .returned v' ∧ BRow W' B v' (n + s) ∧ Grew w W' v v' := by
  obtain ⟨i0, hi, hz0, hz1, hz2⟩ := info_parts info5
  have H0 := Lib.hid h
  clear h
  go_enter Tryz.func215, Tryz.ntmps215
  go_wp2_with fail
  go_loopw [0, 7] (fun b i wr => ∃ k : Nat, k ≤ s ∧ i = .int .i64 ((s : Int) - 1 - k) ∧ Hid (BRow wr B b (n + k)) ∧ Hid (Grew w wr v b)) (fun _ i _ => (intOf i + 1).toNat)
  case atStart => exact ⟨0, Nat.zero_le _, by go_num, H0, Lib.hid (Grew.refl _ _)⟩
  case round =>
    obtain ⟨k, hk, rfl, HR, HG⟩ := hrel
    by_cases hks : k < s
    · obtain ⟨bs, hrow, hbs⟩ := HR.out
      have HBS := Lib.hid hbs
      clear hbs
      have hks1 : 0 ≤ (s : Int) - 1 - k := by omega
      have hks2 : (s : Int) - 1 - k ≤ 7 := by omega
      have hks3 : 0 ≤ 8 * ((s : Int) - 1 - k) := by omega
      obtain ⟨i, hik⟩ : ∃ i : Int, (s : Int) - 1 - k = i := ⟨_, rfl⟩
      rw [hik] at hks1 hks2 hks3 ⊢
      have HIK := Lib.hid hik
      clear hik
      have hBw := HG.out.1.size
      go_wp2_with (at_builtin; refine wpList_append_lies _ rfl _ _ 257 rfl B 5 i0 (.int .u8 0) 1 1 Tryz.underlying257 hi hz0 hz1 hz2 rfl (by decide) _ (n + k) _ rfl (hrow.alloc _) ⟨wr.heap.size, 0, none⟩ 1 1 [_] rfl rfl (World.news_of_block (heap_alloc_new wr _)) (by simp [Value.oneCell']) (by omega) (by unfold maxLen; omega) (by omega) (by simp; omega) (wr.heap.size + 1) (by simp) ?_; intro g cap w4 hown4 hgrow4 hat4 hlt4)
      have HR4 : Hid (BRow w4 B (.slice (some ⟨g, 0, none⟩) (n + k + 1) cap) (n + (k + 1))) := Lib.hid (BRow.snoc (m := 1) [_] HBS.out (by intro y hy; simp at hy; subst hy; first | exact u8_of _ | omega) hown4)
      have HG4 : Hid (Grew w w4 v (.slice (some ⟨g, 0, none⟩) (n + k + 1) cap)) := Lib.hid (HG.out.trans (Grew.of hgrow4 hat4 rfl))
      clear hown4 hgrow4 hat4 hlt4 hrow
      go_wp2_with fail
      go_roundw
      case rel => exact ⟨k + 1, hks, by rw [← HIK.out]; go_num, HR4, HG4⟩
      case measure => simp [intOf]; omega
    · obtain rfl : k = s := by omega
      go_wp2_with fail
      go_ret
      exact ⟨_, rfl, HR.out, HG.out⟩

end Go.Proofs.YtoiajjobecinpaaGreat

namespace Go.Proofs.YtoiajjobecinpaaGreat
open Go.RowKit Go.Shelf Go.Lib Go.Proofs
set_option linter.unusedVariables false
set_option linter.unusedSimpArgs false
attribute [local go_sem] Oper.semAt_some

set_option maxRecDepth 100000 in
set_option maxHeartbeats 2000000 in
theorem sealof_any (a : Option Addr) (n c : Nat) (w : World) (h : BSl w a n) (hn : n ≤ 100000) :
    Calls Tryz.prog 226 #[.slice a n c] w fun e W' => ∃ x, e = .returned (.int .u32 x) ∧ Below w.heap.size w W' := by
  have H0 := Lib.hid h
  clear h
  go_enter Tryz.func226, Tryz.ntmps226
  go_wp2_with fail
  go_loopw [3, 8] (fun s x wr => ∃ (k : Nat) (y : Int), k ≤ n ∧ x = .int .i64 k ∧ s = .int .u32 y ∧ Hid (Below w.heap.size w wr)) (fun _ x _ => n - (intOf x).toNat)
  case atStart => exact ⟨0, _, Nat.zero_le _, rfl, rfl, Lib.hid (Below.refl _ _)⟩
  case round =>
    obtain ⟨k, y, hk, rfl, rfl, HB⟩ := hrel
    by_cases hkn : k < n
    · obtain ⟨g, i, x, rfl, hx0, hx1, hc⟩ := (H0.out.below HB.out).get k hkn
      have hk1 : (k : Int) < (n : Int) := by omega
      have hk0 : 0 ≤ (k : Int) := by omega
      go_wp2_with fail
      go_loopw [3, 16] (fun s z w2 => ∃ (j : Nat) (y : Int), j ≤ 8 ∧ z = .int .i64 j ∧ s = .int .u32 y ∧ Hid (Below w.heap.size w w2)) (fun _ z _ => 8 - (intOf z).toNat)
      case atStart => exact ⟨0, _, Nat.zero_le _, rfl, rfl, HB⟩
      case round =>
        obtain ⟨j, y2, hj, rfl, rfl, HB2⟩ := hrel
        by_cases hj8 : j < 8
        · have hj1 : (j : Int) < 8 := by omega
          have hj0 : 0 ≤ (j : Int) := by omega
          go_wp2_with fail
          go_roundw
          case rel => exact ⟨j + 1, _, hj8, by go_num, rfl, HB2⟩
          case measure => simp [intOf]; omega
        · obtain rfl : j = 8 := by omega
          go_wp2_with fail
          go_roundw
          case rel => exact ⟨k + 1, _, hkn, by go_num, rfl, HB2⟩
          case measure => simp [intOf]; omega
    · obtain rfl : k = n := by omega
      go_wp2_with fail
      go_ret
      exact ⟨⟨_, rfl⟩, HB.out⟩

theorem q257 : ∀ (w : World) (a : Option Addr) (n c n' c' : Nat), (binOp .eql 257 (.slice a n c) (.slice none n' c')).run Tryz.prog w = .ok (.bool a.isNone) w := fun w a n c n' c' => Lib.run_eql_slice_nil w _ _ a n c n' c' Tryz.underlying257

set_option maxRecDepth 100000 in
set_option maxHeartbeats 2000000 in
theorem bclone_any (a : Option Addr) (n c : Nat) (w : World) (h : BSl w a n) (hn : n ≤ 100000) :
    Calls Tryz.prog 227 #[.slice a n c] w fun e W' => ∃ v', e = .returned v' ∧ BRow W' w.heap.size v' n ∧ Below w.heap.size w W' := by
  have qT := q257
  cases a with
  | none =>
    obtain rfl : n = 0 := by
      obtain ⟨xs, h1, h2, h3⟩ := h
      rcases Nat.eq_zero_or_pos n with e | e
      · exact e
      · obtain ⟨g, i, e2, _⟩ := h3 e; cases e2
    go_enter Tryz.func227, Tryz.ntmps227
    go_wp2
    go_ret
    exact ⟨_, rfl, BRow.nil _ _, Below.refl _ _⟩
  | some A =>
    obtain ⟨i0, hi, hz0, hz1, hz2⟩ := info_parts info5
    obtain ⟨bs, hl, hbs, hc⟩ := h
    have hown0 : (w.alloc (.cells #[] 5)).ownsRow w.heap.size 5 1 (.slice (some ⟨w.heap.size, 0, none⟩) 0 0) 0 [] :=
      ⟨rfl, .inr ⟨w.heap.size, 0, #[], rfl, Nat.le_refl _, by show (w.heap.push _)[w.heap.size]? = _; simp, Nat.le_refl _, by unfold maxLen; omega, rfl, rfl⟩⟩
    have HC : Hid (∀ j u, (bs.map (Value.int .u8))[j]? = some u → (w.alloc (.cells #[] 5)).cell? (A.add j) = some u) := by
      refine Lib.hid fun j u hu => ?_
      have hj : j < n := by
        have := (List.getElem?_eq_some_iff.1 hu).1
        simpa [hl] using this
      obtain ⟨g, i, e, hcc⟩ := hc (by omega)
      simp only [Option.some.injEq] at e
      subst e
      have e : (bs.map (Value.int .u8))[j]? = some (.int .u8 (bs.getD j 0)) := by simp [List.getD, show j < bs.length by omega]
      rw [e] at hu
      rw [← hu, Addr.add_lit]
      exact Lib.cell?_alloc_some _ (hcc j hj)
    have HBS := Lib.hid hbs
    have HL := Lib.hid hl
    clear hc hbs hl
    go_enter Tryz.func227, Tryz.ntmps227
    go_wp2_with (at_builtin; refine wpList_append_own _ rfl (.tmp 5) (.tmp 6) 257 rfl w.heap.size 5 i0 (.int .u8 0) 1 1 Tryz.underlying257 hi hz0 hz1 hz2 rfl (by decide) _ _ _ rfl hown0 A n c (bs.map (Value.int .u8)) rfl (by simp [HL.out]) HC.out (ints_oneCell .u8 bs) (by unfold maxLen; omega) (by omega) (by simp) ?_; intro v' w1 hown' hgrow hnil)
    have hb : Below w.heap.size w w1 := ((Below.refl _ _).alloc (Nat.le_refl _) _).grown hgrow (by simp) (fun k hk => Nat.le_of_eq (Option.some.inj hk))
    go_wp2
    go_ret
    exact ⟨_, rfl, ⟨bs, by simpa using hown', HBS.out⟩, hb⟩

set_option maxRecDepth 100000 in
set_option maxHeartbeats 2000000 in
theorem sclone_any (a : Option Addr) (n c : Nat) (w : World) (h : BSl w a n) (hn : n ≤ 100000) :
    Calls Tryz.prog 229 #[.slice a n c] w fun e W' => ∃ v', e = .returned v' ∧ BRow W' w.heap.size v' n ∧ Below w.heap.size w W' := by
  have qT := q257
  cases a with
  | none =>
    obtain rfl : n = 0 := by
      obtain ⟨xs, h1, h2, h3⟩ := h
      rcases Nat.eq_zero_or_pos n with e | e
      · exact e
      · obtain ⟨g, i, e2, _⟩ := h3 e; cases e2
    go_enter Tryz.func229, Tryz.ntmps229
    go_wp2
    go_ret
    exact ⟨_, rfl, BRow.nil _ _, Below.refl _ _⟩
  | some A =>
    obtain ⟨i0, hi, hz0, hz1, hz2⟩ := info_parts info5
    obtain ⟨bs, hl, hbs, hc⟩ := h
    have hown0 : (w.alloc (.cells #[] 5)).ownsRow w.heap.size 5 1 (.slice (some ⟨w.heap.size, 0, none⟩) 0 0) 0 [] :=
      ⟨rfl, .inr ⟨w.heap.size, 0, #[], rfl, Nat.le_refl _, by show (w.heap.push _)[w.heap.size]? = _; simp, Nat.le_refl _, by unfold maxLen; omega, rfl, rfl⟩⟩
    have HC : Hid (∀ j u, (bs.map (Value.int .u8))[j]? = some u → (w.alloc (.cells #[] 5)).cell? (A.add j) = some u) := by
      refine Lib.hid fun j u hu => ?_
      have hj : j < n := by
        have := (List.getElem?_eq_some_iff.1 hu).1
        simpa [hl] using this
      obtain ⟨g, i, e, hcc⟩ := hc (by omega)
      simp only [Option.some.injEq] at e
      subst e
      have e : (bs.map (Value.int .u8))[j]? = some (.int .u8 (bs.getD j 0)) := by simp [List.getD, show j < bs.length by omega]
      rw [e] at hu
      rw [← hu, Addr.add_lit]
      exact Lib.cell?_alloc_some _ (hcc j hj)
    have HBS := Lib.hid hbs
    have HL := Lib.hid hl
    clear hc hbs hl
    go_enter Tryz.func229, Tryz.ntmps229
    go_wp2_with (at_builtin; refine wpList_append_own _ rfl (.tmp 5) (.tmp 6) 257 rfl w.heap.size 5 i0 (.int .u8 0) 1 1 Tryz.underlying257 hi hz0 hz1 hz2 rfl (by decide) _ _ _ rfl hown0 A n c (bs.map (Value.int .u8)) rfl (by simp [HL.out]) HC.out (ints_oneCell .u8 bs) (by unfold maxLen; omega) (by omega) (by simp) ?_; intro v' w1 hown' hgrow hnil)
    have hb : Below w.heap.size w w1 := ((Below.refl _ _).alloc (Nat.le_refl _) _).grown hgrow (by simp) (fun k hk => Nat.le_of_eq (Option.some.inj hk))
    go_wp2
    go_ret
    exact ⟨_, rfl, ⟨bs, by simpa using hown', HBS.out⟩, hb⟩

theorem conv_bytes (a : Option Addr) (n c : Nat) (w : World) (h : BSl w a n) : ∃ s, (convert 257 9 (.slice a n c)).run Tryz.prog w = .ok (.string s) w := by
  obtain ⟨xs, hl, hxs, hc⟩ := h
  rcases Nat.eq_zero_or_pos n with e | e
  · subst e
    exact ⟨_, run_convert_bytes_zero w 257 5 Tryz.underlying257 Tryz.underlying5 a c 9 Tryz.underlying9⟩
  · obtain ⟨g, i, rfl, hcc⟩ := hc e
    exact ⟨_, run_convert_bytes_arg (P := Tryz.prog) w 257 5 Tryz.underlying257 Tryz.underlying5 g i n c xs hl hcc 9 Tryz.underlying9⟩

set_option maxRecDepth 100000 in
set_option maxHeartbeats 2000000 in
theorem bequal_any (a : Option Addr) (n c : Nat) (a' : Option Addr) (n' c' : Nat) (w : World) (h : BSl w a n) (h' : BSl w a' n') :
    Calls Tryz.prog 237 #[.slice a n c, .slice a' n' c'] w fun e W' => ∃ x, e = .returned (.bool x) ∧ W' = w := by
  obtain ⟨s, hs⟩ := conv_bytes a n c w h
  obtain ⟨s', hs'⟩ := conv_bytes a' n' c' w h'
  clear h h'
  go_enter Tryz.func237, Tryz.ntmps237
  go_wp2
  go_ret
  exact ⟨_, rfl, rfl⟩

end Go.Proofs.YtoiajjobecinpaaGreat

namespace Go.Proofs.YtoiajjobecinpaaGreat
open Go.RowKit Go.Shelf Go.Lib Go.Proofs
set_option linter.unusedVariables false
set_option linter.unusedSimpArgs false
attribute [local go_sem] Oper.semAt_some

set_option maxRecDepth 100000 in
set_option maxHeartbeats 2000000 in
theorem sealput_any (a : Option Addr) (n c : Nat) (w : World) (h : BSl w a n) (hn : n ≤ 50000) :
    Calls Tryz.prog 216 #[.slice a n c] w fun e W' => ∃ v', e = .returned v' ∧ BRow W' w.heap.size v' (n + 4) ∧ Below w.heap.size w W' := by
  obtain ⟨i0, hi, hz0, hz1, hz2⟩ := info_parts info5
  have H0 := Lib.hid h
  clear h
  go_enter Tryz.func216, Tryz.ntmps216
  go_wp2_with fail
  refine (sealof_any a n c _ H0.out (by omega)).mono ?_
  rintro e w1 ⟨x, rfl, hb1⟩
  have hz1' := hb1.size
  go_wp2_with fail
  refine (bclone_any a n c _ (H0.out.below hb1) (by omega)).mono ?_
  rintro e w2 ⟨v2, rfl, hrow2, hb2⟩
  have hz2' := hb2.size
  obtain ⟨bs, hrow, hbs⟩ := hrow2
  have HB1 := Lib.hid hb1
  have HB2 := Lib.hid hb2
  have HBS := Lib.hid hbs
  clear hb1 hb2 hbs
  go_wp2_with (at_builtin; refine wpList_append_lies _ rfl _ _ 257 rfl w1.heap.size 5 i0 (.int .u8 0) 1 1 Tryz.underlying257 hi hz0 hz1 hz2 rfl (by decide) _ n _ rfl (hrow.alloc _) ⟨w2.heap.size, 0, none⟩ 4 4 [_, _, _, _] rfl rfl (World.news_of_block (heap_alloc_new w2 _)) (by simp [Value.oneCell']) (by omega) (by unfold maxLen; omega) (by omega) (by simp; omega) (w2.heap.size + 1) (by simp) ?_; intro g cap w4 hown4 hgrow4 hat4 hlt4)
  have HR4 : Hid (BRow w4 w1.heap.size (.slice (some ⟨g, 0, none⟩) (n + 4) cap) (n + 4)) := Lib.hid (BRow.snoc (m := 4) [_, _, _, _] HBS.out (by intro y hy; simp only [List.mem_cons, List.not_mem_nil, or_false] at hy; rcases hy with rfl | rfl | rfl | rfl <;> first | exact u8_of _ | omega) hown4)
  have HB4 : Hid (Below w.heap.size w w4) := Lib.hid (((HB1.out.trans (HB2.out.mono hz1')).alloc (by omega) _).grown hgrow4 (by simp; omega) (fun k hk => by have := (hrow.lt k hk).1; omega))
  clear hown4 hgrow4 hat4 hlt4 hrow
  go_wp2
  go_ret
  exact ⟨_, rfl, HR4.out.base hz1', HB4.out⟩

end Go.Proofs.YtoiajjobecinpaaGreat

namespace Go.Proofs.YtoiajjobecinpaaGreat
open Go.RowKit Go.Shelf Go.Lib Go.Proofs
set_option linter.unusedVariables false
set_option linter.unusedSimpArgs false
attribute [local go_sem] Oper.semAt_some

set_option maxRecDepth 100000 in
set_option maxHeartbeats 2000000 in
theorem sealget_any (a : Option Addr) (n c : Nat) (w : World) (h : BSl w a n) (hn : n ≤ 50000) (hc : n ≤ c) (hcm : c ≤ 9223372036854775807) :
    Calls Tryz.prog 234 #[.slice a n c] w fun e W' => ∃ v' m er, e = .returned (.tuple #[v', .int .i64 er]) ∧ m ≤ n ∧ BRow W' w.heap.size v' m ∧ Below w.heap.size w W' := by
  by_cases h4 : n < 4
  · have d4 : decide ((n : Int) - 4 < 0) = true := decide_eq_true (by omega)
    go_enter Tryz.func234, Tryz.ntmps234
    go_wp2_with fail
    go_ret2
    exact ⟨_, 0, _, rfl, by omega, BRow.nil _ _, Below.refl _ _⟩
  · have d4 : decide ((n : Int) - 4 < 0) = false := decide_eq_false (by omega)
    obtain ⟨g, i, x, rfl, -⟩ := h.get 0 (by omega)
    have hd := h.head (n - 4) (by omega)
    have H0 := Lib.hid h
    have h44 : 0 ≤ (n : Int) - 4 := by omega
    clear h
    go_enter Tryz.func234, Tryz.ntmps234
    go_wp2_with fail
    refine (sealput_any _ (n - 4) c _ hd (by omega)).mono ?_
    rintro e w1 ⟨v1, rfl, hr1, hb1⟩
    obtain ⟨a1, c1, rfl⟩ : ∃ a1 c1, v1 = .slice a1 (n - 4 + 4) c1 := by
      obtain ⟨bs, hr, -⟩ := hr1
      rcases hr.2 with ⟨rfl, e0⟩ | ⟨g', cap, cur, rfl, _⟩
      · omega
      · exact ⟨_, _, rfl⟩
    have hs1 := hr1.toSl
    have HB1 := Lib.hid hb1
    clear hr1 hb1
    go_wp2_with fail
    refine (bequal_any a1 _ c1 _ n c _ hs1 (H0.out.below HB1.out)).mono ?_
    rintro e w2 ⟨x2, rfl, rfl⟩
    cases x2 with
    | false =>
      go_wp2_with fail
      go_ret2
      exact ⟨_, 0, _, rfl, by omega, BRow.nil _ _, HB1.out⟩
    | true =>
      go_wp2_with fail
      refine (bclone_any _ (n - 4) c _ (hd.below HB1.out) (by omega)).mono ?_
      rintro e w3 ⟨v3, rfl, hr3, hb3⟩
      have HR3 := Lib.hid hr3
      have HB3 := Lib.hid hb3
      clear hr3 hb3
      go_wp2_with fail
      go_ret2
      exact ⟨_, n - 4, _, rfl, by omega, HR3.out.base HB1.out.size, HB1.out.trans (HB3.out.mono HB1.out.size)⟩

/-- A version told; only of three bytes or more. -/
def VerP (n : Nat) (w : World) (e : Ending) (W' : World) : Prop := ∃ (x : Int) (ok : Bool), e = .returned (.tuple #[.int .i64 x, .bool ok]) ∧ (ok = true → 3 ≤ n) ∧ Below w.heap.size w W'

set_option maxRecDepth 100000 in
set_option maxHeartbeats 2000000 in
theorem version_any (a : Option Addr) (n c : Nat) (w : World) (h : BSl w a n) (hn : n ≤ 50000) :
    Calls Tryz.prog 235 #[.slice a n c] w (VerP n w) := by
  by_cases h3 : n < 3
  · have d3 : decide ((n : Int) < 3) = true := decide_eq_true (by omega)
    go_enter Tryz.func235, Tryz.ntmps235
    go_wp2_with fail
    go_ret2
    exact ⟨_, _, rfl, by simp, Below.refl _ _⟩
  · have d3 : decide ((n : Int) < 3) = false := decide_eq_false (by omega)
    obtain ⟨g, i, x, rfl, hx0, hx1, hc⟩ := h.get 0 (by omega)
    obtain ⟨g1, i1, x1, e1, hy0, hy1, hc1⟩ := h.get 1 (by omega)
    obtain ⟨g2, i2, x2, e2, hz0, hz1, hc2⟩ := h.get 2 (by omega)
    cases e1
    cases e2
    have h30 : ¬ (n : Int) < 3 := by omega
    have n0 : (0 : Int) < n := by omega
    have n1 : (1 : Int) < n := by omega
    have n2 : (2 : Int) < n := by omega
    rw [Nat.add_zero] at hc
    clear h
    go_enter Tryz.func235, Tryz.ntmps235
    cases k0 : (x != 83) with
    | true =>
      go_wp2_with fail
      go_ret2
      exact ⟨_, _, rfl, by simp, Below.refl _ _⟩
    | false =>
      cases k1 : (x1 != 72) with
      | true =>
        go_wp2_with fail
        go_ret2
        exact ⟨_, _, rfl, by simp, Below.refl _ _⟩
      | false =>
        go_wp2_with fail
        go_ret2
        exact ⟨_, _, rfl, fun _ => by omega, Below.refl _ _⟩

end Go.Proofs.YtoiajjobecinpaaGreat

namespace Go.Proofs.YtoiajjobecinpaaGreat
open Go.RowKit Go.Shelf Go.Lib Go.Proofs
set_option linter.unusedVariables false
set_option linter.unusedSimpArgs false
attribute [local go_sem] Oper.semAt_some

theorem BRow.form2 {W : World} {B : Nat} {v : Value} {n : Nat} (h : BRow W B v n) : ∃ a c, v = .slice a n c ∧ n ≤ c ∧ c ≤ 9223372036854775807 := by
  obtain ⟨bs, h, -⟩ := h
  rcases h.2 with ⟨rfl, rfl⟩ | ⟨g, cap, cur, rfl, h1, h2, h3, h4, _⟩
  · exact ⟨_, 0, rfl, Nat.le_refl _, by omega⟩
  · unfold maxLen at h4
    exact ⟨_, cap, rfl, h3, by omega⟩

/-- Bytes opened: a slice to be read. -/
def OpenP (n : Nat) (w : World) (e : Ending) (W' : World) : Prop :=
  ∃ (a : Option Addr) (m c : Nat) (v er : Int), e = .returned (.tuple #[.slice a m c, .int .i64 v, .int .i64 er]) ∧ m ≤ n ∧ m ≤ c ∧ c ≤ 9223372036854775807 ∧ BSl W' a m ∧ Below w.heap.size w W'

set_option maxRecDepth 100000 in
set_option maxHeartbeats 2000000 in
theorem open_any (a : Option Addr) (n c : Nat) (w : World) (h : BSl w a n) (hn : n ≤ 50000) (hc : n ≤ c) (hcm : c ≤ 9223372036854775807) :
    Calls Tryz.prog 228 #[.slice a n c] w (OpenP n w) := by
  have hget := sealget_any a n c w h hn hc hcm
  clear h
  go_enter Tryz.func228, Tryz.ntmps228
  go_wp2_with fail
  refine hget.mono ?_
  rintro e w1 ⟨v1, m, er, rfl, hm, hr1, hb1⟩
  obtain ⟨a1, c1, rfl, hc1, hc2⟩ := hr1.form2
  have hs1 := hr1.toSl
  have HS1 := Lib.hid hs1
  have HB1 := Lib.hid hb1
  clear hr1 hb1 hget
  cases her : (er != 0) with
  | true =>
    go_wp2_with fail
    go_ret3
    exact ⟨_, 0, 0, _, _, rfl, by omega, by omega, by omega, BSl.none _ _, HB1.out⟩
  | false =>
    go_wp2_with fail
    refine (version_any a1 m c1 _ hs1 (by omega)).mono ?_
    rintro e w2 ⟨x, ok, rfl, h3, hb2⟩
    have HB2 := Lib.hid hb2
    clear hs1 hb2
    cases ok with
    | false =>
      go_wp2_with fail
      go_ret3
      exact ⟨_, 0, 0, _, _, rfl, by omega, by omega, by omega, BSl.none _ _, HB1.out.trans (HB2.out.mono HB1.out.size)⟩
    | true =>
      have h3q := h3 rfl
      clear h3
      have h3 := h3q
      obtain ⟨g, i, x0, rfl, -⟩ := HS1.out.get 0 (by omega)
      have h33 : (3 : Int) ≤ m := by omega
      by_cases e3 : c1 = 3
      · subst e3
        go_wp2_with fail
        go_ret3
        have e0 : m - 3 = 0 := by omega
        exact ⟨_, 0, 0, _, _, rfl, by omega, by omega, by omega, BSl.none _ _, HB1.out.trans (HB2.out.mono HB1.out.size)⟩
      · go_wp2_with fail
        go_ret3
        exact ⟨_, m - 3, c1 - 3, _, _, rfl, by omega, by omega, by omega, (HS1.out.tail 3 h3).below (HB2.out), HB1.out.trans (HB2.out.mono HB1.out.size)⟩

/-- A number read, and what is behind it. -/
def ReadP (a0 : Option Addr) (n s c : Nat) (w : World) (e : Ending) (W' : World) : Prop :=
  ∃ (x : Int) (a : Option Addr), e = .returned (.tuple #[.int .i64 x, .slice a (n - s) (c - s)]) ∧ (∀ W0, BSl W0 a0 n → BSl W0 a (n - s)) ∧ Below w.heap.size w W'

set_option maxRecDepth 100000 in
set_option maxHeartbeats 2000000 in
theorem read_any (a : Option Addr) (n c s : Nat) (w : World) (h : BSl w a n) (hn : n ≤ 50000) (hc : n ≤ c) (hcm : c ≤ 9223372036854775807) (hs : s ≤ n) (hs1 : 1 ≤ s) :
    Calls Tryz.prog 230 #[.slice a n c, .int .i64 s] w (ReadP a n s c w) := by
  obtain ⟨g, i, x0, rfl, -⟩ := h.get 0 (by omega)
  have H0 := Lib.hid h
  have hsn : (s : Int) ≤ n := by omega
  have hsc : (s : Int) ≤ c := by omega
  have hs0 : (0 : Int) ≤ s := by omega
  clear h
  go_enter Tryz.func230, Tryz.ntmps230
  go_wp2_with fail
  go_loopw [6, 13] (fun y x wr => ∃ (k : Nat) (z : Int), k ≤ s ∧ x = .int .i64 k ∧ y = .int .i64 z ∧ Hid (Below w.heap.size w wr)) (fun _ x _ => s - (intOf x).toNat)
  case atStart => exact ⟨0, _, Nat.zero_le _, rfl, rfl, Lib.hid (Below.refl _ _)⟩
  case round =>
    obtain ⟨k, z, hk, rfl, rfl, HB⟩ := hrel
    by_cases hks : k < s
    · obtain ⟨g', i', x, e, hx0, hx1, hcx⟩ := (H0.out.below HB.out).get k (by omega)
      cases e
      have hk1 : (k : Int) < (s : Int) := by omega
      have hk0 : 0 ≤ (k : Int) := by omega
      go_wp2_with fail
      go_roundw
      case rel => exact ⟨k + 1, _, hks, by go_num, rfl, HB⟩
      case measure => simp [intOf]; omega
    · obtain rfl : k = s := by omega
      by_cases e3 : c = k
      · subst e3
        go_wp2_with fail
        go_quiet (fail)
        go_wp2
        go_ret2
        exact ⟨_, _, by rw [show n - c = 0 from by omega, show c - c = 0 from by omega]; rfl, fun W0 _ => by rw [show n - c = 0 from by omega]; exact BSl.none _ _, below_drewN HB.out _⟩
      · go_wp2_with fail
        go_quiet (fail)
        go_wp2
        go_ret2
        exact ⟨_, _, rfl, fun W0 h0 => h0.tail k hs, below_drewN HB.out _⟩

end Go.Proofs.YtoiajjobecinpaaGreat

namespace Go.Proofs.YtoiajjobecinpaaGreat
open Go.RowKit
set_option linter.unusedVariables false
set_option linter.unusedSimpArgs false

/-- The worlds of which S holds, as the values of a function. -/
theorem klass (S : World → Prop) (w : World) (h : S w.drew) : ∃ (Idx : Type) (f : Idx → World) (i0 : Idx), w.drew = f i0 ∧ (∀ i, S (f i)) ∧ (∀ w', S w' → ∃ i, w' = f i) :=
  ⟨{w' // S w'}, Subtype.val, ⟨w.drew, h⟩, rfl, fun i => i.2, fun w' h => ⟨⟨w', h⟩, rfl⟩⟩

theorem wp_region_quietC {P : Program} {Idx : Type} (f : Idx → World) (i0 : Idx) {id : Nat} {Q : Exit → Act → World → Prop} {a : Act} {w : World} {l : List Oper} (h0 : w.drew = f i0) (hm : P.follows .mixedOrders = true) (hB : Region.lexB .any l.toArray = true)
    (h : wpQuiet P l.toArray (fun w' => ∃ i, w' = f i) (fun a' => ∀ i, Q .normal a' (f i)) l a) : (Code.region id l.toArray true).wp P Q a w := by
  refine wp_region_quiet (C := fun w' => ∃ i, w' = f i) hm hB ⟨i0, h0⟩ ?_
  have : ∀ (l' : List Oper) (a : Act), wpQuiet P l.toArray (fun w' => ∃ i, w' = f i) (fun a' => ∀ i, Q .normal a' (f i)) l' a → wpQuiet P l.toArray (fun w' => ∃ i, w' = f i) (fun a' => ∀ w', (∃ i, w' = f i) → Q .normal a' w') l' a := by
    intro l'
    induction l' with
    | nil => intro a h w' ⟨i, e⟩; rw [e]; exact h i
    | cons o l' ih =>
      intro a h
      unfold wpQuiet at h ⊢
      split
      · rename_i hw
        rw [if_pos hw] at h
        obtain ⟨v, h1, h2⟩ := h
        exact ⟨v, h1, ih _ h2⟩
      · rename_i hw
        rw [if_neg hw] at h
        exact ih _ h
  simpa using this l a h

end Go.Proofs.YtoiajjobecinpaaGreat
