/- hold, where nothing is spent. A queue seeded with a form. Which function a queue's method is, by its dynamic type. A task comes to a core; what each is owed there; its load. -/
import Derived.Sort.BigQuietIn
import Derived.Test.YtoiajjobecinpaaGreatRows
import Derived.WalkKit
import Derived.ProofKit
import Derived.Below
import Derived.Lib.Hide
import Derived.Laws.AppendOwn
import Derived.Shelf.SlicesQ.IndexFunc
import Derived.Ground.SlgfProg
import Derived.Deep.QuietTactic
import Derived.BigQuiet
import Derived.Deep.DeepCutAuto
import Derived.Deep.RegionHeld3
import Derived.Ground.SlsfProg
import Derived.Deep.AppendLies
import Derived.Deep.RegionLaw
import Derived.Lib.SlBy
import Derived.StillTail
import Derived.Shelf.Bits.Mul64
import Derived.Shelf.Spec.BitsCarry
import Derived.Shelf.Lay
import Derived.Ground.NamesProg
import Derived.Ground.Names7Prog
import Derived.Maps.Views
import Derived.Maps.OwnSet
import Derived.RangeFuncNested
import Derived.RangeFuncBound
import Derived.RangeFuncCalls
import Derived.RangeFuncLeaves
import Derived.RangeFuncFrom
import Derived.Shelf.Abstract
import Derived.Shelf.RegionOpen
import Derived.OwnWalkIn
import Derived.TacticsInMore
import Derived.LoopNIn
import Derived.LoopIn
import Derived.WalkSpells
import Derived.WalkLawsBesides
import Derived.WalkMore
import Derived.Lib.SliceRun
import Derived.Laws.BytesArg
import Derived.Shelf.Bytes.SlEqualAll
import Derived.WalkSmall
import Derived.OwnWalk
import Derived.Shelf.SlicesQ.Equal
import Derived.Laws.StructEq
import Derived.Ground.SlgqProg
import Derived.Test.YtoiajjobecinpaaGreatSh13

namespace Go.Proofs.YtoiajjobecinpaaGreat
open Go.RowKit Go.Shelf Go.Lib Go.Proofs
set_option linter.unusedVariables false
set_option linter.unusedSimpArgs false
attribute [local go_sem] Oper.semAt_some

/-- The marks that ranges over functions have left. -/
def MarksOk (n₀ : Nat) : List Deferred → World → Prop
  | [], _ => True
  | d :: ds, W => (∃ r, d.target = .collected r ∧ n₀ ≤ r ∧ W.heap[r]? = some (.deferred (some [])) ∧ ∀ d' ∈ ds, d'.target ≠ .collected r) ∧ MarksOk n₀ ds W

theorem MarksOk.kept {n₀ : Nat} {W W' : World} : ∀ {ds : List Deferred}, MarksOk n₀ ds W → (∀ r, n₀ ≤ r → W.heap[r]? = some (.deferred (some [])) → (∃ d ∈ ds, d.target = .collected r) → W'.heap[r]? = some (.deferred (some []))) → MarksOk n₀ ds W'
  | [], _, _ => trivial
  | d :: ds, ⟨⟨r, h1, h2, h3, h4⟩, h5⟩, hk => ⟨⟨r, h1, h2, hk r h2 h3 ⟨d, by simp, h1⟩, h4⟩, h5.kept (fun r' a b ⟨d', c, e⟩ => hk r' a b ⟨d', List.mem_cons_of_mem _ c, e⟩)⟩

theorem MarksOk.below {n₀ : Nat} {W W' : World} {ds : List Deferred} (h : MarksOk n₀ ds W) (hb : Below W.heap.size W W') : MarksOk n₀ ds W' :=
  h.kept (fun r _ hr _ => (hb.block r (lt_of_some hr)).trans hr)

theorem MarksOk.lt {n₀ : Nat} {W : World} : ∀ {ds : List Deferred}, MarksOk n₀ ds W → ∀ d ∈ ds, ∃ r, d.target = .collected r ∧ r < W.heap.size
  | [], _, _, h => by cases h
  | d :: ds, ⟨⟨r, h1, h2, h3, h4⟩, h5⟩, d', h => by
    rcases List.mem_cons.1 h with e | e
    · exact ⟨r, by rw [e]; exact h1, lt_of_some h3⟩
    · exact h5.lt d' e

theorem MarksOk.cons {n₀ D : Nat} {W W' : World} {ds : List Deferred} {args : Array Value} (h : MarksOk n₀ ds W) (hb : Below W.heap.size W W') (hn : n₀ ≤ W.heap.size) (hD : W.heap.size ≤ D) (hK : W'.heap[D]? = some (.deferred (some []))) : MarksOk n₀ ({ target := .collected D, args := args } :: ds) W' :=
  ⟨⟨D, rfl, by omega, hK, fun d' hd e => by obtain ⟨r, h1, h2⟩ := h.lt d' hd; rw [h1] at e; cases e; omega⟩, h.below hb⟩

theorem leaves_marks {F : Fence} {n : Nat} {P : Program} {fn : Func} {tmps : Array Value} {R : Ending → World → Prop} {n₀ : Nat} : ∀ (ds : List Deferred) (W : World), MarksOk n₀ ds W → n₀ ≤ W.heap.size → (∀ W', Below n₀ W W' → LeavesInM F n P fn tmps R [] .returning W') → LeavesInM F n P fn tmps R ds .returning W
  | [], W, _, _, hf => hf W (Below.refl _ _)
  | d :: ds, W, ⟨⟨r, h1, h2, h3, h4⟩, h5⟩, hn, hf => by
    refine ⟨by simp, .inl ⟨r, _, h1, run_takeDeferred h3, ?_⟩⟩
    have hb : Below n₀ W (W.putObj r (.deferred none)) := belowK_b (w := ⟨W.heap.extract 0 n₀, W.tape, W.drawn, W.os, W.output⟩) (by simp; omega) W r _ _ (by simp; omega) h3 rfl rfl
    refine leaves_marks ds _ (h5.kept (fun r' a b ⟨d', c, e⟩ => ?_)) (Nat.le_trans hn hb.size) (fun W' hW' => hf W' (hb.trans hW'))
    rw [World.putObj_heap_other (fun e2 => h4 d' c (by rw [e, e2]))]
    exact b

set_option maxRecDepth 100000 in
set_option maxHeartbeats 4000000 in
theorem hold_none (sb gb nb pb mb n : Nat) (cv : Value) (D : DataW Unit) (cbs : List Nat) (tb : Int → Nat) (own : Nat → Option Own) (s : Sy) (w : World)
    (h : SysAt w sb gb nb pb mb n cv D cbs tb own s) (hz : Sized s.ps) (hd : DomY s) (hne : listP s.ps ≠ [])
    (hs : ∀ x ∈ listP s.ps, ∀ t, s.tasks x = some t → ∃ xs, IsPath s.gs t.group xs ∧ xs.any (spentA s) = false) :
    Calls Tryz.prog 114 #[.pointer (some ⟨sb, 0, none⟩)] w fun e W' => e = .returned (.tuple #[]) ∧ Below w.heap.size w W' := by
  have hsort := fun W hW => sorted_any sb gb nb pb mb n cv D cbs tb own s W hW hz hd hne
  have hlen64 : (listP s.ps).length ≤ 64 := Nat.le_trans (listFrom_len _ _) hz.1
  have hB0 : Below w.heap.size w (w.alloc (.cells #[.pointer (some ⟨sb, 0, none⟩)] 81)) := (Below.refl _ w).alloc (Nat.le_refl _) _
  have hsort1 := hsort _ (h.below hB0)
  have HS := Lib.hid h
  have HD := Lib.hid hd
  have HH := Lib.hid hs
  have q0 := cell_new_l w (.pointer (some ⟨sb, 0, none⟩)) 81
  clear h hd hs hne hz hsort
  refine callsIn_wide.1 (callsIn_of_wp_marks (n := 5) Tryz.func114 rfl trivial (wpIn_wide.2 ?_) rfl)
  simp only [Tryz.ntmps114, List.size_toArray, List.length_cons, List.length_nil, Nat.reduceAdd, Nat.reduceSub, Array.replicate_succ, Array.replicate_zero, List.push_toArray, List.append_toArray, List.nil_append, List.cons_append]
  go_wp2_with fail
  refine wp_scope_straight ?_
  refine wp_seq ?_
  refine wp_label ?_
  show Code.wp _ _ _ _ _
  go_wp2_with fail
  refine hsort1.mono ?_
  rintro e w1 ⟨v, ids, rfl, hperm, -, hrow, hb1⟩
  obtain ⟨p, c, hv⟩ : ∃ p c, v = .slice p ids.length c := by
    rcases hrow.2 with ⟨e, h0⟩ | ⟨g, cap, cur, e, _⟩
    · exact ⟨none, 0, by rw [e, h0]⟩
    · exact ⟨_, _, e⟩
  subst hv
  have HP := Lib.hid hperm
  have HR := Lib.hid hrow
  have HB := Lib.hid hb1
  obtain ⟨m, hm⟩ : ∃ m, ids.length = m := ⟨_, rfl⟩
  rw [hm]
  have HM := Lib.hid hm
  have hm64 : m ≤ 64 := by rw [← hm, hperm.length_eq]; exact hlen64
  clear hsort1 hperm hrow hb1 hm
  go_wp2_with fail
  refine wp_loop (fun a' wr => ∃ (k : Nat) (y : Int) (ds : List Deferred) (u3 u4 u9 u10 u11 u12 u13 u14 u15 u16 u17 u18 u19 u20 u21 u22 u23 u24 u25 u26 u27 u28 u29 u30 u31 u32 u33 u34 u35 u36 u37 u38 u39 : Value), (y = (k : Int) ∧ k ≤ m ∧ Hid (Below w1.heap.size w1 wr) ∧ Hid (MarksOk w.heap.size ds wr)) ∧
    a' = { tmps := #[Value.pointer (some ⟨sb, 0, none⟩), .pointer (some ⟨w.heap.size, 0, none⟩), undef, u3, u4, .pointer (some ⟨sb, 0, none⟩), .slice p m c, .int .i64 m, .int .i64 y, u9, u10, u11, u12, u13, u14, u15, u16, u17, u18, u19, u20, u21, u22, u23, u24, u25, u26, u27, u28, u29, u30, u31, u32, u33, u34, u35, u36, u37, u38, u39], defers := ds })
    (fun a' _ => m - (intOf (a'.tmps.getD 8 undef)).toNat) ?start ?round
  case start => exact ⟨0, 0, [], _, _, _, _, _, _, _, _, _, _, _, _, _, _, _, _, _, _, _, _, _, _, _, _, _, _, _, _, _, _, _, _, _, ⟨rfl, Nat.zero_le _, Lib.hid (Below.refl _ _), Lib.hid trivial⟩, rfl⟩
  case round =>
    rintro _ wr ⟨k, y, ds, u3, u4, u9, u10, u11, u12, u13, u14, u15, u16, u17, u18, u19, u20, u21, u22, u23, u24, u25, u26, u27, u28, u29, u30, u31, u32, u33, u34, u35, u36, u37, u38, u39, ⟨rfl, hk, HBR, HMK⟩, rfl⟩
    have hBw : Below w.heap.size w wr := (hB0.trans (HB.out.mono hB0.size)).trans (HBR.out.mono (Nat.le_trans hB0.size HB.out.size))
    have hS := HS.out.below hBw
    by_cases hkm : k < m
    · have hk1 : (k : Int) < (m : Int) := by omega
      have hk0 : 0 ≤ (k : Int) := by omega
      have hkl : k < ids.length := by rw [HM.out]; exact hkm
      obtain ⟨g, hp⟩ : ∃ g, p = some ⟨g, 0, none⟩ := by
        rcases HR.out.2 with ⟨_, h0⟩ | ⟨g, cap, cur, e, _⟩
        · omega
        · simp only [Value.slice.injEq] at e; exact ⟨g, e.1⟩
      subst hp
      have hcell : wr.cell? ⟨g, k, none⟩ = some (.pointer (some ⟨tb (ids[k]'hkl), 0, none⟩)) := by
        refine (HBR.out.cell (p := ⟨g, k, none⟩) (HR.out.lt g rfl).2).trans ?_
        have := HR.out.cells (g := g) rfl k (.pointer (some ⟨tb (ids[k]'hkl), 0, none⟩)) (by rw [List.getElem?_map, List.getElem?_eq_getElem hkl]; rfl)
        simpa [Addr.add_lit] using this
      have hmem : (ids[k]'hkl) ∈ listP s.ps := HP.out.subset (List.getElem_mem hkl)
      obtain ⟨_, t, ht, -⟩ := HD.out _ hmem
      have hT := (hS.task _ t ht).1
      obtain ⟨xs, hL, hany⟩ := HH.out _ hmem t ht
      generalize tb (ids[k]'hkl) = b at hcell hT
      have hbl : b < wr.heap.size := World.block_lt_of_cell? _ _ hT.id
      have hst := hT.state
      have hq : wr.cell? ⟨w.heap.size, 0, none⟩ = some (.pointer (some ⟨sb, 0, none⟩)) := (HBR.out.cell (p := ⟨w.heap.size, 0, none⟩) (by have := HB.out.size; rw [World.size_alloc] at this; show w.heap.size < w1.heap.size; omega)).trans ((HB.out.cell (p := ⟨w.heap.size, 0, none⟩) (by simp)).trans q0.1)
      have hwz : w.heap.size < wr.heap.size := World.block_lt_of_cell? _ _ hq
      have hgl := hS.groups.lt
      have hsl := hS.lt sb (by rw [hS.osb]; simp)
      by_cases h2 : t.state = 2
      · rw [h2] at hst
        have hany' : ∀ x ∈ xs, spentA s x = false := fun x hx => by
          cases e : spentA s x with
          | false => rfl
          | true => exact absurd (List.any_eq_true.2 ⟨x, hx, e⟩) (by rw [hany]; simp)
        have HC := Lib.hid (And.intro hS.c1 hT.group)
        have HSS := Lib.hid hS
        have HTT := Lib.hid hT
        obtain ⟨zs, hzs⟩ : ∃ zs : List {x : G16 // spentA s x = false}, zs.map (·.1) = xs := ⟨xs.attach.map (fun x => ⟨x.1, hany' x.1 x.2⟩), by rw [List.map_map]; exact List.attach_map_subtype_val xs⟩
        rw [← hzs] at hL
        have HLL := Lib.hid hL
        have HBW := Lib.hid hBw
        clear hS hT hL hzs hany hany' ht hmem hBw hB0
        go_wp2_with fail
        have k0 := c2a (.cells #[.pointer (some ⟨b, 0, none⟩)] 188) hq
        have k1 := c2a (.cells #[.pointer (some ⟨b, 0, none⟩)] 188) HC.out.1
        have k2 := c2a (.cells #[.pointer (some ⟨b, 0, none⟩)] 188) HC.out.2
        have k3 := (cell_new_l wr (.pointer (some ⟨b, 0, none⟩)) 188).1
        have hz0 : (wr.alloc (.cells #[.pointer (some ⟨b, 0, none⟩)] 188)).heap.size = wr.heap.size + 1 := by simp
        have hBr : Below wr.heap.size wr (wr.alloc (.cells #[.pointer (some ⟨b, 0, none⟩)] 188)) := (Below.refl _ _).alloc (Nat.le_refl _) _
        generalize wr.alloc (.cells #[.pointer (some ⟨b, 0, none⟩)] 188) = W0 at k0 k1 k2 k3 hz0 hBr ⊢
        go_region_held3 (fun W2 => W2.cell? ⟨w.heap.size, 0, none⟩ = some (.pointer (some ⟨sb, 0, none⟩)) ∧ W2.cell? ⟨sb, 1, none⟩ = some (.pointer (some ⟨gb, 0, none⟩)) ∧ W2.cell? ⟨b, 2, none⟩ = some (.int .i64 t.group) ∧ W2.cell? ⟨wr.heap.size, 0, none⟩ = some (.pointer (some ⟨b, 0, none⟩))) (first | exact ⟨k0, k1, k2, k3⟩ | exact ⟨c2a _ (c2a _ k0), c2a _ (c2a _ k1), c2a _ (c2a _ k2), c2a _ (c2a _ k3)⟩) (first | (go_at_call 112; refine (path_any gb t.group _).mono ?_; rintro e w9 ⟨rfl, rfl⟩) | fail)
        have kg := c2a (.cells #[.int .i64 t.group] 3) (cell_new_l W0 (.pointer (some ⟨gb, 0, none⟩)) 113).1
        have ki := (cell_new_l (W0.alloc (.cells #[.pointer (some ⟨gb, 0, none⟩)] 113)) (.int .i64 t.group) 3).1
        rw [World.size_alloc] at ki
        rw [hz0] at kg ki
        have kb := c2a (.cells #[.int .i64 t.group] 3) (c2a (.cells #[.pointer (some ⟨gb, 0, none⟩)] 113) k0)
        have hB2 : Below wr.heap.size wr ((W0.alloc (.cells #[.pointer (some ⟨gb, 0, none⟩)] 113)).alloc (.cells #[.int .i64 t.group] 3)).drew := ((hBr.alloc (by omega) _).alloc (by simp; omega) _).drew
        have hz2 : ((W0.alloc (.cells #[.pointer (some ⟨gb, 0, none⟩)] 113)).alloc (.cells #[.int .i64 t.group] 3)).drew.heap.size = wr.heap.size + 1 + 1 + 1 := by show ((W0.alloc _).alloc _).heap.size = _; simp; omega
        change World.cell? ((W0.alloc (.cells #[.pointer (some ⟨gb, 0, none⟩)] 113)).alloc (.cells #[.int .i64 t.group] 3)).drew _ = _ at kg ki kb
        generalize ((W0.alloc (.cells #[.pointer (some ⟨gb, 0, none⟩)] 113)).alloc (.cells #[.int .i64 t.group] 3)).drew = W2 at kg ki kb hB2 hz2 ⊢
        clear k0 k1 k2 k3
        go_wp2_with fail
        have h1 : 1 ≤ 5 := by omega
        refine (wpIn_wide (n := 5)).1 (wpIn_rangeFunc_ownF rfl h1 (gf := 155) (lb := #[.pointer (some ⟨wr.heap.size + 1 + 1, 0, none⟩), .pointer (some ⟨wr.heap.size + 1, 0, none⟩)]) rfl trivial (enters_of Tryz.func155 (by kernel_rfl) rfl)
          (pathP_stops (fun x => spentA s x = false) (5 - 1) (by omega) (wr.heap.size + 1 + 1) (wr.heap.size + 1) gb s.gs t.group zs W2 (by omega) (by omega) (by omega) ki kg (HSS.out.groups.same (hB2.block gb hgl)) HLL.out) KpG.t (KpG.b (by omega) (by omega)) (Below.refl _ _) (fun _ => rfl)
          (fun pre W => Below W2.heap.size W2 W) (fun _ _ _ => False)
          (ownFrom_below (Nat.le_refl _) (Nat.le_refl _)) (fun _ _ _ _ _ hs _ _ => hs) (Below.refl _ _)
          (fun x => { tmps := #[Value.pointer (some ⟨sb, 0, none⟩), .pointer (some ⟨w.heap.size, 0, none⟩), undef, .pointer (some ⟨wr.heap.size, 0, none⟩), .int .i64 x.1.1, .pointer (some ⟨sb, 0, none⟩), .slice (some ⟨g, 0, none⟩) m c, .int .i64 m, .int .i64 k, .bool true, .pointer (some ⟨g, k, none⟩), .pointer (some ⟨b, 0, none⟩), .pointer (some ⟨b, 0, none⟩), .pointer (some ⟨b, 0, none⟩), .pointer (some ⟨b, 4, none⟩), .int .i64 2, .bool false, .pointer (some ⟨sb, 0, none⟩), .pointer (some ⟨sb, 0, none⟩), .pointer (some ⟨sb, 1, none⟩), .pointer (some ⟨gb, 0, none⟩), .pointer (some ⟨b, 0, none⟩), .pointer (some ⟨b, 0, none⟩), .pointer (some ⟨b, 2, none⟩), .int .i64 t.group, .func (.func 155) #[] #[.pointer (some ⟨wr.heap.size + 1 + 1, 0, none⟩), .pointer (some ⟨wr.heap.size + 1, 0, none⟩)], .int .i64 x.1.1, u27, u28, u29, u30, u31, u32, u33, u34, u35, u36, u37, u38, u39], defers := [] }) ?assign ?body ?done ?stop)
        case assign =>
          intro l x W K hK
          gi_wp2
          simpa using hK
        case body =>
          rintro l pre ⟨⟨x, hx0, hx1⟩, hx2⟩ W hBB hpl
          have e1 : 1 ≤ 5 - 1 - 1 := by omega
          obtain ⟨j, rfl⟩ := Int.eq_ofNat_of_zero_le hx0
          have hBW2 : Below wr.heap.size wr W := hB2.trans (hBB.mono hB2.size)
          obtain ⟨a0, a1, a2, a3⟩ := (HSS.out.below hBW2).acc j (by omega)
          have hs : spentB (s.acc.getD j default).1 (s.acc.getD j default).2.1 (s.acc.getD j default).2.2.1 (s.acc.getD j default).2.2.2 = false := by
            have := hx2
            unfold spentA at this
            simpa using this
          generalize (s.acc.getD j default).1 = q0 at a0 hs
          generalize (s.acc.getD j default).2.1 = q1 at a1 hs
          generalize (s.acc.getD j default).2.2.1 = q2 at a2 hs
          generalize (s.acc.getD j default).2.2.2 = q3 at a3 hs
          have hsp := aspent_any q0 q1 q2 q3
          rw [hs] at hsp
          have hwb : W.cell? ⟨w.heap.size, 0, none⟩ = some (.pointer (some ⟨sb, 0, none⟩)) := (hBW2.cell (p := ⟨w.heap.size, 0, none⟩) hwz).trans hq
          clear hs kg ki
          gi_wp2_with (refine ⟨trivial, ?_⟩; gi_at_call 156; refine (CallsIn.inRound l (callsIn_wide.2 (hsp _))).mono ?_; rintro e w' ⟨rfl, hb⟩)
          have hz3 := hBB.size
          exact ⟨keeps_below hb, kpg_below hb (by have := hBW2.size; omega) (by omega), hBB.trans (hb.mono hBB.size)⟩
        case done =>
          rintro D' ys W hD rfl hB3 hK
          go_wp2_with fail
          have hB4 : Below wr.heap.size wr W := hB2.trans (hB3.mono hB2.size)
          refine ⟨⟨k + 1, (k : Int) + 1, _, _, _, _, _, _, _, _, _, _, _, _, _, _, _, _, _, _, _, _, _, _, _, _, _, _, _, _, _, _, _, _, _, _, ⟨by omega, by omega, Lib.hid (HBR.out.trans (hB4.mono HBR.out.size)), Lib.hid (HMK.out.cons hB4 (by omega) (by have := hB2.size; omega) hK)⟩, rfl⟩, ?_⟩
          simp [intOf]; omega
        case stop =>
          rintro D' c' pre W _ _ h _
          exact h.elim
      · go_wp2_with fail
        have hb3 : Below wr.heap.size wr (wr.alloc (.cells #[.pointer (some ⟨b, 0, none⟩)] 188)) := (Below.refl _ _).alloc (Nat.le_refl _) _
        refine ⟨⟨k + 1, (k : Int) + 1, ds, _, _, _, _, _, _, _, _, _, _, _, _, _, _, _, _, _, _, _, _, _, _, _, _, _, _, _, _, _, _, _, _, _, ⟨by omega, by omega, Lib.hid (HBR.out.trans (hb3.mono HBR.out.size)), Lib.hid (HMK.out.below hb3)⟩, rfl⟩, ?_⟩
        simp [intOf]; omega
    · obtain rfl : k = m := by omega
      go_wp2_with fail
      refine leaves_marks ds wr HMK.out hBw.size (fun W' hW' => ?_)
      exact ⟨_, results_none rfl _ _ _, rfl, hBw.trans hW'⟩

end Go.Proofs.YtoiajjobecinpaaGreat

namespace Go.Proofs.YtoiajjobecinpaaGreat
open Go.RowKit Go.Shelf Go.Lib Go.Proofs
set_option linter.unusedVariables false
set_option linter.unusedSimpArgs false
attribute [local go_sem] Oper.semAt_some

/-- The line of a form. -/
def seedL (base cur : Int) (its : List It) : Ln := ⟨base, cur, its.map (ptI base)⟩

/-- A policy's own queue of a form, or none. -/
def SeedQP (base cur : Int) (its : List It) (w : World) (e : Ending) (W' : World) : Prop :=
  Below w.heap.size w W' ∧ (e = .returned (.tuple #[.pointer none, .int .i64 1]) ∨
    ∃ b v, e = .returned (.tuple #[.pointer (some ⟨b, 0, none⟩), .int .i64 0]) ∧ GoodI cur its ∧ (-1152921504606846976 ≤ base ∧ base ≤ 1152921504606846976) ∧ LineAt W' b v (seedL base cur its) ∧ ∀ k, lfp b v k → w.heap.size ≤ k)

set_option maxRecDepth 100000 in
set_option maxHeartbeats 1000000 in
theorem seed_stride (base cur : Int) (v : Value) (its : List It) (W : World) (h : FSl W v its) (hl : its.length ≤ 100000) :
    Calls Tryz.prog 219 #[.agg #[.int .i64 cur, v], .int .i64 base] W (SeedQP base cur its W) := by
  have hs := seedline_any base cur v its _ (h.alloc (.cells #[.int .i64 cur, v] 70)) hl
  obtain ⟨a, c, rfl⟩ := h.form
  obtain ⟨n, hn⟩ : ∃ n, its.length = n := ⟨_, rfl⟩
  have HN := Lib.hid hn
  rw [hn] at hs ⊢
  have HW0 : Hid (Below W.heap.size W (W.alloc (.cells #[.int .i64 cur, .slice a n c] 70))) := Lib.hid ((Below.refl _ W).alloc (Nat.le_refl _) _)
  clear h hn hl
  go_enter Tryz.func219, Tryz.ntmps219
  go_wp2_with fail
  refine hs.mono ?_
  rintro e w1 ⟨hb1, rfl | ⟨v', rfl, hg, hbd, hrow⟩⟩
  · have HB1 := Lib.hid hb1
    clear hb1
    go_wp2_with fail
    refine (of_err_stride undef 1 (by decide) _).mono ?_
    rintro e w2 ⟨rfl, hb2⟩
    have HB2 := Lib.hid hb2
    clear hb2
    go_wp2_with fail
    go_ret2
    exact ⟨HW0.out.trans ((HB1.out.trans (HB2.out.mono HB1.out.size)).mono (by simp)), .inl rfl⟩
  · have HB1 := Lib.hid hb1
    have HG := Lib.hid hg
    have HBD := Lib.hid hbd
    have HROW := Lib.hid hrow
    have hof := of_ok_stride base cur v' (its.map (ptI base)) w1 (by rw [List.length_map]; exact ownsRow_base hrow (Nat.zero_le _))
    clear hb1 hg hbd hrow
    go_wp2_with fail
    refine hof.mono ?_
    rintro e w2 ⟨b, rfl, hL, hb2, hlt⟩
    have HL := Lib.hid hL
    have HB2 := Lib.hid hb2
    clear hL hb2 hof
    go_wp2_with fail
    go_ret2
    have hz0 := HW0.out.size
    have hz1 := HB1.out.size
    have hw : W.heap.size ≤ w1.heap.size := Nat.le_trans hz0 hz1
    exact ⟨HW0.out.trans ((HB1.out.trans (HB2.out.mono HB1.out.size)).mono (by simp)), .inr ⟨b, v', rfl, HG.out, HBD.out, HL.out, fun k hk => by
      rcases hk with rfl | hk
      · omega
      · have := (HROW.out.lt k hk).1; simp at this; omega⟩⟩
set_option maxRecDepth 100000 in
set_option maxHeartbeats 1000000 in
theorem seed_fair (base cur : Int) (v : Value) (its : List It) (W : World) (h : FSl W v its) (hl : its.length ≤ 100000) :
    Calls Tryz.prog 220 #[.agg #[.int .i64 cur, v], .int .i64 base] W (SeedQP base cur its W) := by
  have hs := seedline_any base cur v its _ (h.alloc (.cells #[.int .i64 cur, v] 70)) hl
  obtain ⟨a, c, rfl⟩ := h.form
  obtain ⟨n, hn⟩ : ∃ n, its.length = n := ⟨_, rfl⟩
  have HN := Lib.hid hn
  rw [hn] at hs ⊢
  have HW0 : Hid (Below W.heap.size W (W.alloc (.cells #[.int .i64 cur, .slice a n c] 70))) := Lib.hid ((Below.refl _ W).alloc (Nat.le_refl _) _)
  clear h hn hl
  go_enter Tryz.func220, Tryz.ntmps220
  go_wp2_with fail
  refine hs.mono ?_
  rintro e w1 ⟨hb1, rfl | ⟨v', rfl, hg, hbd, hrow⟩⟩
  · have HB1 := Lib.hid hb1
    clear hb1
    go_wp2_with fail
    refine (of_err_fair undef 1 (by decide) _).mono ?_
    rintro e w2 ⟨rfl, hb2⟩
    have HB2 := Lib.hid hb2
    clear hb2
    go_wp2_with fail
    go_ret2
    exact ⟨HW0.out.trans ((HB1.out.trans (HB2.out.mono HB1.out.size)).mono (by simp)), .inl rfl⟩
  · have HB1 := Lib.hid hb1
    have HG := Lib.hid hg
    have HBD := Lib.hid hbd
    have HROW := Lib.hid hrow
    have hof := of_ok_fair base cur v' (its.map (ptI base)) w1 (by rw [List.length_map]; exact ownsRow_base hrow (Nat.zero_le _))
    clear hb1 hg hbd hrow
    go_wp2_with fail
    refine hof.mono ?_
    rintro e w2 ⟨b, rfl, hL, hb2, hlt⟩
    have HL := Lib.hid hL
    have HB2 := Lib.hid hb2
    clear hL hb2 hof
    go_wp2_with fail
    go_ret2
    have hz0 := HW0.out.size
    have hz1 := HB1.out.size
    have hw : W.heap.size ≤ w1.heap.size := Nat.le_trans hz0 hz1
    exact ⟨HW0.out.trans ((HB1.out.trans (HB2.out.mono HB1.out.size)).mono (by simp)), .inr ⟨b, v', rfl, HG.out, HBD.out, HL.out, fun k hk => by
      rcases hk with rfl | hk
      · omega
      · have := (HROW.out.lt k hk).1; simp at this; omega⟩⟩
set_option maxRecDepth 100000 in
set_option maxHeartbeats 1000000 in
theorem seed_due (base cur : Int) (v : Value) (its : List It) (W : World) (h : FSl W v its) (hl : its.length ≤ 100000) :
    Calls Tryz.prog 221 #[.agg #[.int .i64 cur, v], .int .i64 base] W (SeedQP base cur its W) := by
  have hs := seedline_any base cur v its _ (h.alloc (.cells #[.int .i64 cur, v] 70)) hl
  obtain ⟨a, c, rfl⟩ := h.form
  obtain ⟨n, hn⟩ : ∃ n, its.length = n := ⟨_, rfl⟩
  have HN := Lib.hid hn
  rw [hn] at hs ⊢
  have HW0 : Hid (Below W.heap.size W (W.alloc (.cells #[.int .i64 cur, .slice a n c] 70))) := Lib.hid ((Below.refl _ W).alloc (Nat.le_refl _) _)
  clear h hn hl
  go_enter Tryz.func221, Tryz.ntmps221
  go_wp2_with fail
  refine hs.mono ?_
  rintro e w1 ⟨hb1, rfl | ⟨v', rfl, hg, hbd, hrow⟩⟩
  · have HB1 := Lib.hid hb1
    clear hb1
    go_wp2_with fail
    refine (of_err_due undef 1 (by decide) _).mono ?_
    rintro e w2 ⟨rfl, hb2⟩
    have HB2 := Lib.hid hb2
    clear hb2
    go_wp2_with fail
    go_ret2
    exact ⟨HW0.out.trans ((HB1.out.trans (HB2.out.mono HB1.out.size)).mono (by simp)), .inl rfl⟩
  · have HB1 := Lib.hid hb1
    have HG := Lib.hid hg
    have HBD := Lib.hid hbd
    have HROW := Lib.hid hrow
    have hof := of_ok_due base cur v' (its.map (ptI base)) w1 (by rw [List.length_map]; exact ownsRow_base hrow (Nat.zero_le _))
    clear hb1 hg hbd hrow
    go_wp2_with fail
    refine hof.mono ?_
    rintro e w2 ⟨b, rfl, hL, hb2, hlt⟩
    have HL := Lib.hid hL
    have HB2 := Lib.hid hb2
    clear hL hb2 hof
    go_wp2_with fail
    go_ret2
    have hz0 := HW0.out.size
    have hz1 := HB1.out.size
    have hw : W.heap.size ≤ w1.heap.size := Nat.le_trans hz0 hz1
    exact ⟨HW0.out.trans ((HB1.out.trans (HB2.out.mono HB1.out.size)).mono (by simp)), .inr ⟨b, v', rfl, HG.out, HBD.out, HL.out, fun k hk => by
      rcases hk with rfl | hk
      · omega
      · have := (HROW.out.lt k hk).1; simp at this; omega⟩⟩
theorem pof_errB (tag : Int) (x : Value) (r : Int) (hr : r ≠ 0) (W : World) :
    Calls Tryz.prog 144 #[.int .i64 tag, x, .int .i64 r] W fun e w' => e = .returned (.tuple #[.pointer none, .int .i64 r]) ∧ Below W.heap.size W w' := by
  have h1 : (r != 0) = true := by simp [hr]
  have h2 : (r == 0) = false := by simp [hr]
  go_enter Tryz.func144, Tryz.ntmps144
  go_wp2
  go_ret2
  exact ⟨rfl, Below.refl _ _⟩

/-- A queue of a form, or none. -/
def SeedPP (tag base cur : Int) (its : List It) (w : World) (e : Ending) (W' : World) : Prop :=
  Below w.heap.size w W' ∧ (e = .returned (.tuple #[.pointer none, .int .i64 1]) ∨
    ∃ qb F, e = .returned (.tuple #[.pointer (some ⟨qb, 0, none⟩), .int .i64 0]) ∧ GoodI cur its ∧ (-1152921504606846976 ≤ base ∧ base ≤ 1152921504606846976) ∧ QIn W' qb F tag (seedL base cur its) ∧ ∀ k, F k → w.heap.size ≤ k)

set_option maxRecDepth 100000 in
set_option maxHeartbeats 1000000 in
theorem pseed_stride (base cur : Int) (v : Value) (its : List It) (W : World) (h : FSl W v its) (hl : its.length ≤ 100000) :
    Calls Tryz.prog 206 #[.int .i64 0, .agg #[.int .i64 cur, v], .int .i64 base] W (SeedPP 0 base cur its W) := by
  have hs := seed_stride base cur v its _ (h.alloc (.cells #[.int .i64 cur, v] 70)) hl
  obtain ⟨a, c, rfl⟩ := h.form
  obtain ⟨n, hn⟩ : ∃ n, its.length = n := ⟨_, rfl⟩
  rw [hn] at hs ⊢
  have HW0 : Hid (Below W.heap.size W (W.alloc (.cells #[.int .i64 cur, .slice a n c] 70))) := Lib.hid ((Below.refl _ W).alloc (Nat.le_refl _) _)
  clear h hn hl
  go_enter Tryz.func206, Tryz.ntmps206
  go_wp2_with fail
  refine hs.mono ?_
  rintro e w1 ⟨hb1, rfl | ⟨b, v', rfl, hg, hbd, hL, hge⟩⟩
  · have HB1 := Lib.hid hb1
    clear hb1
    go_wp2_with fail
    refine (pof_errB _ _ 1 (by decide) _).mono ?_
    rintro e w2 ⟨rfl, hb2⟩
    have HB2 := Lib.hid hb2
    clear hb2
    go_wp2_with fail
    go_ret2
    exact ⟨HW0.out.trans ((HB1.out.trans (HB2.out.mono HB1.out.size)).mono (by simp)), .inl rfl⟩
  · have HB1 := Lib.hid hb1
    have HG := Lib.hid hg
    have HBD := Lib.hid hbd
    have hof := pof_ok 0 (by omega) b v' _ W.heap.size w1 hL (fun k hk => by have := hge k hk; simp at this; omega) (by have := HW0.out.size; have := hb1.size; omega)
    clear hb1 hg hbd hL hge
    go_wp2_with fail
    refine hof.mono ?_
    rintro e w2 ⟨qb, F, rfl, hQ, hb2, hF⟩
    have HQ := Lib.hid hQ
    have HF := Lib.hid hF
    have HB2 := Lib.hid hb2
    clear hQ hF hb2 hof
    go_wp2_with fail
    go_ret2
    exact ⟨HW0.out.trans ((HB1.out.trans (HB2.out.mono HB1.out.size)).mono (by simp)), .inr ⟨qb, F, rfl, HG.out, HBD.out, HQ.out, HF.out⟩⟩

set_option maxRecDepth 100000 in
set_option maxHeartbeats 1000000 in
theorem pseed_fair (base cur : Int) (v : Value) (its : List It) (W : World) (h : FSl W v its) (hl : its.length ≤ 100000) :
    Calls Tryz.prog 206 #[.int .i64 1, .agg #[.int .i64 cur, v], .int .i64 base] W (SeedPP 1 base cur its W) := by
  have hs := seed_fair base cur v its _ (h.alloc (.cells #[.int .i64 cur, v] 70)) hl
  obtain ⟨a, c, rfl⟩ := h.form
  obtain ⟨n, hn⟩ : ∃ n, its.length = n := ⟨_, rfl⟩
  rw [hn] at hs ⊢
  have HW0 : Hid (Below W.heap.size W (W.alloc (.cells #[.int .i64 cur, .slice a n c] 70))) := Lib.hid ((Below.refl _ W).alloc (Nat.le_refl _) _)
  clear h hn hl
  go_enter Tryz.func206, Tryz.ntmps206
  go_wp2_with fail
  refine hs.mono ?_
  rintro e w1 ⟨hb1, rfl | ⟨b, v', rfl, hg, hbd, hL, hge⟩⟩
  · have HB1 := Lib.hid hb1
    clear hb1
    go_wp2_with fail
    refine (pof_errB _ _ 1 (by decide) _).mono ?_
    rintro e w2 ⟨rfl, hb2⟩
    have HB2 := Lib.hid hb2
    clear hb2
    go_wp2_with fail
    go_ret2
    exact ⟨HW0.out.trans ((HB1.out.trans (HB2.out.mono HB1.out.size)).mono (by simp)), .inl rfl⟩
  · have HB1 := Lib.hid hb1
    have HG := Lib.hid hg
    have HBD := Lib.hid hbd
    have hof := pof_ok 1 (by omega) b v' _ W.heap.size w1 hL (fun k hk => by have := hge k hk; simp at this; omega) (by have := HW0.out.size; have := hb1.size; omega)
    clear hb1 hg hbd hL hge
    go_wp2_with fail
    refine hof.mono ?_
    rintro e w2 ⟨qb, F, rfl, hQ, hb2, hF⟩
    have HQ := Lib.hid hQ
    have HF := Lib.hid hF
    have HB2 := Lib.hid hb2
    clear hQ hF hb2 hof
    go_wp2_with fail
    go_ret2
    exact ⟨HW0.out.trans ((HB1.out.trans (HB2.out.mono HB1.out.size)).mono (by simp)), .inr ⟨qb, F, rfl, HG.out, HBD.out, HQ.out, HF.out⟩⟩

set_option maxRecDepth 100000 in
set_option maxHeartbeats 1000000 in
theorem pseed_due (base cur : Int) (v : Value) (its : List It) (W : World) (h : FSl W v its) (hl : its.length ≤ 100000) :
    Calls Tryz.prog 206 #[.int .i64 2, .agg #[.int .i64 cur, v], .int .i64 base] W (SeedPP 2 base cur its W) := by
  have hs := seed_due base cur v its _ (h.alloc (.cells #[.int .i64 cur, v] 70)) hl
  obtain ⟨a, c, rfl⟩ := h.form
  obtain ⟨n, hn⟩ : ∃ n, its.length = n := ⟨_, rfl⟩
  rw [hn] at hs ⊢
  have HW0 : Hid (Below W.heap.size W (W.alloc (.cells #[.int .i64 cur, .slice a n c] 70))) := Lib.hid ((Below.refl _ W).alloc (Nat.le_refl _) _)
  clear h hn hl
  go_enter Tryz.func206, Tryz.ntmps206
  go_wp2_with fail
  refine hs.mono ?_
  rintro e w1 ⟨hb1, rfl | ⟨b, v', rfl, hg, hbd, hL, hge⟩⟩
  · have HB1 := Lib.hid hb1
    clear hb1
    go_wp2_with fail
    refine (pof_errB _ _ 1 (by decide) _).mono ?_
    rintro e w2 ⟨rfl, hb2⟩
    have HB2 := Lib.hid hb2
    clear hb2
    go_wp2_with fail
    go_ret2
    exact ⟨HW0.out.trans ((HB1.out.trans (HB2.out.mono HB1.out.size)).mono (by simp)), .inl rfl⟩
  · have HB1 := Lib.hid hb1
    have HG := Lib.hid hg
    have HBD := Lib.hid hbd
    have hof := pof_ok 2 (by omega) b v' _ W.heap.size w1 hL (fun k hk => by have := hge k hk; simp at this; omega) (by have := HW0.out.size; have := hb1.size; omega)
    clear hb1 hg hbd hL hge
    go_wp2_with fail
    refine hof.mono ?_
    rintro e w2 ⟨qb, F, rfl, hQ, hb2, hF⟩
    have HQ := Lib.hid hQ
    have HF := Lib.hid hF
    have HB2 := Lib.hid hb2
    clear hQ hF hb2 hof
    go_wp2_with fail
    go_ret2
    exact ⟨HW0.out.trans ((HB1.out.trans (HB2.out.mono HB1.out.size)).mono (by simp)), .inr ⟨qb, F, rfl, HG.out, HBD.out, HQ.out, HF.out⟩⟩

theorem pseed_any (tag base cur : Int) (v : Value) (its : List It) (W : World) (ht : tag = 0 ∨ tag = 1 ∨ tag = 2) (h : FSl W v its) (hl : its.length ≤ 100000) :
    Calls Tryz.prog 206 #[.int .i64 tag, .agg #[.int .i64 cur, v], .int .i64 base] W (SeedPP tag base cur its W) := by
  rcases ht with rfl | rfl | rfl
  · exact pseed_stride base cur v its W h hl
  · exact pseed_fair base cur v its W h hl
  · exact pseed_due base cur v its W h hl

theorem pgood_any (tag : Int) (W : World) : Calls Tryz.prog 204 #[.int .i64 tag] W fun e w' => e = .returned (.bool (decide (0 ≤ tag ∧ tag ≤ 2))) ∧ W = w' := by
  rw [Bool.decide_and]
  by_cases h0 : 0 ≤ tag
  · by_cases h2 : tag ≤ 2
    · have d0 : decide (tag ≥ 0) = true := decide_eq_true h0
      have d2 : decide (tag ≤ 2) = true := decide_eq_true h2
      have d1 : decide (0 ≤ tag) = true := decide_eq_true h0
      rw [d1, d2]
      clear h0 h2
      go_enter Tryz.func204, Tryz.ntmps204
      go_wp2
      go_ret
      exact ⟨rfl, rfl⟩
    · have d0 : decide (tag ≥ 0) = true := decide_eq_true h0
      have d2 : decide (tag ≤ 2) = false := decide_eq_false h2
      have d1 : decide (0 ≤ tag) = true := decide_eq_true h0
      rw [d1, d2]
      clear h0 h2
      go_enter Tryz.func204, Tryz.ntmps204
      go_wp2
      go_ret
      exact ⟨rfl, rfl⟩
  · have d0 : decide (tag ≥ 0) = false := decide_eq_false h0
    have d1 : decide (0 ≤ tag) = false := decide_eq_false h0
    rw [d1, Bool.false_and]
    clear h0
    go_enter Tryz.func204, Tryz.ntmps204
    go_wp2
    go_ret
    exact ⟨rfl, rfl⟩

end Go.Proofs.YtoiajjobecinpaaGreat

namespace Go.Proofs.YtoiajjobecinpaaGreat
open Go.RowKit Go.Shelf Go.Lib Go.Proofs
set_option linter.unusedVariables false
set_option linter.unusedSimpArgs false

theorem meth_Enter_stride (p : Value) (W : World) : Sem.run Tryz.prog (method 484 235 p "Enter") W = Result.ok (261, p) W := by kernel_rfl
theorem meth_Enter_fair (p : Value) (W : World) : Sem.run Tryz.prog (method 484 239 p "Enter") W = Result.ok (302, p) W := by kernel_rfl
theorem meth_Enter_due (p : Value) (W : World) : Sem.run Tryz.prog (method 484 242 p "Enter") W = Result.ok (312, p) W := by kernel_rfl
theorem meth_Put_stride (p : Value) (W : World) : Sem.run Tryz.prog (method 484 235 p "Put") W = Result.ok (265, p) W := by kernel_rfl
theorem meth_Put_fair (p : Value) (W : World) : Sem.run Tryz.prog (method 484 239 p "Put") W = Result.ok (306, p) W := by kernel_rfl
theorem meth_Put_due (p : Value) (W : World) : Sem.run Tryz.prog (method 484 242 p "Put") W = Result.ok (316, p) W := by kernel_rfl
theorem meth_Charge_stride (p : Value) (W : World) : Sem.run Tryz.prog (method 484 235 p "Charge") W = Result.ok (260, p) W := by kernel_rfl
theorem meth_Charge_fair (p : Value) (W : World) : Sem.run Tryz.prog (method 484 239 p "Charge") W = Result.ok (301, p) W := by kernel_rfl
theorem meth_Charge_due (p : Value) (W : World) : Sem.run Tryz.prog (method 484 242 p "Charge") W = Result.ok (311, p) W := by kernel_rfl
theorem meth_Form_stride (p : Value) (W : World) : Sem.run Tryz.prog (method 484 235 p "Form") W = Result.ok (262, p) W := by kernel_rfl
theorem meth_Form_fair (p : Value) (W : World) : Sem.run Tryz.prog (method 484 239 p "Form") W = Result.ok (303, p) W := by kernel_rfl
theorem meth_Form_due (p : Value) (W : World) : Sem.run Tryz.prog (method 484 242 p "Form") W = Result.ok (313, p) W := by kernel_rfl
theorem meth_Pick_stride (p : Value) (W : World) : Sem.run Tryz.prog (method 484 235 p "Pick") W = Result.ok (264, p) W := by kernel_rfl
theorem meth_Pick_fair (p : Value) (W : World) : Sem.run Tryz.prog (method 484 239 p "Pick") W = Result.ok (305, p) W := by kernel_rfl
theorem meth_Pick_due (p : Value) (W : World) : Sem.run Tryz.prog (method 484 242 p "Pick") W = Result.ok (315, p) W := by kernel_rfl
theorem meth_Leave_stride (p : Value) (W : World) : Sem.run Tryz.prog (method 484 235 p "Leave") W = Result.ok (263, p) W := by kernel_rfl
theorem meth_Leave_fair (p : Value) (W : World) : Sem.run Tryz.prog (method 484 239 p "Leave") W = Result.ok (304, p) W := by kernel_rfl
theorem meth_Leave_due (p : Value) (W : World) : Sem.run Tryz.prog (method 484 242 p "Leave") W = Result.ok (314, p) W := by kernel_rfl
theorem meth_Weigh_stride (p : Value) (W : World) : Sem.run Tryz.prog (method 484 235 p "Weigh") W = Result.ok (266, p) W := by kernel_rfl
theorem meth_Weigh_fair (p : Value) (W : World) : Sem.run Tryz.prog (method 484 239 p "Weigh") W = Result.ok (307, p) W := by kernel_rfl
theorem meth_Weigh_due (p : Value) (W : World) : Sem.run Tryz.prog (method 484 242 p "Weigh") W = Result.ok (317, p) W := by kernel_rfl

end Go.Proofs.YtoiajjobecinpaaGreat

namespace Go.Proofs.YtoiajjobecinpaaGreat
open Go.RowKit Go.Shelf Go.Lib Go.Proofs
set_option linter.unusedVariables false
set_option linter.unusedSimpArgs false

theorem QIn.line {W : World} {qb : Nat} {G : Nat → Prop} {tag : Int} {l : Ln} (h : QIn W qb G tag l) : ∃ lb v, W.cell? ⟨qb, 0, none⟩ = some (.iface (qty tag) (.pointer (some ⟨lb, 0, none⟩))) ∧ LineAt W lb v l ∧ (tag = 0 ∨ tag = 1 ∨ tag = 2) ∧
    ∀ (w1 : World) (v' : Value) (l' : Ln), LineAt w1 lb v' l' → Touch (lfp lb v) W w1 → (∀ k, v'.ownBlock = some k → v.ownBlock = some k ∨ W.heap.size ≤ k) →
      ∃ G', QIn w1 qb G' tag l' ∧ Touch G W w1 ∧ ∀ k, G' k → G k ∨ W.heap.size ≤ k := by
  obtain ⟨lb, v, h1, h2, h3, h4, h5, h6, h7, h8⟩ := h
  refine ⟨lb, v, h1, h4, h7, fun w1 v' l' hl ht hv => ?_⟩
  have hqb : w1.heap[qb]? = W.heap[qb]? := ht.block qb (h8 qb h5) (fun hk => (h6 qb hk).2 rfl)
  have h0 : ∀ i, w1.cell? ⟨qb, i, none⟩ = W.cell? ⟨qb, i, none⟩ := fun i => World.cell?_of_block hqb
  have h0' : ∀ i, w1.frozen? ⟨qb, i, none⟩ = W.frozen? ⟨qb, i, none⟩ := fun i => World.frozen?_of_block hqb
  refine ⟨fun k => G k ∨ v'.ownBlock = some k, ⟨lb, v', (h0 0).trans h1, (h0 1).trans h2, fun i => (h0' i).trans (h3 i), hl, .inl h5, fun k hk => ?_, h7, fun k hk => ?_⟩, ht.wider (fun k hk => (h6 k hk).1), fun k hk => ?_⟩
  · rcases hk with rfl | hk
    · exact ⟨.inl (h6 k (.inl rfl)).1, (h6 k (.inl rfl)).2⟩
    · refine ⟨.inr hk, ?_⟩
      rcases hv k hk with h | h
      · exact (h6 k (.inr h)).2
      · have := h8 qb h5; omega
  · rcases hk with hk | hk
    · exact Nat.lt_of_lt_of_le (h8 k hk) ht.size
    · exact hl.lt k (.inr hk)
  · rcases hk with hk | hk
    · exact .inl hk
    · rcases hv k hk with h | h
      · exact .inl (h6 k (.inr h)).1
      · exact .inr h

/-- What a core answers one that comes, and the core behind it. -/
def coreEnter (c : Co) (id w lag : Int) (exact : Bool) : Int × Co :=
  (mayE c.l id w lag, if mayE c.l id w lag = 0 then ⟨c.tag, putL c.l id w (if exact = true then lag else heldT c.tag lag), wrap64 (c.age + 1), c.srv⟩ else c)

def CEnterP (cb : Nat) (F : Nat → Prop) (r : Int × Co) (W : World) (e : Ending) (w' : World) : Prop :=
  e = .returned (.int .i64 r.1) ∧ (∃ F', CoreIn w' cb F' r.2 ∧ Touch F W w' ∧ ∀ k, F' k → F k ∨ W.heap.size ≤ k)

def EntB (cb : Nat) (F : Nat → Prop) (c : Co) (id w lag' r : Int) (W : World) (e : Ending) (w1 : World) : Prop :=
  e = .returned (.int .i64 r) ∧ ∃ F', CoreIn w1 cb F' (if r = 0 then ⟨c.tag, putL c.l id w lag', c.age, c.srv⟩ else c) ∧ Touch F W w1 ∧ ∀ k, F' k → F k ∨ W.heap.size ≤ k

/-- What a queue of a core comes to behind a Put. -/
theorem enter_back {W w1 : World} {cb : Nat} {F : Nat → Prop} {c : Co} {id w lag' r : Int} {e : Ending} {lb : Nat} {v : Value} {qb : Nat} {G : Nat → Prop}
    (hL : LineAt W lb v c.l) (hC : CoreIn W cb F c) (hGF : ∀ k, G k → F k)
    (hq : ∀ (w1 : World) (v' : Value) (l' : Ln), LineAt w1 lb v' l' → Touch (lfp lb v) W w1 → (∀ k, v'.ownBlock = some k → v.ownBlock = some k ∨ W.heap.size ≤ k) → ∃ G', QIn w1 qb G' c.tag l' ∧ Touch G W w1 ∧ ∀ k, G' k → G k ∨ W.heap.size ≤ k)
    (hback : ∀ (W' : World) (G' : Nat → Prop) (tag' : Int) (l' : Ln), QIn W' qb G' tag' l' → Touch G W W' → (∀ k, G' k → G k ∨ W.heap.size ≤ k) → CoreIn W' cb (fun k => F k ∨ G' k) ⟨tag', l', c.age, c.srv⟩)
    (h : PutP lb v c.l id w lag' r W e w1) :
    EntB cb F c id w lag' r W e w1 := by
  unfold EntB
  by_cases hr : r = 0
  · obtain ⟨he, v', k1, k2, k3⟩ := h.2 hr
    obtain ⟨G', q1, q2, q3⟩ := hq w1 v' _ k1 k2 k3
    rw [if_pos hr]
    refine ⟨by rw [he, hr], _, hback w1 G' c.tag _ q1 q2 q3, q2.wider hGF, fun k hk => ?_⟩
    rcases hk with hk | hk
    · exact .inl hk
    · exact (q3 k hk).imp (hGF k) (fun h => h)
  · obtain ⟨he, hb⟩ := h.1 hr
    rw [if_neg hr]
    exact ⟨he, F, hC.below hb, Touch.of_below hb, fun k hk => .inl hk⟩


set_option maxRecDepth 100000 in
set_option maxHeartbeats 200000 in
theorem centerfalse_stride (cb : Nat) (F : Nat → Prop) (c : Co) (id w lag : Int) (W : World) (h : CoreIn W cb F c) (hf : Fits c.l) (ht : c.tag = 0) :
    Calls Tryz.prog 110 #[.pointer (some ⟨cb, 0, none⟩), .int .i64 id, .int .i64 w, .int .i64 lag, .bool false] W (CEnterP cb F (coreEnter c id w lag false) W) := by
  obtain ⟨qb, G, c0, hQ, hGF, hback⟩ := h.q
  obtain ⟨lb, v, q0, hL, -, hq⟩ := hQ.line
  have HQT : Hid (qty c.tag = 235) := Lib.hid (by rw [ht]; unfold qty; simp)
  rw [HQT.out] at q0
  have hmeth := fun W' => meth_Enter_stride (.pointer (some ⟨lb, 0, none⟩)) W'
  have hent := qenter_stride lb v c.l id w lag W hL hf
  have hheld : heldT c.tag lag = heldS lag := by rw [ht]; unfold heldT; simp
  rw [show coreEnter c id w lag false = (mayE c.l id w lag, if mayE c.l id w lag = 0 then ⟨c.tag, putL c.l id w (heldS lag), wrap64 (c.age + 1), c.srv⟩ else c) from by unfold coreEnter; simp only [Bool.false_eq_true, if_false, hheld]]
  have HBK : ∀ (e : Ending) (w1 : World), PutP lb v c.l id w (heldS lag) (mayE c.l id w lag) W e w1 → EntB cb F c id w (heldS lag) (mayE c.l id w lag) W e w1 := fun e w1 hp => enter_back (c := c) (lb := lb) (v := v) (qb := qb) (G := G) hL h hGF hq hback hp
  generalize mayE c.l id w lag = r at hent HBK ⊢
  have HBK2 := Lib.hid HBK
  obtain ⟨res, HRES⟩ : ∃ res, Hid ((r, if r = 0 then (⟨c.tag, putL c.l id w (heldS lag), wrap64 (c.age + 1), c.srv⟩ : Co) else c) = res) := ⟨_, Lib.hid rfl⟩
  rw [HRES.out]
  clear h hf ht hQ hGF hback hq hL hheld HBK
  go_enter Tryz.func110, Tryz.ntmps110
  go_wp2_with fail
  refine hent.mono ?_
  rintro e w1 hp
  obtain ⟨rfl, F1, hC1, hT1, hF1⟩ := HBK2.out e w1 hp
  have hdone := done_any cb F1 _ r w1 hC1
  have HT1 := Lib.hid hT1
  have HF1 := Lib.hid hF1
  clear hp hC1 hT1 hF1
  go_wp2_with fail
  refine hdone.mono ?_
  rintro e w2 ⟨rfl, hC2, hT2⟩
  have HC2 := Lib.hid hC2
  have HT2 := Lib.hid hT2
  clear hC2 hT2
  go_wp2_with fail
  go_ret
  rw [← HRES.out]
  refine ⟨rfl, F1, ?_, HT1.out.trans (fun k hk => HF1.out k hk) HT2.out, HF1.out⟩
  have hC := HC2.out
  by_cases hr : r = 0
  · simp only [if_pos hr] at hC ⊢
    rw [show ageE r c.age = wrap64 (c.age + 1) from by unfold ageE; rw [if_pos hr]] at hC
    exact hC
  · simp only [if_neg hr] at hC ⊢
    rw [show ageE r c.age = c.age from by unfold ageE; rw [if_neg hr]] at hC
    exact hC

set_option maxRecDepth 100000 in
set_option maxHeartbeats 200000 in
theorem centertrue_stride (cb : Nat) (F : Nat → Prop) (c : Co) (id w lag : Int) (W : World) (h : CoreIn W cb F c) (hf : Fits c.l) (ht : c.tag = 0) :
    Calls Tryz.prog 110 #[.pointer (some ⟨cb, 0, none⟩), .int .i64 id, .int .i64 w, .int .i64 lag, .bool true] W (CEnterP cb F (coreEnter c id w lag true) W) := by
  obtain ⟨qb, G, c0, hQ, hGF, hback⟩ := h.q
  obtain ⟨lb, v, q0, hL, -, hq⟩ := hQ.line
  have HQT : Hid (qty c.tag = 235) := Lib.hid (by rw [ht]; unfold qty; simp)
  rw [HQT.out] at q0
  have hmeth := fun W' => meth_Put_stride (.pointer (some ⟨lb, 0, none⟩)) W'
  have hent := qput_stride lb v c.l id w lag W hL hf
  rw [show coreEnter c id w lag true = (mayE c.l id w lag, if mayE c.l id w lag = 0 then ⟨c.tag, putL c.l id w lag, wrap64 (c.age + 1), c.srv⟩ else c) from by unfold coreEnter; simp only [eq_self, if_true]]
  have HBK : ∀ (e : Ending) (w1 : World), PutP lb v c.l id w lag (mayE c.l id w lag) W e w1 → EntB cb F c id w lag (mayE c.l id w lag) W e w1 := fun e w1 hp => enter_back (c := c) (lb := lb) (v := v) (qb := qb) (G := G) hL h hGF hq hback hp
  generalize mayE c.l id w lag = r at hent HBK ⊢
  have HBK2 := Lib.hid HBK
  obtain ⟨res, HRES⟩ : ∃ res, Hid ((r, if r = 0 then (⟨c.tag, putL c.l id w lag, wrap64 (c.age + 1), c.srv⟩ : Co) else c) = res) := ⟨_, Lib.hid rfl⟩
  rw [HRES.out]
  clear h hf ht hQ hGF hback hq hL HBK
  go_enter Tryz.func110, Tryz.ntmps110
  go_wp2_with fail
  refine hent.mono ?_
  rintro e w1 hp
  obtain ⟨rfl, F1, hC1, hT1, hF1⟩ := HBK2.out e w1 hp
  have hdone := done_any cb F1 _ r w1 hC1
  have HT1 := Lib.hid hT1
  have HF1 := Lib.hid hF1
  clear hp hC1 hT1 hF1
  go_wp2_with fail
  refine hdone.mono ?_
  rintro e w2 ⟨rfl, hC2, hT2⟩
  have HC2 := Lib.hid hC2
  have HT2 := Lib.hid hT2
  clear hC2 hT2
  go_wp2_with fail
  go_ret
  rw [← HRES.out]
  refine ⟨rfl, F1, ?_, HT1.out.trans (fun k hk => HF1.out k hk) HT2.out, HF1.out⟩
  have hC := HC2.out
  by_cases hr : r = 0
  · simp only [if_pos hr] at hC ⊢
    rw [show ageE r c.age = wrap64 (c.age + 1) from by unfold ageE; rw [if_pos hr]] at hC
    exact hC
  · simp only [if_neg hr] at hC ⊢
    rw [show ageE r c.age = c.age from by unfold ageE; rw [if_neg hr]] at hC
    exact hC


set_option maxRecDepth 100000 in
set_option maxHeartbeats 200000 in
theorem centerfalse_fair (cb : Nat) (F : Nat → Prop) (c : Co) (id w lag : Int) (W : World) (h : CoreIn W cb F c) (hf : Fits c.l) (ht : c.tag = 1) :
    Calls Tryz.prog 110 #[.pointer (some ⟨cb, 0, none⟩), .int .i64 id, .int .i64 w, .int .i64 lag, .bool false] W (CEnterP cb F (coreEnter c id w lag false) W) := by
  obtain ⟨qb, G, c0, hQ, hGF, hback⟩ := h.q
  obtain ⟨lb, v, q0, hL, -, hq⟩ := hQ.line
  have HQT : Hid (qty c.tag = 239) := Lib.hid (by rw [ht]; unfold qty; simp)
  rw [HQT.out] at q0
  have hmeth := fun W' => meth_Enter_fair (.pointer (some ⟨lb, 0, none⟩)) W'
  have hent := qenter_fair lb v c.l id w lag W hL hf
  have hheld : heldT c.tag lag = heldF lag := by rw [ht]; unfold heldT; simp
  rw [show coreEnter c id w lag false = (mayE c.l id w lag, if mayE c.l id w lag = 0 then ⟨c.tag, putL c.l id w (heldF lag), wrap64 (c.age + 1), c.srv⟩ else c) from by unfold coreEnter; simp only [Bool.false_eq_true, if_false, hheld]]
  have HBK : ∀ (e : Ending) (w1 : World), PutP lb v c.l id w (heldF lag) (mayE c.l id w lag) W e w1 → EntB cb F c id w (heldF lag) (mayE c.l id w lag) W e w1 := fun e w1 hp => enter_back (c := c) (lb := lb) (v := v) (qb := qb) (G := G) hL h hGF hq hback hp
  generalize mayE c.l id w lag = r at hent HBK ⊢
  have HBK2 := Lib.hid HBK
  obtain ⟨res, HRES⟩ : ∃ res, Hid ((r, if r = 0 then (⟨c.tag, putL c.l id w (heldF lag), wrap64 (c.age + 1), c.srv⟩ : Co) else c) = res) := ⟨_, Lib.hid rfl⟩
  rw [HRES.out]
  clear h hf ht hQ hGF hback hq hL hheld HBK
  go_enter Tryz.func110, Tryz.ntmps110
  go_wp2_with fail
  refine hent.mono ?_
  rintro e w1 hp
  obtain ⟨rfl, F1, hC1, hT1, hF1⟩ := HBK2.out e w1 hp
  have hdone := done_any cb F1 _ r w1 hC1
  have HT1 := Lib.hid hT1
  have HF1 := Lib.hid hF1
  clear hp hC1 hT1 hF1
  go_wp2_with fail
  refine hdone.mono ?_
  rintro e w2 ⟨rfl, hC2, hT2⟩
  have HC2 := Lib.hid hC2
  have HT2 := Lib.hid hT2
  clear hC2 hT2
  go_wp2_with fail
  go_ret
  rw [← HRES.out]
  refine ⟨rfl, F1, ?_, HT1.out.trans (fun k hk => HF1.out k hk) HT2.out, HF1.out⟩
  have hC := HC2.out
  by_cases hr : r = 0
  · simp only [if_pos hr] at hC ⊢
    rw [show ageE r c.age = wrap64 (c.age + 1) from by unfold ageE; rw [if_pos hr]] at hC
    exact hC
  · simp only [if_neg hr] at hC ⊢
    rw [show ageE r c.age = c.age from by unfold ageE; rw [if_neg hr]] at hC
    exact hC

set_option maxRecDepth 100000 in
set_option maxHeartbeats 200000 in
theorem centertrue_fair (cb : Nat) (F : Nat → Prop) (c : Co) (id w lag : Int) (W : World) (h : CoreIn W cb F c) (hf : Fits c.l) (ht : c.tag = 1) :
    Calls Tryz.prog 110 #[.pointer (some ⟨cb, 0, none⟩), .int .i64 id, .int .i64 w, .int .i64 lag, .bool true] W (CEnterP cb F (coreEnter c id w lag true) W) := by
  obtain ⟨qb, G, c0, hQ, hGF, hback⟩ := h.q
  obtain ⟨lb, v, q0, hL, -, hq⟩ := hQ.line
  have HQT : Hid (qty c.tag = 239) := Lib.hid (by rw [ht]; unfold qty; simp)
  rw [HQT.out] at q0
  have hmeth := fun W' => meth_Put_fair (.pointer (some ⟨lb, 0, none⟩)) W'
  have hent := qput_fair lb v c.l id w lag W hL hf
  rw [show coreEnter c id w lag true = (mayE c.l id w lag, if mayE c.l id w lag = 0 then ⟨c.tag, putL c.l id w lag, wrap64 (c.age + 1), c.srv⟩ else c) from by unfold coreEnter; simp only [eq_self, if_true]]
  have HBK : ∀ (e : Ending) (w1 : World), PutP lb v c.l id w lag (mayE c.l id w lag) W e w1 → EntB cb F c id w lag (mayE c.l id w lag) W e w1 := fun e w1 hp => enter_back (c := c) (lb := lb) (v := v) (qb := qb) (G := G) hL h hGF hq hback hp
  generalize mayE c.l id w lag = r at hent HBK ⊢
  have HBK2 := Lib.hid HBK
  obtain ⟨res, HRES⟩ : ∃ res, Hid ((r, if r = 0 then (⟨c.tag, putL c.l id w lag, wrap64 (c.age + 1), c.srv⟩ : Co) else c) = res) := ⟨_, Lib.hid rfl⟩
  rw [HRES.out]
  clear h hf ht hQ hGF hback hq hL HBK
  go_enter Tryz.func110, Tryz.ntmps110
  go_wp2_with fail
  refine hent.mono ?_
  rintro e w1 hp
  obtain ⟨rfl, F1, hC1, hT1, hF1⟩ := HBK2.out e w1 hp
  have hdone := done_any cb F1 _ r w1 hC1
  have HT1 := Lib.hid hT1
  have HF1 := Lib.hid hF1
  clear hp hC1 hT1 hF1
  go_wp2_with fail
  refine hdone.mono ?_
  rintro e w2 ⟨rfl, hC2, hT2⟩
  have HC2 := Lib.hid hC2
  have HT2 := Lib.hid hT2
  clear hC2 hT2
  go_wp2_with fail
  go_ret
  rw [← HRES.out]
  refine ⟨rfl, F1, ?_, HT1.out.trans (fun k hk => HF1.out k hk) HT2.out, HF1.out⟩
  have hC := HC2.out
  by_cases hr : r = 0
  · simp only [if_pos hr] at hC ⊢
    rw [show ageE r c.age = wrap64 (c.age + 1) from by unfold ageE; rw [if_pos hr]] at hC
    exact hC
  · simp only [if_neg hr] at hC ⊢
    rw [show ageE r c.age = c.age from by unfold ageE; rw [if_neg hr]] at hC
    exact hC


set_option maxRecDepth 100000 in
set_option maxHeartbeats 200000 in
theorem centerfalse_due (cb : Nat) (F : Nat → Prop) (c : Co) (id w lag : Int) (W : World) (h : CoreIn W cb F c) (hf : Fits c.l) (ht : c.tag = 2) :
    Calls Tryz.prog 110 #[.pointer (some ⟨cb, 0, none⟩), .int .i64 id, .int .i64 w, .int .i64 lag, .bool false] W (CEnterP cb F (coreEnter c id w lag false) W) := by
  obtain ⟨qb, G, c0, hQ, hGF, hback⟩ := h.q
  obtain ⟨lb, v, q0, hL, -, hq⟩ := hQ.line
  have HQT : Hid (qty c.tag = 242) := Lib.hid (by rw [ht]; unfold qty; simp)
  rw [HQT.out] at q0
  have hmeth := fun W' => meth_Enter_due (.pointer (some ⟨lb, 0, none⟩)) W'
  have hent := qenter_due lb v c.l id w lag W hL hf
  have hheld : heldT c.tag lag = heldD lag := by rw [ht]; unfold heldT; simp
  rw [show coreEnter c id w lag false = (mayE c.l id w lag, if mayE c.l id w lag = 0 then ⟨c.tag, putL c.l id w (heldD lag), wrap64 (c.age + 1), c.srv⟩ else c) from by unfold coreEnter; simp only [Bool.false_eq_true, if_false, hheld]]
  have HBK : ∀ (e : Ending) (w1 : World), PutP lb v c.l id w (heldD lag) (mayE c.l id w lag) W e w1 → EntB cb F c id w (heldD lag) (mayE c.l id w lag) W e w1 := fun e w1 hp => enter_back (c := c) (lb := lb) (v := v) (qb := qb) (G := G) hL h hGF hq hback hp
  generalize mayE c.l id w lag = r at hent HBK ⊢
  have HBK2 := Lib.hid HBK
  obtain ⟨res, HRES⟩ : ∃ res, Hid ((r, if r = 0 then (⟨c.tag, putL c.l id w (heldD lag), wrap64 (c.age + 1), c.srv⟩ : Co) else c) = res) := ⟨_, Lib.hid rfl⟩
  rw [HRES.out]
  clear h hf ht hQ hGF hback hq hL hheld HBK
  go_enter Tryz.func110, Tryz.ntmps110
  go_wp2_with fail
  refine hent.mono ?_
  rintro e w1 hp
  obtain ⟨rfl, F1, hC1, hT1, hF1⟩ := HBK2.out e w1 hp
  have hdone := done_any cb F1 _ r w1 hC1
  have HT1 := Lib.hid hT1
  have HF1 := Lib.hid hF1
  clear hp hC1 hT1 hF1
  go_wp2_with fail
  refine hdone.mono ?_
  rintro e w2 ⟨rfl, hC2, hT2⟩
  have HC2 := Lib.hid hC2
  have HT2 := Lib.hid hT2
  clear hC2 hT2
  go_wp2_with fail
  go_ret
  rw [← HRES.out]
  refine ⟨rfl, F1, ?_, HT1.out.trans (fun k hk => HF1.out k hk) HT2.out, HF1.out⟩
  have hC := HC2.out
  by_cases hr : r = 0
  · simp only [if_pos hr] at hC ⊢
    rw [show ageE r c.age = wrap64 (c.age + 1) from by unfold ageE; rw [if_pos hr]] at hC
    exact hC
  · simp only [if_neg hr] at hC ⊢
    rw [show ageE r c.age = c.age from by unfold ageE; rw [if_neg hr]] at hC
    exact hC

set_option maxRecDepth 100000 in
set_option maxHeartbeats 200000 in
theorem centertrue_due (cb : Nat) (F : Nat → Prop) (c : Co) (id w lag : Int) (W : World) (h : CoreIn W cb F c) (hf : Fits c.l) (ht : c.tag = 2) :
    Calls Tryz.prog 110 #[.pointer (some ⟨cb, 0, none⟩), .int .i64 id, .int .i64 w, .int .i64 lag, .bool true] W (CEnterP cb F (coreEnter c id w lag true) W) := by
  obtain ⟨qb, G, c0, hQ, hGF, hback⟩ := h.q
  obtain ⟨lb, v, q0, hL, -, hq⟩ := hQ.line
  have HQT : Hid (qty c.tag = 242) := Lib.hid (by rw [ht]; unfold qty; simp)
  rw [HQT.out] at q0
  have hmeth := fun W' => meth_Put_due (.pointer (some ⟨lb, 0, none⟩)) W'
  have hent := qput_due lb v c.l id w lag W hL hf
  rw [show coreEnter c id w lag true = (mayE c.l id w lag, if mayE c.l id w lag = 0 then ⟨c.tag, putL c.l id w lag, wrap64 (c.age + 1), c.srv⟩ else c) from by unfold coreEnter; simp only [eq_self, if_true]]
  have HBK : ∀ (e : Ending) (w1 : World), PutP lb v c.l id w lag (mayE c.l id w lag) W e w1 → EntB cb F c id w lag (mayE c.l id w lag) W e w1 := fun e w1 hp => enter_back (c := c) (lb := lb) (v := v) (qb := qb) (G := G) hL h hGF hq hback hp
  generalize mayE c.l id w lag = r at hent HBK ⊢
  have HBK2 := Lib.hid HBK
  obtain ⟨res, HRES⟩ : ∃ res, Hid ((r, if r = 0 then (⟨c.tag, putL c.l id w lag, wrap64 (c.age + 1), c.srv⟩ : Co) else c) = res) := ⟨_, Lib.hid rfl⟩
  rw [HRES.out]
  clear h hf ht hQ hGF hback hq hL HBK
  go_enter Tryz.func110, Tryz.ntmps110
  go_wp2_with fail
  refine hent.mono ?_
  rintro e w1 hp
  obtain ⟨rfl, F1, hC1, hT1, hF1⟩ := HBK2.out e w1 hp
  have hdone := done_any cb F1 _ r w1 hC1
  have HT1 := Lib.hid hT1
  have HF1 := Lib.hid hF1
  clear hp hC1 hT1 hF1
  go_wp2_with fail
  refine hdone.mono ?_
  rintro e w2 ⟨rfl, hC2, hT2⟩
  have HC2 := Lib.hid hC2
  have HT2 := Lib.hid hT2
  clear hC2 hT2
  go_wp2_with fail
  go_ret
  rw [← HRES.out]
  refine ⟨rfl, F1, ?_, HT1.out.trans (fun k hk => HF1.out k hk) HT2.out, HF1.out⟩
  have hC := HC2.out
  by_cases hr : r = 0
  · simp only [if_pos hr] at hC ⊢
    rw [show ageE r c.age = wrap64 (c.age + 1) from by unfold ageE; rw [if_pos hr]] at hC
    exact hC
  · simp only [if_neg hr] at hC ⊢
    rw [show ageE r c.age = c.age from by unfold ageE; rw [if_neg hr]] at hC
    exact hC


theorem center_any (cb : Nat) (F : Nat → Prop) (c : Co) (id w lag : Int) (x : Bool) (W : World) (h : CoreIn W cb F c) (hf : Fits c.l) :
    Calls Tryz.prog 110 #[.pointer (some ⟨cb, 0, none⟩), .int .i64 id, .int .i64 w, .int .i64 lag, .bool x] W (CEnterP cb F (coreEnter c id w lag x) W) := by
  obtain ⟨qb, G, c0, hQ, hGF, hback⟩ := h.q
  obtain ⟨lb, v, q0, hL, ht, hq⟩ := hQ.line
  rcases ht with ht | ht | ht <;> cases x
  · exact centerfalse_stride cb F c id w lag W h hf ht
  · exact centertrue_stride cb F c id w lag W h hf ht
  · exact centerfalse_fair cb F c id w lag W h hf ht
  · exact centertrue_fair cb F c id w lag W h hf ht
  · exact centerfalse_due cb F c id w lag W h hf ht
  · exact centertrue_due cb F c id w lag W h hf ht

end Go.Proofs.YtoiajjobecinpaaGreat
