/- Contracts of package slots: Place, New, Take, Free, Has, as they change a row of places in memory. -/
import Derived.Test.YtjnmdkdgkjakoaaRows
import Derived.WalkKit
import Derived.WalkSpells
import Derived.WalkLawsBesides
import Derived.Lib.Hide
namespace Go.Proofs.Ytjnmdkdgkjakoaa
open Go.RowKit
set_option linter.unusedVariables false
set_option linter.unusedSimpArgs false

/-- The cells of a row of places. -/
def cellsOf : List (Int × Bool) → List Value
  | [] => []
  | p :: t => .int .i64 p.1 :: .bool p.2 :: cellsOf t

theorem cellsOf_length (ps : List (Int × Bool)) : (cellsOf ps).length = ps.length * 2 := by
  induction ps with
  | nil => rfl
  | cons p t ih => simp [cellsOf, ih]; omega

theorem cellsOf_turn (ps : List (Int × Bool)) : ∀ i, i < ps.length → (cellsOf ps)[i * 2]? = some (.int .i64 (ps.getD i default).1) := by
  induction ps with
  | nil => intro i h; simp at h
  | cons p t ih =>
    intro i h
    cases i with
    | zero => rfl
    | succ i =>
      have := ih i (by simpa using h)
      rw [show (i + 1) * 2 = i * 2 + 1 + 1 from by omega]
      simpa [cellsOf] using this

theorem cellsOf_taken (ps : List (Int × Bool)) : ∀ i, i < ps.length → (cellsOf ps)[i * 2 + 1]? = some (.bool (ps.getD i default).2) := by
  induction ps with
  | nil => intro i h; simp at h
  | cons p t ih =>
    intro i h
    cases i with
    | zero => rfl
    | succ i =>
      have := ih i (by simpa using h)
      rw [show (i + 1) * 2 + 1 = i * 2 + 1 + 1 + 1 from by omega]
      simpa [cellsOf] using this

theorem cellsOf_set (ps : List (Int × Bool)) (t : Int) (b : Bool) : ∀ i, i < ps.length →
    cellsOf (ps.set i (t, b)) = ((cellsOf ps).set (i * 2) (.int .i64 t)).set (i * 2 + 1) (.bool b) := by
  induction ps with
  | nil => intro i h; simp at h
  | cons p q ih =>
    intro i h
    cases i with
    | zero => rfl
    | succ i =>
      have := ih i (by simpa using h)
      rw [show (i + 1) * 2 = i * 2 + 1 + 1 from by omega]
      simp [cellsOf, this]

theorem set_same {l : List Value} {i : Nat} {v : Value} (h : l[i]? = some v) : l.set i v = l := by
  apply List.ext_getElem?
  intro j
  rw [List.getElem?_set]
  split
  · rename_i e; subst e; split
    · exact h.symm
    · rename_i hn; rw [List.getElem?_eq_none (by omega)] at h; cases h
  · rfl

/-- Block b begins with a slice over block a, which holds the places ps. -/
structure SlotsAt (w : World) (b a : Nat) (ps : List (Int × Bool)) : Prop where
  head : w.cell? ⟨b, 0, none⟩ = some (.slice (some ⟨a, 0, none⟩) ps.length ps.length)
  ne : b ≠ a
  row : ∃ T, w.heap[a]? = some (.cells (cellsOf ps).toArray T (0, 0))

theorem SlotsAt.turn {w : World} {b a : Nat} {ps : List (Int × Bool)} (h : SlotsAt w b a ps) (i : Nat) (hi : i < ps.length) :
    w.cell? ⟨a, i * 2, none⟩ = some (.int .i64 (ps.getD i default).1) := by
  obtain ⟨T, hr⟩ := h.row
  simp only [World.cell?, hr]
  simpa using cellsOf_turn ps i hi

theorem SlotsAt.taken {w : World} {b a : Nat} {ps : List (Int × Bool)} (h : SlotsAt w b a ps) (i : Nat) (hi : i < ps.length) :
    w.cell? ⟨a, i * 2 + 1, none⟩ = some (.bool (ps.getD i default).2) := by
  obtain ⟨T, hr⟩ := h.row
  simp only [World.cell?, hr]
  simpa using cellsOf_taken ps i hi

theorem SlotsAt.frozen {w : World} {b a : Nat} {ps : List (Int × Bool)} (h : SlotsAt w b a ps) (i : Nat) :
    w.frozen? ⟨a, i, none⟩ = false := by
  obtain ⟨T, hr⟩ := h.row
  simp [World.frozen?, hr]

theorem heap_setCell_row {w : World} {a i : Nat} {v : Value} {cs : List Value} {T : TypeId} (h : w.heap[a]? = some (.cells cs.toArray T (0, 0))) :
    (w.setCell ⟨a, i, none⟩ v).heap[a]? = some (.cells (cs.set i v).toArray T (0, 0)) := by
  simp [World.setCell, Array.getElem?_modify, h]

/-- One place set anew. -/
theorem SlotsAt.set {w : World} {b a : Nat} {ps : List (Int × Bool)} (h : SlotsAt w b a ps) (i : Nat) (hi : i < ps.length) (t : Int) (d : Bool) :
    SlotsAt ((w.setCell ⟨a, i * 2 + 1, none⟩ (.bool d)).setCell ⟨a, i * 2, none⟩ (.int .i64 t)) b a (ps.set i (t, d)) := by
  obtain ⟨T, hr⟩ := h.row
  refine ⟨?_, h.ne, T, ?_⟩
  · rw [World.cell?_setCell_other _ _ _ _ (by intro e; injection e with e1; exact h.ne e1.symm), World.cell?_setCell_other _ _ _ _ (by intro e; injection e with e1; exact h.ne e1.symm)]
    simpa using h.head
  · rw [heap_setCell_row (heap_setCell_row hr), cellsOf_set ps t d i hi, List.set_comm _ _ (by omega)]

theorem SlotsAt.free {w : World} {b a : Nat} {ps : List (Int × Bool)} (h : SlotsAt w b a ps) (i : Nat) (hi : i < ps.length) :
    SlotsAt (w.setCell ⟨a, i * 2 + 1, none⟩ (.bool false)) b a (ps.set i ((ps.getD i default).1, false)) := by
  obtain ⟨T, hr⟩ := h.row
  refine ⟨?_, h.ne, T, ?_⟩
  · rw [World.cell?_setCell_other _ _ _ _ (by intro e; injection e with e1; exact h.ne e1.symm)]
    simpa using h.head
  · rw [heap_setCell_row hr, cellsOf_set ps _ _ i hi, set_same (cellsOf_turn ps i hi)]

/-- What lies below is untouched, and it is a world behind it: still there. -/
theorem SlotsAt.below {w w' : World} {b a : Nat} {ps : List (Int × Bool)} (h : SlotsAt w b a ps) {B : Nat} (hb : Below B w w') (h1 : b < B) (h2 : a < B) : SlotsAt w' b a ps := by
  obtain ⟨T, hr⟩ := h.row
  exact ⟨(hb.cell (p := ⟨b, 0, none⟩) h1).trans h.head, h.ne, T, (hb.block a h2).trans hr⟩

theorem SlotsAt.lt {w : World} {b a : Nat} {ps : List (Int × Bool)} (h : SlotsAt w b a ps) : b < w.heap.size ∧ a < w.heap.size := by
  obtain ⟨T, hr⟩ := h.row
  exact ⟨World.block_lt_of_cell? w _ h.head, (Array.getElem?_eq_some_iff.1 hr).1⟩

/-- Place(id), of a name that is not negative. -/
theorem place_any (id : Int) (w : World) (h : 0 ≤ id) (h2 : id ≤ 9223372036854775807) :
    Calls Try.prog 26 #[.int .i64 id] w fun e w' => e = .returned (.tuple #[.int .i64 (id % 64), .int .i64 (id / 64)]) ∧ w = w' := by
  go_enter Try.func26, Try.ntmps26
  go_wp2
  go_ret2
  exact ⟨by simp, rfl⟩

theorem place_neg (id : Int) (w : World) (h : id < 0) :
    Calls Try.prog 26 #[.int .i64 id] w fun e w' => e = .returned (.tuple #[.int .i64 (-1), .int .i64 (-1)]) ∧ w = w' := by
  go_enter Try.func26, Try.ntmps26
  go_wp2
  go_ret2
  exact ⟨rfl, rfl⟩

set_option maxHeartbeats 400000 in
/-- Take, where place i is the first that is free. -/
theorem take_hit (b a i : Nat) (w : World) (ps : List (Int × Bool)) (hn : ps.length ≤ 64) (hs : SlotsAt w b a ps) (hi : i < ps.length)
    (hfree : (ps.getD i default).2 = false) (hall : ∀ j, j < i → (ps.getD j default).2 = true) (t : Int) (ht0 : 0 ≤ t) (ht1 : t ≤ 1000000) (ht : (ps.getD i default).1 = t) :
    Calls Try.prog 24 #[.pointer (some ⟨b, 0, none⟩)] w fun e w' => e = .returned (.tuple #[.int .i64 (i + 64 * t), .int .i64 0]) ∧
      (w.setCell ⟨a, i * 2 + 1, none⟩ (.bool true)).setCell ⟨a, i * 2, none⟩ (.int .i64 (t + 1)) = w' := by
  have hb := hs.head
  obtain ⟨n, HN⟩ : ∃ n, Hid (ps.length = n) := ⟨_, Lib.hid rfl⟩
  rw [HN.out] at hb hn hi
  go_enter Try.func24, Try.ntmps24
  go_wp2
  go_loop [4, 5, 11] (fun x4 x5 x11 => ∃ k : Nat, k ≤ i ∧ x11 = .int .i64 k) (fun _ _ i => n - (intOf i).toNat)
  case atStart => exact ⟨0, by omega, rfl⟩
  case round =>
    obtain ⟨k, hk, rfl⟩ := hrel
    have hkn : k < n := by omega
    have h1 := hs.turn k (by rw [HN.out]; exact hkn)
    have h2 := hs.taken k (by rw [HN.out]; exact hkn)
    have h3 := hs.frozen (k * 2 + 1)
    have h4 := hs.frozen (k * 2)
    by_cases hlt : k < i
    · rw [hall k hlt] at h2
      clear hall ht hfree
      go_wp2
      go_round
      case rel => exact ⟨k + 1, by omega, by go_num⟩
      case measure => simp [intOf]; omega
    · obtain rfl : k = i := by omega
      rw [hfree] at h2
      rw [ht] at h1
      clear hall hfree
      have HT := Lib.hid ht
      clear ht
      have h5 : (w.setCell ⟨a, k * 2 + 1, none⟩ (.bool true)).cell? ⟨a, k * 2, none⟩ = some (.int .i64 t) := by
        rw [World.cell?_setCell_other _ _ _ _ (by simp)]; exact h1
      have h6 : ((w.setCell ⟨a, k * 2 + 1, none⟩ (.bool true)).setCell ⟨a, k * 2, none⟩ (.int .i64 (t + 1))).cell? ⟨a, k * 2, none⟩ = some (.int .i64 (t + 1)) :=
        World.cell?_setCell_same _ _ _ h5
      go_wp2
      go_ret2
      exact ⟨by simp [Int.add_sub_cancel], rfl⟩

set_option maxHeartbeats 400000 in
/-- Take, where none is free. -/
theorem take_miss (b a : Nat) (w : World) (ps : List (Int × Bool)) (hn : ps.length ≤ 64) (hs : SlotsAt w b a ps)
    (hall : ∀ j, j < ps.length → (ps.getD j default).2 = true) :
    Calls Try.prog 24 #[.pointer (some ⟨b, 0, none⟩)] w fun e w' => e = .returned (.tuple #[.int .i64 0, .int .i64 3]) ∧ w = w' := by
  have hb := hs.head
  obtain ⟨n, HN⟩ : ∃ n, Hid (ps.length = n) := ⟨_, Lib.hid rfl⟩
  rw [HN.out] at hb hn hall
  go_enter Try.func24, Try.ntmps24
  go_wp2
  go_loop [4, 5, 11] (fun x4 x5 x11 => ∃ k : Nat, k ≤ n ∧ x11 = .int .i64 k) (fun _ _ i => n - (intOf i).toNat)
  case atStart => exact ⟨0, by omega, rfl⟩
  case round =>
    obtain ⟨k, hk, rfl⟩ := hrel
    by_cases hlt : k < n
    · have h2 := hs.taken k (by rw [HN.out]; exact hlt)
      rw [hall k hlt] at h2
      clear hall
      go_wp2
      go_round
      case rel => exact ⟨k + 1, by omega, by go_num⟩
      case measure => simp [intOf]; omega
    · clear hall
      go_wp2
      go_ret2
      exact ⟨rfl, rfl⟩

theorem has_neg (p : Value) (id : Int) (w : World) (h : id < 0) :
    Calls Try.prog 27 #[p, .int .i64 id] w fun e w' => e = .returned (.bool false) ∧ w = w' := by
  go_enter Try.func27, Try.ntmps27
  go_wp2_with (go_at_call 26; refine (place_neg _ _ h).mono ?_; rintro e w' ⟨rfl, rfl⟩)
  go_ret
  exact ⟨rfl, rfl⟩

/-- Is this name given out? -/
def hasB (ps : List (Int × Bool)) (id : Int) : Bool :=
  decide (0 ≤ id) && (decide ((id % 64).toNat < ps.length) && ((ps.getD (id % 64).toNat default).2 && ((ps.getD (id % 64).toNat default).1 - 1 == id / 64)))

set_option maxHeartbeats 400000 in
/-- Has, of a name that is not negative. -/
theorem has_pos (b a : Nat) (id : Int) (w : World) (ps : List (Int × Bool)) (hn : ps.length ≤ 64) (hs : SlotsAt w b a ps)
    (h0 : 0 ≤ id) (h2 : id ≤ 9223372036854775807) (ht : ∀ j, j < ps.length → 0 ≤ (ps.getD j default).1 ∧ (ps.getD j default).1 ≤ 1000000) :
    Calls Try.prog 27 #[.pointer (some ⟨b, 0, none⟩), .int .i64 id] w fun e w' => e = .returned (.bool (hasB ps id)) ∧ w = w' := by
  have hb := hs.head
  obtain ⟨n, HN⟩ : ∃ n, Hid (ps.length = n) := ⟨_, Lib.hid rfl⟩
  rw [HN.out] at hb hn ht
  obtain ⟨q, HQ⟩ : ∃ q : Int, Hid (id % 64 = q) := ⟨_, Lib.hid rfl⟩
  obtain ⟨u, HU⟩ : ∃ q : Int, Hid (id / 64 = q) := ⟨_, Lib.hid rfl⟩
  have hq0 : 0 ≤ q := by rw [← HQ.out]; omega
  have hq1 : q < 64 := by rw [← HQ.out]; omega
  have HP := place_any id w h0 h2
  rw [HQ.out, HU.out] at HP
  obtain ⟨m, hm⟩ := Int.eq_ofNat_of_zero_le hq0
  subst hm
  have HG : Hid (hasB ps id = (decide (m < n) && ((ps.getD m default).2 && ((ps.getD m default).1 - 1 == u)))) := by
    refine Lib.hid ?_
    unfold hasB
    rw [decide_eq_true h0, HQ.out, HU.out, HN.out]
    rfl
  rw [HG.out]
  clear HG
  by_cases hlt : m < n
  · have c1 := hs.turn m (by rw [HN.out]; exact hlt)
    have c2 := hs.taken m (by rw [HN.out]; exact hlt)
    obtain ⟨t, HT⟩ : ∃ t : Int, Hid ((ps.getD m default).1 = t) := ⟨_, Lib.hid rfl⟩
    obtain ⟨d, HD⟩ : ∃ t : Bool, Hid ((ps.getD m default).2 = t) := ⟨_, Lib.hid rfl⟩
    have ht' := ht m hlt
    rw [HT.out] at c1 ht'
    rw [HD.out] at c2
    rw [HT.out, HD.out]
    obtain ⟨k1, k2⟩ := ht'
    clear ht
    cases d with
    | false =>
      go_enter Try.func27, Try.ntmps27
      go_wp2_with (go_at_call 26; refine HP.mono ?_; rintro e w' ⟨rfl, rfl⟩)
      go_ret
      exact ⟨by simp, rfl⟩
    | true =>
      go_enter Try.func27, Try.ntmps27
      go_wp2_with (go_at_call 26; refine HP.mono ?_; rintro e w' ⟨rfl, rfl⟩)
      go_ret
      exact ⟨by simp [hlt], rfl⟩
  · clear ht
    go_enter Try.func27, Try.ntmps27
    go_wp2_with (go_at_call 26; refine HP.mono ?_; rintro e w' ⟨rfl, rfl⟩)
    go_ret
    exact ⟨by simp [hlt], rfl⟩

theorem has_any (b a : Nat) (id : Int) (w : World) (ps : List (Int × Bool)) (hn : ps.length ≤ 64) (hs : SlotsAt w b a ps)
    (h2 : id ≤ 9223372036854775807) (ht : ∀ j, j < ps.length → 0 ≤ (ps.getD j default).1 ∧ (ps.getD j default).1 ≤ 1000000) :
    Calls Try.prog 27 #[.pointer (some ⟨b, 0, none⟩), .int .i64 id] w fun e w' => e = .returned (.bool (hasB ps id)) ∧ w = w' := by
  by_cases h0 : 0 ≤ id
  · exact has_pos b a id w ps hn hs h0 h2 ht
  · have e : hasB ps id = false := by unfold hasB; rw [decide_eq_false h0]; rfl
    rw [e]
    exact has_neg _ id w (by omega)

set_option maxHeartbeats 400000 in
theorem free_any (b a : Nat) (id : Int) (w : World) (ps : List (Int × Bool)) (hn : ps.length ≤ 64) (hs : SlotsAt w b a ps)
    (h2 : id ≤ 9223372036854775807) (ht : ∀ j, j < ps.length → 0 ≤ (ps.getD j default).1 ∧ (ps.getD j default).1 ≤ 1000000) :
    Calls Try.prog 25 #[.pointer (some ⟨b, 0, none⟩), .int .i64 id] w fun e w' => e = .returned (.int .i64 (if hasB ps id = true then 0 else 2)) ∧
      (if hasB ps id = true then w.setCell ⟨a, (id % 64).toNat * 2 + 1, none⟩ (.bool false) else w) = w' := by
  have HP := has_any b a id w ps hn hs h2 ht
  have hb := hs.head
  cases hh : hasB ps id with
  | false =>
    rw [hh] at HP
    clear hh
    go_enter Try.func25, Try.ntmps25
    go_wp2_with (go_at_call 27; refine HP.mono ?_; rintro e w' ⟨rfl, rfl⟩)
    go_ret
    exact ⟨by simp, by simp⟩
  | true =>
    rw [hh] at HP
    have g := hh
    unfold hasB at g
    simp only [Bool.and_eq_true, decide_eq_true_eq] at g
    obtain ⟨g1, g2, g3, g4⟩ := g
    clear hh g4 ht
    have c2 := hs.taken _ g2
    rw [g3] at c2
    clear g3
    have c3 := hs.frozen ((id % 64).toNat * 2 + 1)
    obtain ⟨n, HN⟩ : ∃ n, Hid (ps.length = n) := ⟨_, Lib.hid rfl⟩
    rw [HN.out] at hb hn g2
    go_enter Try.func25, Try.ntmps25
    go_wp2_with (go_at_call 27; refine HP.mono ?_; rintro e w' ⟨rfl, rfl⟩)
    go_ret
    exact ⟨by simp, by simp⟩

theorem info71 : (Try.prog.info? 71).map (fun i => (i.zero, i.size, i.bytes)) = some (some (.agg #[.int .i64 0, .bool false]), 2, 16) := by kernel_rfl

end Go.Proofs.Ytjnmdkdgkjakoaa
