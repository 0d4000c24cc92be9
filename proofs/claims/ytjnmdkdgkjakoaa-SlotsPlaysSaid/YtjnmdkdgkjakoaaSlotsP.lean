/- Contracts of the document's own names: Free, All, NewNames. -/
import Derived.Test.YtjnmdkdgkjakoaaSlotsO
namespace Go.Proofs.Ytjnmdkdgkjakoaa
open Go.RowKit
set_option linter.unusedVariables false
set_option linter.unusedSimpArgs false

theorem rhas_w (b a c : Nat) (id : Int) (w : World) (ps : List (Int × Bool)) (hs : NamesAt w b a c ps) (hz : Sized ps) (h2 : id ≤ 9223372036854775807) :
    Calls Try.prog 35 #[.pointer (some ⟨b, 0, none⟩), .int .i64 id] w fun e w' => e = .returned (.bool (hasB ps id)) ∧ w = w' := by
  by_cases h0 : 0 ≤ id
  · exact rhas_pos b a c id w ps hz.1 hs h0 h2 hz.2
  · have e : hasB ps id = false := by unfold hasB; rw [decide_eq_false h0]; rfl
    rw [e]
    exact rhas_neg _ id w (by omega)

set_option maxHeartbeats 400000 in
theorem rfree_any (b a c : Nat) (id : Int) (w : World) (ps : List (Int × Bool)) (hs : NamesAt w b a c ps) (hz : Sized ps)
    (h2 : id ≤ 9223372036854775807) :
    Calls Try.prog 33 #[.pointer (some ⟨b, 0, none⟩), .int .i64 id] w fun e w' => e = .returned (.int .i64 (if hasB ps id = true then 0 else 2)) ∧
      (if hasB ps id = true then w.setCell ⟨c, (id % 64).toNat, none⟩ (.bool false) else w) = w' := by
  have HP := rhas_w b a c id w ps hs hz h2
  have hb1 := hs.head1
  cases hh : hasB ps id with
  | false =>
    rw [hh] at HP
    clear hh
    go_enter Try.func33, Try.ntmps33
    go_wp2_with (go_at_call 35; refine HP.mono ?_; rintro e w' ⟨rfl, rfl⟩)
    go_ret
    exact ⟨by simp, by simp⟩
  | true =>
    rw [hh] at HP
    have g := hh
    unfold hasB at g
    simp only [Bool.and_eq_true, decide_eq_true_eq] at g
    obtain ⟨g1, g2, g3, g4⟩ := g
    clear hh g4
    have c2 := hs.out _ g2
    rw [g3] at c2
    clear g3
    have c3 := hs.frozenC (id % 64).toNat
    obtain ⟨n, HN⟩ : ∃ n, Hid (ps.length = n) := ⟨_, Lib.hid rfl⟩
    rw [HN.out] at hb1 g2
    have hlt' : id % 64 < (n : Int) := by omega
    go_enter Try.func33, Try.ntmps33
    go_wp2_with (go_at_call 35; refine HP.mono ?_; rintro e w' ⟨rfl, rfl⟩)
    go_ret
    exact ⟨by simp, by simp⟩

theorem rfree_w (b a c : Nat) (id : Int) (w : World) (ps : List (Int × Bool)) (hs : NamesAt w b a c ps) (hz : Sized ps) (B : Nat) (hB : B ≤ c) (h2 : id ≤ 9223372036854775807) :
    Calls Try.prog 33 #[.pointer (some ⟨b, 0, none⟩), .int .i64 id] w fun e w' => e = .returned (.int .i64 (freeP ps id).1) ∧
      NamesAt w' b a c (freeP ps id).2 ∧ w'.heap.size = w.heap.size ∧ Below B w w' ∧ (∀ k, k ≠ c → w'.heap[k]? = w.heap[k]?) := by
  refine (rfree_any b a c id w ps hs hz h2).mono ?_
  rintro e w' ⟨rfl, rfl⟩
  unfold freeP
  by_cases h : hasB ps id = true
  · simp only [if_pos h]
    have g := h
    unfold hasB at g
    simp only [Bool.and_eq_true, decide_eq_true_eq] at g
    exact ⟨trivial, hs.free _ g.2.1, by simp, (Below.refl _ _).setCell hB _, fun k hk => Below.heap_setCell _ _ _ _ hk⟩
  · simp only [if_neg h]
    exact ⟨trivial, hs, trivial, Below.refl _ _, fun _ _ => trivial⟩

set_option maxHeartbeats 1000000 in
theorem rall_any (b a c : Nat) (w : World) (ps : List (Int × Bool)) (hs : NamesAt w b a c ps) (hz : Sized ps) :
    Calls Try.prog 34 #[.pointer (some ⟨b, 0, none⟩)] w fun e w' => ∃ v, e = .returned v ∧ Owns w' w.heap.size v (nm ps ps.length) ∧ Below w.heap.size w w' := by
  have hb0 := hs.head0
  have hb1 := hs.head1
  have hlt := hs.lt
  obtain ⟨hn, ht⟩ := hz
  obtain ⟨n, HN⟩ : ∃ n, Hid (ps.length = n) := ⟨_, Lib.hid rfl⟩
  rw [HN.out] at hb0 hb1 hn ht ⊢
  obtain ⟨i0, hi, hz0, hz1, hz2⟩ := info_parts info3
  go_enter Try.func34, Try.ntmps34
  go_wp2
  go_loopw [3, 4] (fun v x wr => ∃ k : Nat, k ≤ n ∧ x = .int .i64 k ∧ Owns wr w.heap.size v (nm ps k) ∧ Below w.heap.size w wr) (fun _ x _ => n - (intOf x).toNat)
  case atStart => exact ⟨0, by omega, rfl, World.ownsRow_nil _ _ _ _, Below.refl _ _⟩
  case round =>
    obtain ⟨k, hk, rfl, hown, hbel⟩ := hrel
    have hlen := nm_length ps k
    have d0 := cell_later hbel hb0
    have d1 := cell_later hbel hb1
    by_cases hkn : k < n
    · have hs' := hs.below hbel hlt.1 hlt.2.1 hlt.2.2
      have c1 := hs'.turn k (by rw [HN.out]; exact hkn)
      have c2 := hs'.out k (by rw [HN.out]; exact hkn)
      have ht' := ht k hkn
      obtain ⟨t, HT⟩ : ∃ t : Int, Hid ((ps.getD k default).1 = t) := ⟨_, Lib.hid rfl⟩
      obtain ⟨d, HD⟩ : ∃ t : Bool, Hid ((ps.getD k default).2 = t) := ⟨_, Lib.hid rfl⟩
      rw [HT.out] at c1 ht'
      rw [HD.out] at c2
      obtain ⟨t0, t1⟩ := ht'
      have hsz := hbel.size
      clear ht
      cases d with
      | false =>
        have HF := Lib.hid (nm_free ps k HD.out)
        go_wp2
        go_roundw
        case rel => exact ⟨k + 1, by omega, by go_num, by rw [HF.out]; exact hown, hbel⟩
        case measure => simp [intOf]; omega
      | true =>
        have HF := Lib.hid (nm_taken ps k HD.out)
        rw [HT.out] at HF
        unfold Owns at hown
        go_wp2_with (at_builtin; refine wpList_append_own _ rfl _ _ 22 rfl w.heap.size 3 i0 (.int .i64 0) 1 8 Try.underlying22 hi hz0 hz1 hz2 rfl (by decide) _ _ _ rfl (hown.alloc _) ⟨wr.heap.size, 0, none⟩ 1 1 [.int .i64 (k + 64 * (t - 1))] rfl rfl ?c1 ?c2 ?c3 ?c4 ?c5 ?_)
        case c1 => exact one_new _ _ _ _ rfl
        case c2 => intro u hu; simp only [List.mem_singleton] at hu; subst hu; rfl
        case c3 => unfold maxLen; omega
        case c4 => omega
        case c5 => simp; omega
        intro v' w1 hown' hgrow _
        have hbel' : Below w.heap.size w w1 := Below.grown (hbel.alloc hsz _) hgrow (by simp; omega) (fun g hg => (hown.lt g hg).1)
        have hown2 : Owns w1 w.heap.size v' (nm ps (k + 1)) := by rw [HF.out]; exact Owns.push hown'
        have HO := Lib.hid hown2
        clear hown' hgrow hown2
        go_wp2
        go_roundw
        case rel => exact ⟨k + 1, by omega, by go_num, HO.out, hbel'⟩
        case measure => simp [intOf]; omega
    · obtain rfl : k = n := by omega
      have HO := Lib.hid hown
      clear ht hown
      go_wp2
      go_ret
      exact ⟨_, rfl, HO.out, hbel⟩

theorem info4 : (Try.prog.info? 4).map (fun i => (i.zero, i.size, i.bytes)) = some (some (.bool false), 1, 1) := by kernel_rfl

theorem make22 (c : Int) (h0 : 0 ≤ c) (h1 : c ≤ 64) (W : World) :
    (Instr.makeSlice 22 (.int .i64 c) (.int .i64 c)).run Try.prog W = .ok (.slice (some ⟨W.heap.size, 0, none⟩) c.toNat c.toNat) (W.alloc (.cells (turnsOf (fresh c.toNat)).toArray 3)) := by
  obtain ⟨i, hi, hz, hs, hb⟩ := info_parts info3
  have := run_make (P := Try.prog) W 22 3 i _ Try.underlying22 hi hz .i64 .i64 c c h0 (Int.le_refl _) (by rw [hb]; omega) (by omega)
  rw [hs] at this
  rw [this]
  congr 4
  rw [← Array.toList_inj]
  rw [show (Value.int IntKind.i64 0).cells = #[Value.int IntKind.i64 0] from rfl, toList_madeCells_one]
  simp [turnsOf, fresh]

theorem make72 (c : Int) (h0 : 0 ≤ c) (h1 : c ≤ 64) (W : World) :
    (Instr.makeSlice 72 (.int .i64 c) (.int .i64 c)).run Try.prog W = .ok (.slice (some ⟨W.heap.size, 0, none⟩) c.toNat c.toNat) (W.alloc (.cells (outsOf (fresh c.toNat)).toArray 4)) := by
  obtain ⟨i, hi, hz, hs, hb⟩ := info_parts info4
  have := run_make (P := Try.prog) W 72 4 i _ Try.underlying72 hi hz .i64 .i64 c c h0 (Int.le_refl _) (by rw [hb]; omega) (by omega)
  rw [hs] at this
  rw [this]
  congr 4
  rw [← Array.toList_inj]
  rw [show (Value.bool false).cells = #[Value.bool false] from rfl, toList_madeCells_one]
  simp [outsOf, fresh]

theorem names_new_a (w : World) (m : Nat) :
    NamesAt ((((w.alloc (.cells (turnsOf (fresh m)).toArray 3)).alloc (.cells (outsOf (fresh m)).toArray 4)).alloc (.cells #[.slice (some ⟨w.heap.size, 0, none⟩) m m, .slice (some ⟨w.heap.size + 1, 0, none⟩) m m] 74))) (w.heap.size + 1 + 1) w.heap.size (w.heap.size + 1) (fresh m) := by
  have e := heap_alloc_new ((w.alloc (.cells (turnsOf (fresh m)).toArray 3)).alloc (.cells (outsOf (fresh m)).toArray 4)) (.cells #[.slice (some ⟨w.heap.size, 0, none⟩) m m, .slice (some ⟨w.heap.size + 1, 0, none⟩) m m] 74)
  have e2 := heap_alloc_new (w.alloc (.cells (turnsOf (fresh m)).toArray 3)) (.cells (outsOf (fresh m)).toArray 4)
  simp only [World.size_alloc] at e e2
  refine ⟨?_, ?_, by omega, by omega, by omega, ⟨3, ?_⟩, ⟨4, ?_⟩⟩
  · rw [fresh_length]; simp only [World.cell?, e]; rfl
  · rw [fresh_length]; simp only [World.cell?, e]; rfl
  · rw [Below.heap_alloc _ _ _ (by simp; omega), Below.heap_alloc _ _ _ (by simp)]; exact heap_alloc_new w _
  · rw [Below.heap_alloc _ _ _ (by simp)]; exact e2

theorem names_new_b (w : World) (m : Nat) :
    NamesAt ((((w.alloc (.cells (outsOf (fresh m)).toArray 4)).alloc (.cells (turnsOf (fresh m)).toArray 3)).alloc (.cells #[.slice (some ⟨w.heap.size + 1, 0, none⟩) m m, .slice (some ⟨w.heap.size, 0, none⟩) m m] 74))) (w.heap.size + 1 + 1) (w.heap.size + 1) w.heap.size (fresh m) := by
  have e := heap_alloc_new ((w.alloc (.cells (outsOf (fresh m)).toArray 4)).alloc (.cells (turnsOf (fresh m)).toArray 3)) (.cells #[.slice (some ⟨w.heap.size + 1, 0, none⟩) m m, .slice (some ⟨w.heap.size, 0, none⟩) m m] 74)
  have e2 := heap_alloc_new (w.alloc (.cells (outsOf (fresh m)).toArray 4)) (.cells (turnsOf (fresh m)).toArray 3)
  simp only [World.size_alloc] at e e2
  refine ⟨?_, ?_, by omega, by omega, by omega, ⟨3, ?_⟩, ⟨4, ?_⟩⟩
  · rw [fresh_length]; simp only [World.cell?, e]; rfl
  · rw [fresh_length]; simp only [World.cell?, e]; rfl
  · rw [Below.heap_alloc _ _ _ (by simp)]; exact e2
  · rw [Below.heap_alloc _ _ _ (by simp; omega), Below.heap_alloc _ _ _ (by simp)]; exact heap_alloc_new w _

theorem NamesAt.drew {w : World} {b a c : Nat} {ps : List (Int × Bool)} (h : NamesAt w b a c ps) : NamesAt w.drew b a c ps :=
  ⟨h.head0, h.head1, h.ba, h.bc, h.ac, h.turns, h.outs⟩

theorem below_three (w : World) (a b c : Obj) : Below w.heap.size w (((w.alloc a).alloc b).alloc c).drew :=
  ((((Below.refl _ _).alloc (Nat.le_refl _) _).alloc (by simp) _).alloc (by simp; omega) _).drew

/-- What NewNames hands back. -/
def NewOut (w : World) (m : Nat) (e : Ending) (w' : World) : Prop :=
  ∃ b a c, e = .returned (.pointer (some ⟨b, 0, none⟩)) ∧ NamesAt w' b a c (fresh m) ∧ w.heap.size ≤ b ∧ w.heap.size ≤ a ∧ w.heap.size ≤ c ∧ Below w.heap.size w w'

set_option maxHeartbeats 1000000 in
theorem rnew_any6 (n : Int) (w : World) :
    Calls Try.prog 31 #[.int .i64 n] w (NewOut w (room n)) := by
  unfold room
  by_cases c1 : n < 1
  · rw [if_pos c1]
    have hm := make22 1 (by omega) (by omega)
    have hk := make72 1 (by omega) (by omega)
    have HA := names_new_a w 1
    have HB := names_new_b w 1
    rw [show Int.toNat 1 = 1 from rfl] at hm hk
    generalize hx : (turnsOf (fresh 1)).toArray = X at hm HA HB
    generalize hy : (outsOf (fresh 1)).toArray = Y at hk HA HB
    have HHA := Lib.hid HA
    have HHB := Lib.hid HB
    clear hx hy HA HB
    go_enter Try.func31, Try.ntmps31
    go_wp2
    go_region
    · go_wp2
      go_ret
      exact ⟨w.heap.size + 1 + 1, w.heap.size, w.heap.size + 1, rfl, HHA.out.drew, by omega, by omega, by omega, below_three _ _ _ _⟩
    · go_wp2
      go_ret
      exact ⟨w.heap.size + 1 + 1, w.heap.size + 1, w.heap.size, rfl, HHB.out.drew, by omega, by omega, by omega, below_three _ _ _ _⟩
  · rw [if_neg c1]
    by_cases c2 : 64 < n
    · rw [if_pos c2]
      have hm := make22 64 (by omega) (by omega)
      have hk := make72 64 (by omega) (by omega)
      have HA := names_new_a w 64
      have HB := names_new_b w 64
      rw [show Int.toNat 64 = 64 from rfl] at hm hk
      generalize hx : (turnsOf (fresh 64)).toArray = X at hm HA HB
      generalize hy : (outsOf (fresh 64)).toArray = Y at hk HA HB
      have HHA := Lib.hid HA
      have HHB := Lib.hid HB
      clear hx hy HA HB
      go_enter Try.func31, Try.ntmps31
      go_wp2
      go_region
      · go_wp2
        go_ret
        exact ⟨w.heap.size + 1 + 1, w.heap.size, w.heap.size + 1, rfl, HHA.out.drew, by omega, by omega, by omega, below_three _ _ _ _⟩
      · go_wp2
        go_ret
        exact ⟨w.heap.size + 1 + 1, w.heap.size + 1, w.heap.size, rfl, HHB.out.drew, by omega, by omega, by omega, below_three _ _ _ _⟩
    · rw [if_neg c2]
      have hm := make22 n (by omega) (by omega)
      have hk := make72 n (by omega) (by omega)
      have HA := names_new_a w n.toNat
      have HB := names_new_b w n.toNat
      generalize hx : (turnsOf (fresh n.toNat)).toArray = X at hm HA HB
      generalize hy : (outsOf (fresh n.toNat)).toArray = Y at hk HA HB
      have HHA := Lib.hid HA
      have HHB := Lib.hid HB
      clear hx hy HA HB
      go_enter Try.func31, Try.ntmps31
      go_wp2
      go_region
      · go_wp2
        go_ret
        exact ⟨w.heap.size + 1 + 1, w.heap.size, w.heap.size + 1, rfl, HHA.out.drew, by omega, by omega, by omega, below_three _ _ _ _⟩
      · go_wp2
        go_ret
        exact ⟨w.heap.size + 1 + 1, w.heap.size + 1, w.heap.size, rfl, HHB.out.drew, by omega, by omega, by omega, below_three _ _ _ _⟩

end Go.Proofs.Ytjnmdkdgkjakoaa
