/- Contracts of package slots: List, Len. -/
import Derived.Test.YtjnmdkdgkjakoaaSlotsB
namespace Go.Proofs.Ytjnmdkdgkjakoaa
open Go.RowKit
set_option linter.unusedVariables false
set_option linter.unusedSimpArgs false

/-- The names that are given out among the first k places. -/
def nm (ps : List (Int × Bool)) (k : Nat) : List Int :=
  ((List.range k).filter fun j => (ps.getD j default).2).map fun (j : Nat) => (j : Int) + 64 * ((ps.getD j default).1 - 1)

theorem nm_taken (ps : List (Int × Bool)) (k : Nat) (h : (ps.getD k default).2 = true) :
    nm ps (k + 1) = nm ps k ++ [(k : Int) + 64 * ((ps.getD k default).1 - 1)] := by
  unfold nm
  rw [List.range_succ, List.filter_append, List.map_append]
  simp only [List.filter_cons, h, if_true, List.filter_nil, List.map_cons, List.map_nil]

theorem nm_free (ps : List (Int × Bool)) (k : Nat) (h : (ps.getD k default).2 = false) : nm ps (k + 1) = nm ps k := by
  unfold nm
  rw [List.range_succ, List.filter_append, List.map_append]
  simp only [List.filter_cons, h, List.filter_nil, List.map_nil, List.append_nil]
  simp

theorem nm_length (ps : List (Int × Bool)) (k : Nat) : (nm ps k).length ≤ k := by
  unfold nm
  rw [List.length_map]
  exact Nat.le_trans (List.length_filter_le _ _) (by simp)

/-- The ints, as cells. -/
def ic (l : List Int) : List Value := l.map (Value.int .i64)

theorem ic_append (a b : List Int) : ic (a ++ b) = ic a ++ ic b := by simp [ic]
theorem ic_length (a : List Int) : (ic a).length = a.length := by simp [ic]

theorem one_new (W : World) (v : Value) (T : TypeId) (s : Nat) (hs : W.heap.size = s) : ∀ (j : Nat) (u : Value), [v][j]? = some u → (W.alloc (.cells #[v] T)).cell? ((⟨s, 0, none⟩ : Addr).add j) = some u := by
  intro j u h
  cases j with
  | zero =>
    simp only [List.getElem?_cons_zero, Option.some.injEq] at h
    subst h; subst hs
    exact World.cell?_alloc_new W #[v] T 0
  | succ j => simp at h

theorem info3 : (Try.prog.info? 3).map (fun i => (i.zero, i.size, i.bytes)) = some (some (.int .i64 0), 1, 8) := by kernel_rfl

/-- A list of ints that the call made. -/
def Owns (w : World) (base : Nat) (v : Value) (xs : List Int) : Prop := w.ownsRow base 3 1 v xs.length (ic xs)

theorem Owns.push {w' : World} {base : Nat} {v' : Value} {xs : List Int} {x : Int} (h : w'.ownsRow base 3 1 v' (xs.length + 1) (ic xs ++ [.int .i64 x])) : Owns w' base v' (xs ++ [x]) := by
  unfold Owns
  rw [ic_append]
  simpa [ic] using h

set_option maxHeartbeats 1000000 in
theorem list_any (b a : Nat) (w : World) (ps : List (Int × Bool)) (hn : ps.length ≤ 64) (hs : SlotsAt w b a ps)
    (ht : ∀ j, j < ps.length → 0 ≤ (ps.getD j default).1 ∧ (ps.getD j default).1 ≤ 1000000) :
    Calls Try.prog 29 #[.pointer (some ⟨b, 0, none⟩)] w fun e w' => ∃ v, e = .returned v ∧ Owns w' w.heap.size v (nm ps ps.length) ∧ Below w.heap.size w w' := by
  have hb := hs.head
  have hlt := hs.lt
  obtain ⟨n, HN⟩ : ∃ n, Hid (ps.length = n) := ⟨_, Lib.hid rfl⟩
  rw [HN.out] at hb hn ht ⊢
  obtain ⟨i0, hi, hz0, hz1, hz2⟩ := info_parts info3
  go_enter Try.func29, Try.ntmps29
  go_wp2
  go_loopw [3, 4, 5, 11] (fun v _ _ x wr => ∃ k : Nat, k ≤ n ∧ x = .int .i64 k ∧ Owns wr w.heap.size v (nm ps k) ∧ Below w.heap.size w wr) (fun _ _ _ x _ => n - (intOf x).toNat)
  case atStart => exact ⟨0, by omega, rfl, World.ownsRow_nil _ _ _ _, Below.refl _ _⟩
  case round =>
    obtain ⟨k, hk, rfl, hown, hbel⟩ := hrel
    have hlen := nm_length ps k
    by_cases hkn : k < n
    · have hs' := hs.below hbel hlt.1 hlt.2
      have c1 := hs'.turn k (by rw [HN.out]; exact hkn)
      have c2 := hs'.taken k (by rw [HN.out]; exact hkn)
      have ht' := ht k hkn
      obtain ⟨t, HT⟩ : ∃ t : Int, Hid ((ps.getD k default).1 = t) := ⟨_, Lib.hid rfl⟩
      obtain ⟨d, HD⟩ : ∃ t : Bool, Hid ((ps.getD k default).2 = t) := ⟨_, Lib.hid rfl⟩
      rw [HT.out] at c1 ht'
      rw [HD.out] at c2
      obtain ⟨t0, t1⟩ := ht'
      have hsz := hbel.size
      clear ht
      cases d with
      | false =>
        have HF := Lib.hid (nm_free ps k HD.out)
        go_wp2
        go_roundw
        case rel => exact ⟨k + 1, by omega, by go_num, by rw [HF.out]; exact (World.ownsRow.alloc hown _), hbel.alloc hsz _⟩
        case measure => simp [intOf]; omega
      | true =>
        have HF := Lib.hid (nm_taken ps k HD.out)
        rw [HT.out] at HF
        unfold Owns at hown
        go_wp2_with (at_builtin; refine wpList_append_own _ rfl _ _ 22 rfl w.heap.size 3 i0 (.int .i64 0) 1 8 Try.underlying22 hi hz0 hz1 hz2 rfl (by decide) _ _ _ rfl ((hown.alloc _).alloc _) ⟨wr.heap.size + 1, 0, none⟩ 1 1 [.int .i64 (k + 64 * (t - 1))] rfl rfl ?c1 ?c2 ?c3 ?c4 ?c5 ?_)
        case c1 => exact one_new _ _ _ _ (by simp)
        case c2 => intro u hu; simp only [List.mem_singleton] at hu; subst hu; rfl
        case c3 => unfold maxLen; omega
        case c4 => omega
        case c5 => simp; omega
        intro v' w1 hown' hgrow _
        have hbel' : Below w.heap.size w w1 := Below.grown ((hbel.alloc hsz _).alloc (by simp; omega) _) hgrow (by simp; omega) (fun g hg => (hown.lt g hg).1)
        have hown2 : Owns w1 w.heap.size v' (nm ps (k + 1)) := by rw [HF.out]; exact Owns.push hown'
        have HO := Lib.hid hown2
        clear hown' hgrow hown2
        go_wp2
        go_roundw
        case rel => exact ⟨k + 1, by omega, by go_num, HO.out, hbel'⟩
        case measure => simp [intOf]; omega
    · obtain rfl : k = n := by omega
      have HO := Lib.hid hown
      clear ht hown
      go_wp2
      go_ret
      exact ⟨_, rfl, HO.out, hbel⟩

set_option maxHeartbeats 400000 in
theorem len_any (b a : Nat) (w : World) (ps : List (Int × Bool)) (hn : ps.length ≤ 64) (hs : SlotsAt w b a ps)
    (ht : ∀ j, j < ps.length → 0 ≤ (ps.getD j default).1 ∧ (ps.getD j default).1 ≤ 1000000) :
    Calls Try.prog 30 #[.pointer (some ⟨b, 0, none⟩)] w fun e w' => e = .returned (.int .i64 (nm ps ps.length).length) ∧ Below w.heap.size w w' := by
  have HL := list_any b a w ps hn hs ht
  generalize nm ps ps.length = l at HL ⊢
  clear hn hs ht
  go_enter Try.func30, Try.ntmps30
  go_wp2_with fail
  refine HL.mono ?_
  rintro e w' ⟨v, rfl, ho, hb⟩
  rcases ho.2 with ⟨rfl, h0⟩ | ⟨g, cap, cur, rfl, _⟩
  · go_wp2
    go_ret
    exact ⟨by simp [h0], hb⟩
  · go_wp2
    go_ret
    exact ⟨by simp, hb⟩

end Go.Proofs.Ytjnmdkdgkjakoaa
