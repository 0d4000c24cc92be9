/- The slots, the names of the reference and the map of what was given, side by side in one world. -/
import Derived.Test.YtjnmdkdgkjakoaaSlotsP
import Derived.Maps.Own
namespace Go.Proofs.Ytjnmdkdgkjakoaa
open Go.RowKit
set_option linter.unusedVariables false
set_option linter.unusedSimpArgs false

/-- Where the blocks lie: the slots below N, the names below M, the map from M on. -/
structure Lies (base b a b' a' c' g N M : Nat) : Prop where
  h1 : base ≤ b
  h2 : base ≤ a
  h3 : b < N
  h4 : a < N
  h5 : N ≤ b'
  h6 : N ≤ a'
  h7 : N ≤ c'
  h8 : b' < M
  h9 : a' < M
  hx : c' < M
  hy : M ≤ g

/-- The three, at once. -/
structure Play (w0 : World) (b a b' a' c' g n : Nat) (ps qs : List (Int × Bool)) (D : DataW Unit) (W : World) : Prop where
  hs : SlotsAt W b a ps
  hn : NamesAt W b' a' c' qs
  hm : W.ownsMap Try.prog 3 (plainElem Try.prog 4) g n D
  hb : Below w0.heap.size w0 W

theorem SlotsAt.same {w w' : World} {b a : Nat} {ps : List (Int × Bool)} (h : SlotsAt w b a ps) (hb : w'.heap[b]? = w.heap[b]?) (ha : w'.heap[a]? = w.heap[a]?) : SlotsAt w' b a ps := by
  obtain ⟨h1, h2, T, h3⟩ := h
  refine ⟨?_, h2, T, by rw [ha]; exact h3⟩
  rw [← h1]
  simp only [World.cell?, hb]

theorem NamesAt.same {w w' : World} {b a c : Nat} {ps : List (Int × Bool)} (h : NamesAt w b a c ps) (hb : w'.heap[b]? = w.heap[b]?) (ha : w'.heap[a]? = w.heap[a]?) (hc : w'.heap[c]? = w.heap[c]?) : NamesAt w' b a c ps := by
  obtain ⟨h1, h2, h3, h4, h5, ⟨T, h6⟩, ⟨U, h7⟩⟩ := h
  refine ⟨?_, ?_, h3, h4, h5, ⟨T, by rw [ha]; exact h6⟩, ⟨U, by rw [hc]; exact h7⟩⟩
  · rw [← h1]
    simp only [World.cell?, hb]
  · rw [← h2]
    simp only [World.cell?, hb]

theorem own_same {w w' : World} {g n : Nat} {D : DataW Unit} (h : w.ownsMap Try.prog 3 (plainElem Try.prog 4) g n D) (hg : w'.heap[g]? = w.heap[g]?) : w'.ownsMap Try.prog 3 (plainElem Try.prog 4) g n D := by
  obtain ⟨es, clock, hb, F, hs, hD⟩ := h
  exact ⟨es, clock, hg.trans hb, F, hs, hD⟩

theorem Play.kept {w0 W w1 : World} {b a b' a' c' g n : Nat} {ps qs : List (Int × Bool)} {D : DataW Unit} (h : Play w0 b a b' a' c' g n ps qs D W) (hb : Below W.heap.size W w1) : Play w0 b a b' a' c' g n ps qs D w1 :=
  ⟨h.hs.below hb h.hs.lt.1 h.hs.lt.2, h.hn.below hb h.hn.lt.1 h.hn.lt.2.1 h.hn.lt.2.2, own_same h.hm (hb.block g h.hm.lt), h.hb.trans (hb.mono h.hb.size)⟩

theorem Play.drew {w0 W : World} {b a b' a' c' g n : Nat} {ps qs : List (Int × Bool)} {D : DataW Unit} (h : Play w0 b a b' a' c' g n ps qs D W) : Play w0 b a b' a' c' g n ps qs D W.drew :=
  h.kept (Below.refl _ _).drew

section
variable {w0 W : World} {b a b' a' c' g n N M : Nat} {ps qs : List (Int × Bool)} {D : DataW Unit}

theorem pl_take (L : Lies w0.heap.size b a b' a' c' g N M) (h : Play w0 b a b' a' c' g n ps qs D W) (hz : Sized ps) :
    Calls Try.prog 24 #[.pointer (some ⟨b, 0, none⟩)] W fun e w' => e = .returned (.tuple #[.int .i64 (takeP ps).1, .int .i64 (takeP ps).2.1]) ∧
      Play w0 b a b' a' c' g n (takeP ps).2.2 qs D w' := by
  have f1 := L.h1; have f2 := L.h2; have f3 := L.h3; have f4 := L.h4; have f5 := L.h5; have f6 := L.h6; have f7 := L.h7; have f8 := L.h8; have f9 := L.h9; have fx := L.hx; have fy := L.hy
  have key : ∀ w', SlotsAt w' b a (takeP ps).2.2 → Below w0.heap.size W w' → (∀ k, k ≠ a → w'.heap[k]? = W.heap[k]?) → Play w0 b a b' a' c' g n (takeP ps).2.2 qs D w' := fun w' k1 k2 k3 =>
    ⟨k1, h.hn.same (k3 _ (by omega)) (k3 _ (by omega)) (k3 _ (by omega)), own_same h.hm (k3 _ (by omega)), h.hb.trans k2⟩
  revert key
  cases hf : ps.findIdx? (fun p => !p.2) with
  | none =>
    have e : takeP ps = (0, 3, ps) := by unfold takeP; rw [hf]
    rw [e]
    intro key
    refine (take_miss b a W ps hz.1 h.hs ?_).mono ?_
    · intro j hj
      have := List.findIdx?_eq_none_iff.1 hf (ps[j]) (List.getElem_mem hj)
      rw [getD_of hj]
      simpa using this
    · rintro e w' ⟨rfl, rfl⟩
      exact ⟨rfl, key _ h.hs (Below.refl _ _) fun _ _ => rfl⟩
  | some i =>
    have e : takeP ps = ((i : Int) + 64 * (ps.getD i default).1, 0, ps.set i ((ps.getD i default).1 + 1, true)) := by unfold takeP; rw [hf]
    obtain ⟨hi, h1, h2⟩ := List.findIdx?_eq_some_iff_getElem.1 hf
    have ht := hz.2 i hi
    rw [e]
    intro key
    refine (take_hit b a i W ps hz.1 h.hs hi ?_ ?_ _ ht.1 ht.2 rfl).mono ?_
    · rw [getD_of hi]; simpa using h1
    · intro j hj
      have := h2 j hj
      rw [getD_of (by omega)]
      simpa using this
    · rintro e w' ⟨rfl, rfl⟩
      exact ⟨rfl, key _ (h.hs.set i hi _ _) (((Below.refl _ _).setCell f2 _).setCell f2 _) fun k hk => by rw [Below.heap_setCell _ _ _ _ hk, Below.heap_setCell _ _ _ _ hk]⟩

theorem pl_free (L : Lies w0.heap.size b a b' a' c' g N M) (h : Play w0 b a b' a' c' g n ps qs D W) (hz : Sized ps) (id : Int) (h2 : id ≤ 9223372036854775807) :
    Calls Try.prog 25 #[.pointer (some ⟨b, 0, none⟩), .int .i64 id] W fun e w' => e = .returned (.int .i64 (freeP ps id).1) ∧
      Play w0 b a b' a' c' g n (freeP ps id).2 qs D w' := by
  have f1 := L.h1; have f2 := L.h2; have f3 := L.h3; have f4 := L.h4; have f5 := L.h5; have f6 := L.h6; have f7 := L.h7; have f8 := L.h8; have f9 := L.h9; have fx := L.hx; have fy := L.hy
  have key : ∀ w' rs, SlotsAt w' b a rs → Below w0.heap.size W w' → (∀ k, k ≠ a → w'.heap[k]? = W.heap[k]?) → Play w0 b a b' a' c' g n rs qs D w' := fun w' rs k1 k2 k3 =>
    ⟨k1, h.hn.same (k3 _ (by omega)) (k3 _ (by omega)) (k3 _ (by omega)), own_same h.hm (k3 _ (by omega)), h.hb.trans k2⟩
  refine (free_any b a id W ps hz.1 h.hs h2 hz.2).mono ?_
  rintro e w' ⟨rfl, rfl⟩
  unfold freeP
  by_cases hh : hasB ps id = true
  · simp only [if_pos hh]
    have g := hh
    unfold hasB at g
    simp only [Bool.and_eq_true, decide_eq_true_eq] at g
    exact ⟨trivial, key _ _ (h.hs.free _ g.2.1) ((Below.refl _ _).setCell f2 _) fun k hk => Below.heap_setCell _ _ _ _ hk⟩
  · simp only [if_neg hh]
    exact ⟨trivial, h⟩

theorem pl_rtake (L : Lies w0.heap.size b a b' a' c' g N M) (h : Play w0 b a b' a' c' g n ps qs D W) (hz : Sized qs) :
    Calls Try.prog 32 #[.pointer (some ⟨b', 0, none⟩)] W fun e w' => e = .returned (.tuple #[.int .i64 (takeP qs).1, .int .i64 (takeP qs).2.1]) ∧
      Play w0 b a b' a' c' g n ps (takeP qs).2.2 D w' := by
  have f1 := L.h1; have f2 := L.h2; have f3 := L.h3; have f4 := L.h4; have f5 := L.h5; have f6 := L.h6; have f7 := L.h7; have f8 := L.h8; have f9 := L.h9; have fx := L.hx; have fy := L.hy
  refine (rtake_w b' a' c' W qs h.hn hz w0.heap.size (by omega) (by omega)).mono ?_
  rintro e w' ⟨rfl, k1, -, k2, k3⟩
  exact ⟨rfl, h.hs.same (k3 _ (by omega) (by omega)) (k3 _ (by omega) (by omega)), k1, own_same h.hm (k3 _ (by omega) (by omega)), h.hb.trans k2⟩

theorem pl_rfree (L : Lies w0.heap.size b a b' a' c' g N M) (h : Play w0 b a b' a' c' g n ps qs D W) (hz : Sized qs) (id : Int) (h2 : id ≤ 9223372036854775807) :
    Calls Try.prog 33 #[.pointer (some ⟨b', 0, none⟩), .int .i64 id] W fun e w' => e = .returned (.int .i64 (freeP qs id).1) ∧
      Play w0 b a b' a' c' g n ps (freeP qs id).2 D w' := by
  have f1 := L.h1; have f2 := L.h2; have f3 := L.h3; have f4 := L.h4; have f5 := L.h5; have f6 := L.h6; have f7 := L.h7; have f8 := L.h8; have f9 := L.h9; have fx := L.hx; have fy := L.hy
  refine (rfree_w b' a' c' id W qs h.hn hz w0.heap.size (by omega) h2).mono ?_
  rintro e w' ⟨rfl, k1, -, k2, k3⟩
  exact ⟨rfl, h.hs.same (k3 _ (by omega)) (k3 _ (by omega)), k1, own_same h.hm (k3 _ (by omega)), h.hb.trans k2⟩

theorem pl_list (h : Play w0 b a b' a' c' g n ps qs D W) (hz : Sized ps) :
    Calls Try.prog 29 #[.pointer (some ⟨b, 0, none⟩)] W fun e w' => ∃ v, e = .returned v ∧ Reads w' v (nm ps ps.length) ∧ Below W.heap.size W w' ∧ Play w0 b a b' a' c' g n ps qs D w' := by
  refine (list_any b a W ps hz.1 h.hs hz.2).mono ?_
  rintro e w' ⟨v, rfl, k1, k2⟩
  exact ⟨v, rfl, k1.reads, k2, h.kept k2⟩

theorem pl_all (h : Play w0 b a b' a' c' g n ps qs D W) (hz : Sized qs) :
    Calls Try.prog 34 #[.pointer (some ⟨b', 0, none⟩)] W fun e w' => ∃ v, e = .returned v ∧ Reads w' v (nm qs qs.length) ∧ Below W.heap.size W w' ∧ Play w0 b a b' a' c' g n ps qs D w' := by
  refine (rall_any b' a' c' W qs h.hn hz).mono ?_
  rintro e w' ⟨v, rfl, k1, k2⟩
  exact ⟨v, rfl, k1.reads, k2, h.kept k2⟩

theorem pl_len (h : Play w0 b a b' a' c' g n ps qs D W) (hz : Sized ps) :
    Calls Try.prog 30 #[.pointer (some ⟨b, 0, none⟩)] W fun e w' => e = .returned (.int .i64 (nm ps ps.length).length) ∧ Play w0 b a b' a' c' g n ps qs D w' := by
  refine (len_any b a W ps hz.1 h.hs hz.2).mono ?_
  rintro e w' ⟨rfl, k2⟩
  exact ⟨rfl, h.kept k2⟩

theorem pl_has (h : Play w0 b a b' a' c' g n ps qs D W) (hz : Sized ps) (id : Int) (h2 : id ≤ 9223372036854775807) :
    Calls Try.prog 27 #[.pointer (some ⟨b, 0, none⟩), .int .i64 id] W fun e w' => e = .returned (.bool (hasB ps id)) ∧ Play w0 b a b' a' c' g n ps qs D w' := by
  refine (has_w b a id W ps h.hs hz h2).mono ?_
  rintro e w' ⟨rfl, rfl⟩
  exact ⟨rfl, h⟩

theorem pl_rhas (h : Play w0 b a b' a' c' g n ps qs D W) (hz : Sized qs) (id : Int) (h2 : id ≤ 9223372036854775807) :
    Calls Try.prog 35 #[.pointer (some ⟨b', 0, none⟩), .int .i64 id] W fun e w' => e = .returned (.bool (hasB qs id)) ∧ Play w0 b a b' a' c' g n ps qs D w' := by
  refine (rhas_w b' a' c' id W qs h.hn hz h2).mono ?_
  rintro e w' ⟨rfl, rfl⟩
  exact ⟨rfl, h⟩

end

theorem Reads.kept {W w1 : World} {v : Value} {xs : List Int} (h : Reads W v xs) (hb : Below W.heap.size W w1) : Reads w1 v xs := by
  rcases h with ⟨rfl, rfl⟩ | ⟨g, cap, rfl, h⟩
  · exact .inl ⟨rfl, rfl⟩
  · refine .inr ⟨g, cap, rfl, fun i hi => ?_⟩
    have := h i hi
    exact (hb.cell (p := ⟨g, i, none⟩) (World.block_lt_of_cell? W _ this)).trans this

end Go.Proofs.Ytjnmdkdgkjakoaa
