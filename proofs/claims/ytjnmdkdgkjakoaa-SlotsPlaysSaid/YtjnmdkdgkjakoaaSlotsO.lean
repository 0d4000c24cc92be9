/- Contracts of the document's own names: NewNames, Has, Free, All. -/
import Derived.Test.YtjnmdkdgkjakoaaSlotsN
namespace Go.Proofs.Ytjnmdkdgkjakoaa
open Go.RowKit
set_option linter.unusedVariables false
set_option linter.unusedSimpArgs false

theorem rtake_w (b a c : Nat) (w : World) (ps : List (Int × Bool)) (hs : NamesAt w b a c ps) (hz : Sized ps) (B : Nat) (hB : B ≤ a) (hC : B ≤ c) :
    Calls Try.prog 32 #[.pointer (some ⟨b, 0, none⟩)] w fun e w' => e = .returned (.tuple #[.int .i64 (takeP ps).1, .int .i64 (takeP ps).2.1]) ∧
      NamesAt w' b a c (takeP ps).2.2 ∧ w'.heap.size = w.heap.size ∧ Below B w w' ∧ (∀ k, k ≠ a → k ≠ c → w'.heap[k]? = w.heap[k]?) := by
  cases hf : ps.findIdx? (fun p => !p.2) with
  | none =>
    have e : takeP ps = (0, 3, ps) := by unfold takeP; rw [hf]
    rw [e]
    refine (rtake_miss b a c w ps hz.1 hs ?_).mono ?_
    · intro j hj
      have := List.findIdx?_eq_none_iff.1 hf (ps[j]) (List.getElem_mem hj)
      rw [getD_of hj]
      simpa using this
    · rintro e w' ⟨rfl, rfl⟩
      exact ⟨rfl, hs, rfl, Below.refl _ _, fun _ _ _ => rfl⟩
  | some i =>
    have e : takeP ps = ((i : Int) + 64 * (ps.getD i default).1, 0, ps.set i ((ps.getD i default).1 + 1, true)) := by unfold takeP; rw [hf]
    obtain ⟨hi, h1, h2⟩ := List.findIdx?_eq_some_iff_getElem.1 hf
    have ht := hz.2 i hi
    rw [e]
    refine (rtake_hit b a c i w ps hz.1 hs hi ?_ ?_ _ ht.1 ht.2 rfl).mono ?_
    · rw [getD_of hi]; simpa using h1
    · intro j hj
      have := h2 j hj
      rw [getD_of (by omega)]
      simpa using this
    · rintro e w' ⟨rfl, rfl⟩
      exact ⟨rfl, hs.put i hi _ _, by simp, ((Below.refl _ _).setCell hC _).setCell hB _, fun k h1 h2 => by rw [Below.heap_setCell _ _ _ _ h1, Below.heap_setCell _ _ _ _ h2]⟩

theorem rhas_neg (p : Value) (id : Int) (w : World) (h : id < 0) :
    Calls Try.prog 35 #[p, .int .i64 id] w fun e w' => e = .returned (.bool false) ∧ w = w' := by
  go_enter Try.func35, Try.ntmps35
  go_wp2
  go_ret
  exact ⟨rfl, rfl⟩

set_option maxHeartbeats 400000 in
theorem rhas_pos (b a c : Nat) (id : Int) (w : World) (ps : List (Int × Bool)) (hn : ps.length ≤ 64) (hs : NamesAt w b a c ps)
    (h0 : 0 ≤ id) (h2 : id ≤ 9223372036854775807) (ht : ∀ j, j < ps.length → 0 ≤ (ps.getD j default).1 ∧ (ps.getD j default).1 ≤ 1000000) :
    Calls Try.prog 35 #[.pointer (some ⟨b, 0, none⟩), .int .i64 id] w fun e w' => e = .returned (.bool (hasB ps id)) ∧ w = w' := by
  have hb0 := hs.head0
  have hb1 := hs.head1
  obtain ⟨n, HN⟩ : ∃ n, Hid (ps.length = n) := ⟨_, Lib.hid rfl⟩
  rw [HN.out] at hb0 hb1 hn ht
  have hg : hasB ps id = (decide ((id % 64).toNat < n) && ((ps.getD (id % 64).toNat default).2 && ((ps.getD (id % 64).toNat default).1 - 1 == id / 64))) := by
    unfold hasB
    rw [decide_eq_true h0, HN.out]
    rfl
  rw [hg]
  clear hg
  by_cases hlt : (id % 64).toNat < n
  · have c1 := hs.turn _ (by rw [HN.out]; exact hlt)
    have c2 := hs.out _ (by rw [HN.out]; exact hlt)
    obtain ⟨t, HT⟩ : ∃ t : Int, Hid ((ps.getD (id % 64).toNat default).1 = t) := ⟨_, Lib.hid rfl⟩
    obtain ⟨d, HD⟩ : ∃ t : Bool, Hid ((ps.getD (id % 64).toNat default).2 = t) := ⟨_, Lib.hid rfl⟩
    have ht' := ht _ hlt
    rw [HT.out] at c1 ht'
    rw [HD.out] at c2
    rw [HT.out, HD.out]
    obtain ⟨k1, k2⟩ := ht'
    clear ht
    have hlt' : id % 64 < (n : Int) := by omega
    cases d with
    | false =>
      go_enter Try.func35, Try.ntmps35
      go_wp2
      go_ret
      exact ⟨by simp, rfl⟩
    | true =>
      go_enter Try.func35, Try.ntmps35
      go_wp2
      go_ret
      exact ⟨by simp [hlt], rfl⟩
  · clear ht
    have hlt' : decide (id % 64 < (n : Int)) = false := decide_eq_false (by omega)
    go_enter Try.func35, Try.ntmps35
    go_wp2
    go_ret
    exact ⟨by simp [hlt], rfl⟩

end Go.Proofs.Ytjnmdkdgkjakoaa
