/- The law AccountUses at any three numbers. -/
import Derived.Test.YtjnmdkdgkjakoaaAccUsesF
namespace Go.Proofs.Ytjnmdkdgkjakoaa
open Go.RowKit

theorem accountUses_any (q p n : Int) (w : World) :
    Calls Try.prog 12 #[.int .i64 q, .int .i64 p, .int .i64 n] w fun e w' => e = .returned (.bool true) ∧ Below w.heap.size w w' := by
  rcases three q p q 0 with h | h | h
  · by_cases hn : n < 0 ∨ 400 < n
    · exact uses_out q p n w (newP_full h) hn
    · obtain ⟨m, rfl⟩ : ∃ m : Nat, n = m := ⟨n.toNat, by omega⟩
      exact uses_full q p m w h (by omega)
  · obtain ⟨rfl, rfl⟩ : q = 0 ∧ p = 0 := by unfold FreeA at h; omega
    by_cases hn : n < 0 ∨ 400 < n
    · exact uses_out 0 0 n w (by decide) hn
    · obtain ⟨m, rfl⟩ : ∃ m : Nat, n = m := ⟨n.toNat, by omega⟩
      exact uses_free m w (by omega)
  · exact uses_refused q p n w h

end Go.Proofs.Ytjnmdkdgkjakoaa
