/- The law SlotsPlays at any number and any list. -/
import Derived.Test.YtjnmdkdgkjakoaaSlotsPl
namespace Go.Proofs.Ytjnmdkdgkjakoaa
open Go.RowKit

theorem range64 {x : Int} (h : (Lit.int .i64 x).wf = true) : -9223372036854775808 ≤ x ∧ x ≤ 9223372036854775807 := by
  simp [Lit.wf, IntKind.min, IntKind.max, IntKind.signed, IntKind.bits] at h
  omega

theorem plays_any (m : Int) (n cap : Nat) (a : Option Addr) (xs : List Int) (w : World) (hm : (Lit.int .i64 m).wf = true) (hx : RowAt w a n xs) (hr : ∀ j, j < n → (Lit.int .i64 (xs.getD j 0)).wf = true) :
    Calls Try.prog 8 #[.int .i64 m, .slice a n cap] w fun e w' => e = .returned (.bool true) ∧ Below w.heap.size w w' := by
  by_cases h : n ≤ 200
  · exact plays_short m n cap a xs w h hx (fun j hj => range64 (hr j hj)) (range64 hm).1 (range64 hm).2
  · exact plays_long m n cap a w (by omega)

theorem wf_getD {xs : List Int} (h : ∀ x ∈ xs, (Lit.int .i64 x).wf = true) (j : Nat) (hj : j < xs.length) : (Lit.int .i64 (xs.getD j 0)).wf = true := by
  rw [List.getD_eq_getElem?_getD, List.getElem?_eq_getElem hj]
  exact h _ (List.getElem_mem hj)

end Go.Proofs.Ytjnmdkdgkjakoaa
