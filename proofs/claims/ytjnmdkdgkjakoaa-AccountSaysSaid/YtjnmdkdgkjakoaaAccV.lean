/- Two small laws of division. -/
import Derived.Test.YtjnmdkdgkjakoaaAccS
import Derived.Test.YtjnmdkdgkjakoaaAccE
namespace Go.Proofs.Ytjnmdkdgkjakoaa
open Go.RowKit
set_option linter.unusedVariables false
set_option linter.unusedSimpArgs false

theorem div_yes {n p : Int} (h0 : 0 < p) (h : p ≤ n) : 0 < n / p := by
  have := Int.le_ediv_of_mul_le (a := 1) (b := n) (c := p) h0 (by omega)
  omega
theorem div_no {n p : Int} (h0 : 0 ≤ n) (h : n < p) : n / p = 0 := Int.ediv_eq_zero_of_lt h0 h

end Go.Proofs.Ytjnmdkdgkjakoaa
