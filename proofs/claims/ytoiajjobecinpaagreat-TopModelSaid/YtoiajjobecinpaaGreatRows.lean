/-
  No cell of these rows narrows 'for every input' (looked for: loops, veiled, ifaces, maps, wideKeys, modest, calm, conditions, laid).
  DERIVED. THE GIVEN ROWS OF THIS SEAT. 6 by the template 'for every input the law returns true; each argument reads behind the call as it read before'; 0 by the template 'total and deterministic' (their statements: YtoiajjobecinpaaGreatTotals.lean).
  GIVEN WITH THE SEED: the statements are not yours to turn. If you find one false, say at which input.
  Laid BY PROGRAM, IN A SANDBOX (cutbox-rows.mjs): the forced cells as the released guide's own fill.sh prints them over the translation 0b42fecb6de99ecd… (all of the seat's roots in one cut). By AI agents, Wed Nov 11 2026. No macro, syntax, notation, axiom, sorry.
-/
import Derived.Test.YtoiajjobecinpaaGreatChecked
import GoSem.Claim
import GoSem.ClaimJoined
import GoSem.ClaimMapViews
import Derived.JoinedTies
import Derived.KernelRfl
namespace Go.Proofs.YtoiajjobecinpaaGreat
/- THE CELL 'sum', in the pinned program and in every row, IS THE sha256 OF THE DUMP (.gsa) THAT YtoiajjobecinpaaGreatProg.lean LOADS. Nothing in Lean hashes anything: it is a label: what it is worth is what the hold of that sum in a sandbox is worth. -/
noncomputable def Tryz.pinned : Pinned := { name := "ytoiajjobecinpaagreat", sum := "0b42fecb6de99ecdde5bb3c83bb669237faba3fe22e0436a5e70177d9edca58e", checked := Tryz.checked }
namespace Rows
def none {H : Type} : Left H := { results := [], args := [] }

/-- 'stadholdertop.TopModel': WHATEVER THE INPUT: true; the input reads as it did. -/
def topModelSpec : ChangeSpec := { name := "topModel", fn := fun _ => fun
  | [d1, d2] => { results := [.lit (.bool true)], args := [d1, d2] }
  | _ => none }
def topModelRow : OpenClaim := { program := "ytoiajjobecinpaagreat", sum := "0b42fecb6de99ecdde5bb3c83bb669237faba3fe22e0436a5e70177d9edca58e", func := "stadholder/stadholdertop.TopModel", spec := "topModel", unfollowed := true, recurses := true, apart := false }
def TopModelSaid : Prop := topModelRow.holds Tryz.pinned (OpenSpec.ofChange topModelSpec)

/-- ITS FALSE NEIGHBOUR: 'it returns false'. Refute it at one input. -/
def topModelWrong : ChangeSpec := { name := "topModel", fn := fun _ => fun
  | [d1, d2] => { results := [.lit (.bool false)], args := [d1, d2] }
  | _ => none }
def TopModelWrongFalsely : Prop := topModelRow.holds Tryz.pinned (OpenSpec.ofChange topModelWrong)

/-- 'stadholdertop.TopShares': WHATEVER THE INPUT: true; the input reads as it did. -/
def topSharesSpec : ChangeSpec := { name := "topShares", fn := fun _ => fun
  | [d1, d2, d3, d4, d5] => { results := [.lit (.bool true)], args := [d1, d2, d3, d4, d5] }
  | _ => none }
def topSharesRow : OpenClaim := { program := "ytoiajjobecinpaagreat", sum := "0b42fecb6de99ecdde5bb3c83bb669237faba3fe22e0436a5e70177d9edca58e", func := "stadholder/stadholdertop.TopShares", spec := "topShares", unfollowed := true, recurses := true, apart := false }
def TopSharesSaid : Prop := topSharesRow.holds Tryz.pinned (OpenSpec.ofChange topSharesSpec)

/-- ITS FALSE NEIGHBOUR: 'it returns false'. Refute it at one input. -/
def topSharesWrong : ChangeSpec := { name := "topShares", fn := fun _ => fun
  | [d1, d2, d3, d4, d5] => { results := [.lit (.bool false)], args := [d1, d2, d3, d4, d5] }
  | _ => none }
def TopSharesWrongFalsely : Prop := topSharesRow.holds Tryz.pinned (OpenSpec.ofChange topSharesWrong)

/-- 'stadholdertop.TopCares': WHATEVER THE INPUT: true; the input reads as it did. -/
def topCaresSpec : ChangeSpec := { name := "topCares", fn := fun _ => fun
  | [d1, d2] => { results := [.lit (.bool true)], args := [d1, d2] }
  | _ => none }
def topCaresRow : OpenClaim := { program := "ytoiajjobecinpaagreat", sum := "0b42fecb6de99ecdde5bb3c83bb669237faba3fe22e0436a5e70177d9edca58e", func := "stadholder/stadholdertop.TopCares", spec := "topCares", unfollowed := true, recurses := true, apart := false }
def TopCaresSaid : Prop := topCaresRow.holds Tryz.pinned (OpenSpec.ofChange topCaresSpec)

/-- ITS FALSE NEIGHBOUR: 'it returns false'. Refute it at one input. -/
def topCaresWrong : ChangeSpec := { name := "topCares", fn := fun _ => fun
  | [d1, d2] => { results := [.lit (.bool false)], args := [d1, d2] }
  | _ => none }
def TopCaresWrongFalsely : Prop := topCaresRow.holds Tryz.pinned (OpenSpec.ofChange topCaresWrong)

/-- 'stadholdertop.TopOwed': WHATEVER THE INPUT: true; the input reads as it did. -/
def topOwedSpec : ChangeSpec := { name := "topOwed", fn := fun _ => fun
  | [d1, d2] => { results := [.lit (.bool true)], args := [d1, d2] }
  | _ => none }
def topOwedRow : OpenClaim := { program := "ytoiajjobecinpaagreat", sum := "0b42fecb6de99ecdde5bb3c83bb669237faba3fe22e0436a5e70177d9edca58e", func := "stadholder/stadholdertop.TopOwed", spec := "topOwed", unfollowed := true, recurses := true, apart := false }
def TopOwedSaid : Prop := topOwedRow.holds Tryz.pinned (OpenSpec.ofChange topOwedSpec)

/-- ITS FALSE NEIGHBOUR: 'it returns false'. Refute it at one input. -/
def topOwedWrong : ChangeSpec := { name := "topOwed", fn := fun _ => fun
  | [d1, d2] => { results := [.lit (.bool false)], args := [d1, d2] }
  | _ => none }
def TopOwedWrongFalsely : Prop := topOwedRow.holds Tryz.pinned (OpenSpec.ofChange topOwedWrong)

/-- 'stadholdertop.TopShape': WHATEVER THE INPUT: true; the input reads as it did. -/
def topShapeSpec : ChangeSpec := { name := "topShape", fn := fun _ => fun
  | [d1, d2] => { results := [.lit (.bool true)], args := [d1, d2] }
  | _ => none }
def topShapeRow : OpenClaim := { program := "ytoiajjobecinpaagreat", sum := "0b42fecb6de99ecdde5bb3c83bb669237faba3fe22e0436a5e70177d9edca58e", func := "stadholder/stadholdertop.TopShape", spec := "topShape", unfollowed := true, recurses := true, apart := false }
def TopShapeSaid : Prop := topShapeRow.holds Tryz.pinned (OpenSpec.ofChange topShapeSpec)

/-- ITS FALSE NEIGHBOUR: 'it returns false'. Refute it at one input. -/
def topShapeWrong : ChangeSpec := { name := "topShape", fn := fun _ => fun
  | [d1, d2] => { results := [.lit (.bool false)], args := [d1, d2] }
  | _ => none }
def TopShapeWrongFalsely : Prop := topShapeRow.holds Tryz.pinned (OpenSpec.ofChange topShapeWrong)

/-- 'stadholdertop.TopOne': WHATEVER THE INPUT: true; the input reads as it did. -/
def topOneSpec : ChangeSpec := { name := "topOne", fn := fun _ => fun
  | [d1, d2, d3, d4] => { results := [.lit (.bool true)], args := [d1, d2, d3, d4] }
  | _ => none }
def topOneRow : OpenClaim := { program := "ytoiajjobecinpaagreat", sum := "0b42fecb6de99ecdde5bb3c83bb669237faba3fe22e0436a5e70177d9edca58e", func := "stadholder/stadholdertop.TopOne", spec := "topOne", unfollowed := true, recurses := true, apart := false }
def TopOneSaid : Prop := topOneRow.holds Tryz.pinned (OpenSpec.ofChange topOneSpec)

/-- ITS FALSE NEIGHBOUR: 'it returns false'. Refute it at one input. -/
def topOneWrong : ChangeSpec := { name := "topOne", fn := fun _ => fun
  | [d1, d2, d3, d4] => { results := [.lit (.bool false)], args := [d1, d2, d3, d4] }
  | _ => none }
def TopOneWrongFalsely : Prop := topOneRow.holds Tryz.pinned (OpenSpec.ofChange topOneWrong)

/- THE SECOND FORM. 'bulk': how many values and letters a reading holds, each counted each time it is reached (what is shared counts as often as it is met; a slice's spare places count too). A statement '..UptoSaid' is the law's where the arguments, and the package variables that the reading takes, are together of bulk at most 1048576: NARROWER than '..Said'. Prove '..Said' where nothing that the law and all that it calls make is longer than what came in: it says more and counts as full. Else prove '..UptoSaid'. A law counts once. -/
mutual
def uptoBulk {H : Type} : DataW H → Nat
  | .lit (.string bytes) => bytes.length + 1
  | .lit _ => 1
  | .nil => 1
  | .ptr d => uptoBulk d + 1
  | .slice elems spare => uptoBulkAll elems + uptoBulkAll spare + 1
  | .agg parts => uptoBulkAll parts + 1
  | .iface _ d => uptoBulk d + 1
  | .map entries => uptoBulkEntries entries + 1
  | .held _ => 1
def uptoBulkAll {H : Type} : List (DataW H) → Nat
  | [] => 0
  | d :: r => uptoBulk d + uptoBulkAll r
def uptoBulkEntries {H : Type} : List (Lit × DataW H) → Nat
  | [] => 0
  | x :: r => uptoBulkEntry x + uptoBulkEntries r
def uptoBulkEntry {H : Type} : Lit × DataW H → Nat
  | (.string bytes, d) => bytes.length + uptoBulk d + 1
  | (_, d) => uptoBulk d + 1
 end
def uptoSmall : (H : Type) → List (DataW H) → Bool := fun _ ds => decide (uptoBulkAll ds ≤ 1048576)
def OpenSpec.upto (s : _root_.Go.ChangeSpec) : _root_.Go.OpenSpec := { _root_.Go.OpenSpec.ofChange s with cond := some uptoSmall }

/-- 'stadholdertop.TopModel', WHERE WHAT IT READS IS OF BULK AT MOST 1048576: true; the input reads as it did. -/
def topModelUptoRow : OpenClaim := { program := "ytoiajjobecinpaagreat", sum := "0b42fecb6de99ecdde5bb3c83bb669237faba3fe22e0436a5e70177d9edca58e", func := "stadholder/stadholdertop.TopModel", spec := "topModel", unfollowed := true, recurses := true, apart := false, narrowed := true }
def TopModelUptoSaid : Prop := topModelUptoRow.holds Tryz.pinned (OpenSpec.upto topModelSpec)

/-- 'stadholdertop.TopShares', WHERE WHAT IT READS IS OF BULK AT MOST 1048576: true; the input reads as it did. -/
def topSharesUptoRow : OpenClaim := { program := "ytoiajjobecinpaagreat", sum := "0b42fecb6de99ecdde5bb3c83bb669237faba3fe22e0436a5e70177d9edca58e", func := "stadholder/stadholdertop.TopShares", spec := "topShares", unfollowed := true, recurses := true, apart := false, narrowed := true }
def TopSharesUptoSaid : Prop := topSharesUptoRow.holds Tryz.pinned (OpenSpec.upto topSharesSpec)

/-- 'stadholdertop.TopCares', WHERE WHAT IT READS IS OF BULK AT MOST 1048576: true; the input reads as it did. -/
def topCaresUptoRow : OpenClaim := { program := "ytoiajjobecinpaagreat", sum := "0b42fecb6de99ecdde5bb3c83bb669237faba3fe22e0436a5e70177d9edca58e", func := "stadholder/stadholdertop.TopCares", spec := "topCares", unfollowed := true, recurses := true, apart := false, narrowed := true }
def TopCaresUptoSaid : Prop := topCaresUptoRow.holds Tryz.pinned (OpenSpec.upto topCaresSpec)

/-- 'stadholdertop.TopOwed', WHERE WHAT IT READS IS OF BULK AT MOST 1048576: true; the input reads as it did. -/
def topOwedUptoRow : OpenClaim := { program := "ytoiajjobecinpaagreat", sum := "0b42fecb6de99ecdde5bb3c83bb669237faba3fe22e0436a5e70177d9edca58e", func := "stadholder/stadholdertop.TopOwed", spec := "topOwed", unfollowed := true, recurses := true, apart := false, narrowed := true }
def TopOwedUptoSaid : Prop := topOwedUptoRow.holds Tryz.pinned (OpenSpec.upto topOwedSpec)

/-- 'stadholdertop.TopShape', WHERE WHAT IT READS IS OF BULK AT MOST 1048576: true; the input reads as it did. -/
def topShapeUptoRow : OpenClaim := { program := "ytoiajjobecinpaagreat", sum := "0b42fecb6de99ecdde5bb3c83bb669237faba3fe22e0436a5e70177d9edca58e", func := "stadholder/stadholdertop.TopShape", spec := "topShape", unfollowed := true, recurses := true, apart := false, narrowed := true }
def TopShapeUptoSaid : Prop := topShapeUptoRow.holds Tryz.pinned (OpenSpec.upto topShapeSpec)

/-- 'stadholdertop.TopOne', WHERE WHAT IT READS IS OF BULK AT MOST 1048576: true; the input reads as it did. -/
def topOneUptoRow : OpenClaim := { program := "ytoiajjobecinpaagreat", sum := "0b42fecb6de99ecdde5bb3c83bb669237faba3fe22e0436a5e70177d9edca58e", func := "stadholder/stadholdertop.TopOne", spec := "topOne", unfollowed := true, recurses := true, apart := false, narrowed := true }
def TopOneUptoSaid : Prop := topOneUptoRow.holds Tryz.pinned (OpenSpec.upto topOneSpec)

end Rows
end Go.Proofs.YtoiajjobecinpaaGreat
