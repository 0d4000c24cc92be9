/-
  No cell of these rows narrows 'for every input' (looked for: loops, veiled, ifaces, maps, wideKeys, modest, calm, conditions, laid).
  DERIVED. THE GIVEN ROWS OF THIS SEAT. 10 by the template 'for every input the law returns true; each argument reads behind the call as it read before'; 0 by the template 'total and deterministic' (their statements: YtjnmdkdgkjakoaaTotals.lean).
  GIVEN WITH THE SEED: the statements are not yours to turn. If you find one false, say at which input.
  Laid BY PROGRAM, IN A SANDBOX (cutbox-rows.mjs): the forced cells as the released guide's own fill.sh prints them over the translation a256b71dc8a59261… (all of the seat's roots in one cut). By AI agents, Wed Nov 11 2026. No macro, syntax, notation, axiom, sorry.
-/
import Derived.Test.YtjnmdkdgkjakoaaChecked
import GoSem.Claim
import GoSem.ClaimJoined
import GoSem.ClaimMapViews
import Derived.JoinedTies
import Derived.KernelRfl
namespace Go.Proofs.Ytjnmdkdgkjakoaa
/- THE CELL 'sum', in the pinned program and in every row, IS THE sha256 OF THE DUMP (.gsa) THAT YtjnmdkdgkjakoaaProg.lean LOADS. Nothing in Lean hashes anything: it is a label: what it is worth is what the hold of that sum in a sandbox is worth. -/
noncomputable def Try.pinned : Pinned := { name := "ytjnmdkdgkjakoaa", sum := "a256b71dc8a59261d747cfc1600c3b4458146c5dfb23c8d6ba0503619d4c6a60", checked := Try.checked }
namespace Rows
def none {H : Type} : Left H := { results := [], args := [] }

/-- 'stadholderlaw9.LifeReach': WHATEVER THE INPUT: true; the input reads as it did. -/
def lifeReachSpec : ChangeSpec := { name := "lifeReach", fn := fun _ => fun
  | [d] => { results := [.lit (.bool true)], args := [d] }
  | _ => none }
def lifeReachRow : OpenClaim := { program := "ytjnmdkdgkjakoaa", sum := "a256b71dc8a59261d747cfc1600c3b4458146c5dfb23c8d6ba0503619d4c6a60", func := "stadholder/stadholderlaw9.LifeReach", spec := "lifeReach", apart := false }
def LifeReachSaid : Prop := lifeReachRow.holds Try.pinned (OpenSpec.ofChange lifeReachSpec)

/-- ITS FALSE NEIGHBOUR: 'it returns false'. Refute it at one input. -/
def lifeReachWrong : ChangeSpec := { name := "lifeReach", fn := fun _ => fun
  | [d] => { results := [.lit (.bool false)], args := [d] }
  | _ => none }
def LifeReachWrongFalsely : Prop := lifeReachRow.holds Try.pinned (OpenSpec.ofChange lifeReachWrong)

/-- 'stadholderlaw9.LifeKnown': WHATEVER THE INPUT: true; the input reads as it did. -/
def lifeKnownSpec : ChangeSpec := { name := "lifeKnown", fn := fun _ => fun
  | [] => { results := [.lit (.bool true)], args := [] }
  | _ => none }
def lifeKnownRow : OpenClaim := { program := "ytjnmdkdgkjakoaa", sum := "a256b71dc8a59261d747cfc1600c3b4458146c5dfb23c8d6ba0503619d4c6a60", func := "stadholder/stadholderlaw9.LifeKnown", spec := "lifeKnown", apart := false }
def LifeKnownSaid : Prop := lifeKnownRow.holds Try.pinned (OpenSpec.ofChange lifeKnownSpec)

/-- ITS FALSE NEIGHBOUR: 'it returns false'. Refute it at one input. -/
def lifeKnownWrong : ChangeSpec := { name := "lifeKnown", fn := fun _ => fun
  | [] => { results := [.lit (.bool false)], args := [] }
  | _ => none }
def LifeKnownWrongFalsely : Prop := lifeKnownRow.holds Try.pinned (OpenSpec.ofChange lifeKnownWrong)

/-- 'stadholderlaw9.LifeRows': WHATEVER THE INPUT: true; the input reads as it did. -/
def lifeRowsSpec : ChangeSpec := { name := "lifeRows", fn := fun _ => fun
  | [d] => { results := [.lit (.bool true)], args := [d] }
  | _ => none }
def lifeRowsRow : OpenClaim := { program := "ytjnmdkdgkjakoaa", sum := "a256b71dc8a59261d747cfc1600c3b4458146c5dfb23c8d6ba0503619d4c6a60", func := "stadholder/stadholderlaw9.LifeRows", spec := "lifeRows", apart := false }
def LifeRowsSaid : Prop := lifeRowsRow.holds Try.pinned (OpenSpec.ofChange lifeRowsSpec)

/-- ITS FALSE NEIGHBOUR: 'it returns false'. Refute it at one input. -/
def lifeRowsWrong : ChangeSpec := { name := "lifeRows", fn := fun _ => fun
  | [d] => { results := [.lit (.bool false)], args := [d] }
  | _ => none }
def LifeRowsWrongFalsely : Prop := lifeRowsRow.holds Try.pinned (OpenSpec.ofChange lifeRowsWrong)

/-- 'stadholderlaw8.AccountTicks': WHATEVER THE INPUT: true; the input reads as it did. -/
def accountTicksSpec : ChangeSpec := { name := "accountTicks", fn := fun _ => fun
  | [d1, d2, d3] => { results := [.lit (.bool true)], args := [d1, d2, d3] }
  | _ => none }
def accountTicksRow : OpenClaim := { program := "ytjnmdkdgkjakoaa", sum := "a256b71dc8a59261d747cfc1600c3b4458146c5dfb23c8d6ba0503619d4c6a60", func := "stadholder/stadholderlaw8.AccountTicks", spec := "accountTicks", apart := false }
def AccountTicksSaid : Prop := accountTicksRow.holds Try.pinned (OpenSpec.ofChange accountTicksSpec)

/-- ITS FALSE NEIGHBOUR: 'it returns false'. Refute it at one input. -/
def accountTicksWrong : ChangeSpec := { name := "accountTicks", fn := fun _ => fun
  | [d1, d2, d3] => { results := [.lit (.bool false)], args := [d1, d2, d3] }
  | _ => none }
def AccountTicksWrongFalsely : Prop := accountTicksRow.holds Try.pinned (OpenSpec.ofChange accountTicksWrong)

/-- 'stadholderlaw6.SlotsKnown': WHATEVER THE INPUT: true; the input reads as it did. -/
def slotsKnownSpec : ChangeSpec := { name := "slotsKnown", fn := fun _ => fun
  | [] => { results := [.lit (.bool true)], args := [] }
  | _ => none }
def slotsKnownRow : OpenClaim := { program := "ytjnmdkdgkjakoaa", sum := "a256b71dc8a59261d747cfc1600c3b4458146c5dfb23c8d6ba0503619d4c6a60", func := "stadholder/stadholderlaw6.SlotsKnown", spec := "slotsKnown", apart := false }
def SlotsKnownSaid : Prop := slotsKnownRow.holds Try.pinned (OpenSpec.ofChange slotsKnownSpec)

/-- ITS FALSE NEIGHBOUR: 'it returns false'. Refute it at one input. -/
def slotsKnownWrong : ChangeSpec := { name := "slotsKnown", fn := fun _ => fun
  | [] => { results := [.lit (.bool false)], args := [] }
  | _ => none }
def SlotsKnownWrongFalsely : Prop := slotsKnownRow.holds Try.pinned (OpenSpec.ofChange slotsKnownWrong)

/-- 'stadholderlaw6.SlotsPlays': WHATEVER THE INPUT: true; the input reads as it did. -/
def slotsPlaysSpec : ChangeSpec := { name := "slotsPlays", fn := fun _ => fun
  | [d1, d2] => { results := [.lit (.bool true)], args := [d1, d2] }
  | _ => none }
def slotsPlaysRow : OpenClaim := { program := "ytjnmdkdgkjakoaa", sum := "a256b71dc8a59261d747cfc1600c3b4458146c5dfb23c8d6ba0503619d4c6a60", func := "stadholder/stadholderlaw6.SlotsPlays", spec := "slotsPlays", apart := false }
def SlotsPlaysSaid : Prop := slotsPlaysRow.holds Try.pinned (OpenSpec.ofChange slotsPlaysSpec)

/-- ITS FALSE NEIGHBOUR: 'it returns false'. Refute it at one input. -/
def slotsPlaysWrong : ChangeSpec := { name := "slotsPlays", fn := fun _ => fun
  | [d1, d2] => { results := [.lit (.bool false)], args := [d1, d2] }
  | _ => none }
def SlotsPlaysWrongFalsely : Prop := slotsPlaysRow.holds Try.pinned (OpenSpec.ofChange slotsPlaysWrong)

/-- 'stadholderlaw6.SlotsRoom': WHATEVER THE INPUT: true; the input reads as it did. -/
def slotsRoomSpec : ChangeSpec := { name := "slotsRoom", fn := fun _ => fun
  | [d] => { results := [.lit (.bool true)], args := [d] }
  | _ => none }
def slotsRoomRow : OpenClaim := { program := "ytjnmdkdgkjakoaa", sum := "a256b71dc8a59261d747cfc1600c3b4458146c5dfb23c8d6ba0503619d4c6a60", func := "stadholder/stadholderlaw6.SlotsRoom", spec := "slotsRoom", apart := false }
def SlotsRoomSaid : Prop := slotsRoomRow.holds Try.pinned (OpenSpec.ofChange slotsRoomSpec)

/-- ITS FALSE NEIGHBOUR: 'it returns false'. Refute it at one input. -/
def slotsRoomWrong : ChangeSpec := { name := "slotsRoom", fn := fun _ => fun
  | [d] => { results := [.lit (.bool false)], args := [d] }
  | _ => none }
def SlotsRoomWrongFalsely : Prop := slotsRoomRow.holds Try.pinned (OpenSpec.ofChange slotsRoomWrong)

/-- 'stadholderlaw8.AccountKnown': WHATEVER THE INPUT: true; the input reads as it did. -/
def accountKnownSpec : ChangeSpec := { name := "accountKnown", fn := fun _ => fun
  | [] => { results := [.lit (.bool true)], args := [] }
  | _ => none }
def accountKnownRow : OpenClaim := { program := "ytjnmdkdgkjakoaa", sum := "a256b71dc8a59261d747cfc1600c3b4458146c5dfb23c8d6ba0503619d4c6a60", func := "stadholder/stadholderlaw8.AccountKnown", spec := "accountKnown", apart := false }
def AccountKnownSaid : Prop := accountKnownRow.holds Try.pinned (OpenSpec.ofChange accountKnownSpec)

/-- ITS FALSE NEIGHBOUR: 'it returns false'. Refute it at one input. -/
def accountKnownWrong : ChangeSpec := { name := "accountKnown", fn := fun _ => fun
  | [] => { results := [.lit (.bool false)], args := [] }
  | _ => none }
def AccountKnownWrongFalsely : Prop := accountKnownRow.holds Try.pinned (OpenSpec.ofChange accountKnownWrong)

/-- 'stadholderlaw8.AccountSays': WHATEVER THE INPUT: true; the input reads as it did. -/
def accountSaysSpec : ChangeSpec := { name := "accountSays", fn := fun _ => fun
  | [d1, d2, d3, d4] => { results := [.lit (.bool true)], args := [d1, d2, d3, d4] }
  | _ => none }
def accountSaysRow : OpenClaim := { program := "ytjnmdkdgkjakoaa", sum := "a256b71dc8a59261d747cfc1600c3b4458146c5dfb23c8d6ba0503619d4c6a60", func := "stadholder/stadholderlaw8.AccountSays", spec := "accountSays", apart := false }
def AccountSaysSaid : Prop := accountSaysRow.holds Try.pinned (OpenSpec.ofChange accountSaysSpec)

/-- ITS FALSE NEIGHBOUR: 'it returns false'. Refute it at one input. -/
def accountSaysWrong : ChangeSpec := { name := "accountSays", fn := fun _ => fun
  | [d1, d2, d3, d4] => { results := [.lit (.bool false)], args := [d1, d2, d3, d4] }
  | _ => none }
def AccountSaysWrongFalsely : Prop := accountSaysRow.holds Try.pinned (OpenSpec.ofChange accountSaysWrong)

/-- 'stadholderlaw8.AccountUses': WHATEVER THE INPUT: true; the input reads as it did. -/
def accountUsesSpec : ChangeSpec := { name := "accountUses", fn := fun _ => fun
  | [d1, d2, d3] => { results := [.lit (.bool true)], args := [d1, d2, d3] }
  | _ => none }
def accountUsesRow : OpenClaim := { program := "ytjnmdkdgkjakoaa", sum := "a256b71dc8a59261d747cfc1600c3b4458146c5dfb23c8d6ba0503619d4c6a60", func := "stadholder/stadholderlaw8.AccountUses", spec := "accountUses", apart := false }
def AccountUsesSaid : Prop := accountUsesRow.holds Try.pinned (OpenSpec.ofChange accountUsesSpec)

/-- ITS FALSE NEIGHBOUR: 'it returns false'. Refute it at one input. -/
def accountUsesWrong : ChangeSpec := { name := "accountUses", fn := fun _ => fun
  | [d1, d2, d3] => { results := [.lit (.bool false)], args := [d1, d2, d3] }
  | _ => none }
def AccountUsesWrongFalsely : Prop := accountUsesRow.holds Try.pinned (OpenSpec.ofChange accountUsesWrong)

/- THE SECOND FORM. 'bulk': how many values and letters a reading holds, each counted each time it is reached (what is shared counts as often as it is met; a slice's spare places count too). A statement '..UptoSaid' is the law's where the arguments, and the package variables that the reading takes, are together of bulk at most 1048576: NARROWER than '..Said'. Prove '..Said' where nothing that the law and all that it calls make is longer than what came in: it says more and counts as full. Else prove '..UptoSaid'. A law counts once. -/
mutual
def uptoBulk {H : Type} : DataW H → Nat
  | .lit (.string bytes) => bytes.length + 1
  | .lit _ => 1
  | .nil => 1
  | .ptr d => uptoBulk d + 1
  | .slice elems spare => uptoBulkAll elems + uptoBulkAll spare + 1
  | .agg parts => uptoBulkAll parts + 1
  | .iface _ d => uptoBulk d + 1
  | .map entries => uptoBulkEntries entries + 1
  | .held _ => 1
def uptoBulkAll {H : Type} : List (DataW H) → Nat
  | [] => 0
  | d :: r => uptoBulk d + uptoBulkAll r
def uptoBulkEntries {H : Type} : List (Lit × DataW H) → Nat
  | [] => 0
  | x :: r => uptoBulkEntry x + uptoBulkEntries r
def uptoBulkEntry {H : Type} : Lit × DataW H → Nat
  | (.string bytes, d) => bytes.length + uptoBulk d + 1
  | (_, d) => uptoBulk d + 1
 end
def uptoSmall : (H : Type) → List (DataW H) → Bool := fun _ ds => decide (uptoBulkAll ds ≤ 1048576)
def OpenSpec.upto (s : _root_.Go.ChangeSpec) : _root_.Go.OpenSpec := { _root_.Go.OpenSpec.ofChange s with cond := some uptoSmall }

/-- 'stadholderlaw9.LifeReach', WHERE WHAT IT READS IS OF BULK AT MOST 1048576: true; the input reads as it did. -/
def lifeReachUptoRow : OpenClaim := { program := "ytjnmdkdgkjakoaa", sum := "a256b71dc8a59261d747cfc1600c3b4458146c5dfb23c8d6ba0503619d4c6a60", func := "stadholder/stadholderlaw9.LifeReach", spec := "lifeReach", apart := false, narrowed := true }
def LifeReachUptoSaid : Prop := lifeReachUptoRow.holds Try.pinned (OpenSpec.upto lifeReachSpec)

/-- 'stadholderlaw9.LifeKnown', WHERE WHAT IT READS IS OF BULK AT MOST 1048576: true; the input reads as it did. -/
def lifeKnownUptoRow : OpenClaim := { program := "ytjnmdkdgkjakoaa", sum := "a256b71dc8a59261d747cfc1600c3b4458146c5dfb23c8d6ba0503619d4c6a60", func := "stadholder/stadholderlaw9.LifeKnown", spec := "lifeKnown", apart := false, narrowed := true }
def LifeKnownUptoSaid : Prop := lifeKnownUptoRow.holds Try.pinned (OpenSpec.upto lifeKnownSpec)

/-- 'stadholderlaw9.LifeRows', WHERE WHAT IT READS IS OF BULK AT MOST 1048576: true; the input reads as it did. -/
def lifeRowsUptoRow : OpenClaim := { program := "ytjnmdkdgkjakoaa", sum := "a256b71dc8a59261d747cfc1600c3b4458146c5dfb23c8d6ba0503619d4c6a60", func := "stadholder/stadholderlaw9.LifeRows", spec := "lifeRows", apart := false, narrowed := true }
def LifeRowsUptoSaid : Prop := lifeRowsUptoRow.holds Try.pinned (OpenSpec.upto lifeRowsSpec)

/-- 'stadholderlaw8.AccountTicks', WHERE WHAT IT READS IS OF BULK AT MOST 1048576: true; the input reads as it did. -/
def accountTicksUptoRow : OpenClaim := { program := "ytjnmdkdgkjakoaa", sum := "a256b71dc8a59261d747cfc1600c3b4458146c5dfb23c8d6ba0503619d4c6a60", func := "stadholder/stadholderlaw8.AccountTicks", spec := "accountTicks", apart := false, narrowed := true }
def AccountTicksUptoSaid : Prop := accountTicksUptoRow.holds Try.pinned (OpenSpec.upto accountTicksSpec)

/-- 'stadholderlaw6.SlotsKnown', WHERE WHAT IT READS IS OF BULK AT MOST 1048576: true; the input reads as it did. -/
def slotsKnownUptoRow : OpenClaim := { program := "ytjnmdkdgkjakoaa", sum := "a256b71dc8a59261d747cfc1600c3b4458146c5dfb23c8d6ba0503619d4c6a60", func := "stadholder/stadholderlaw6.SlotsKnown", spec := "slotsKnown", apart := false, narrowed := true }
def SlotsKnownUptoSaid : Prop := slotsKnownUptoRow.holds Try.pinned (OpenSpec.upto slotsKnownSpec)

/-- 'stadholderlaw6.SlotsPlays', WHERE WHAT IT READS IS OF BULK AT MOST 1048576: true; the input reads as it did. -/
def slotsPlaysUptoRow : OpenClaim := { program := "ytjnmdkdgkjakoaa", sum := "a256b71dc8a59261d747cfc1600c3b4458146c5dfb23c8d6ba0503619d4c6a60", func := "stadholder/stadholderlaw6.SlotsPlays", spec := "slotsPlays", apart := false, narrowed := true }
def SlotsPlaysUptoSaid : Prop := slotsPlaysUptoRow.holds Try.pinned (OpenSpec.upto slotsPlaysSpec)

/-- 'stadholderlaw6.SlotsRoom', WHERE WHAT IT READS IS OF BULK AT MOST 1048576: true; the input reads as it did. -/
def slotsRoomUptoRow : OpenClaim := { program := "ytjnmdkdgkjakoaa", sum := "a256b71dc8a59261d747cfc1600c3b4458146c5dfb23c8d6ba0503619d4c6a60", func := "stadholder/stadholderlaw6.SlotsRoom", spec := "slotsRoom", apart := false, narrowed := true }
def SlotsRoomUptoSaid : Prop := slotsRoomUptoRow.holds Try.pinned (OpenSpec.upto slotsRoomSpec)

/-- 'stadholderlaw8.AccountKnown', WHERE WHAT IT READS IS OF BULK AT MOST 1048576: true; the input reads as it did. -/
def accountKnownUptoRow : OpenClaim := { program := "ytjnmdkdgkjakoaa", sum := "a256b71dc8a59261d747cfc1600c3b4458146c5dfb23c8d6ba0503619d4c6a60", func := "stadholder/stadholderlaw8.AccountKnown", spec := "accountKnown", apart := false, narrowed := true }
def AccountKnownUptoSaid : Prop := accountKnownUptoRow.holds Try.pinned (OpenSpec.upto accountKnownSpec)

/-- 'stadholderlaw8.AccountSays', WHERE WHAT IT READS IS OF BULK AT MOST 1048576: true; the input reads as it did. -/
def accountSaysUptoRow : OpenClaim := { program := "ytjnmdkdgkjakoaa", sum := "a256b71dc8a59261d747cfc1600c3b4458146c5dfb23c8d6ba0503619d4c6a60", func := "stadholder/stadholderlaw8.AccountSays", spec := "accountSays", apart := false, narrowed := true }
def AccountSaysUptoSaid : Prop := accountSaysUptoRow.holds Try.pinned (OpenSpec.upto accountSaysSpec)

/-- 'stadholderlaw8.AccountUses', WHERE WHAT IT READS IS OF BULK AT MOST 1048576: true; the input reads as it did. -/
def accountUsesUptoRow : OpenClaim := { program := "ytjnmdkdgkjakoaa", sum := "a256b71dc8a59261d747cfc1600c3b4458146c5dfb23c8d6ba0503619d4c6a60", func := "stadholder/stadholderlaw8.AccountUses", spec := "accountUses", apart := false, narrowed := true }
def AccountUsesUptoSaid : Prop := accountUsesUptoRow.holds Try.pinned (OpenSpec.upto accountUsesSpec)

end Rows
end Go.Proofs.Ytjnmdkdgkjakoaa
