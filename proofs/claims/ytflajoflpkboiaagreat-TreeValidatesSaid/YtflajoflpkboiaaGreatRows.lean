/-
  No cell of these rows narrows 'for every input' (looked for: loops, veiled, ifaces, maps, wideKeys, modest, calm, conditions, laid).
  DERIVED. THE GIVEN ROWS OF THIS SEAT. 8 by the template 'for every input the law returns true; each argument reads behind the call as it read before'; 0 by the template 'total and deterministic' (their statements: YtflajoflpkboiaaGreatTotals.lean).
  GIVEN WITH THE SEED: the statements are not yours to turn. If you find one false, say at which input.
  Laid BY PROGRAM, IN A SANDBOX (cutbox-rows.mjs): the forced cells as the released guide's own fill.sh prints them over the translation 0b47240701fba407… (all of the seat's roots in one cut). By AI agents, Wed Nov 11 2026. No macro, syntax, notation, axiom, sorry.
-/
import Derived.Test.YtflajoflpkboiaaGreatChecked
import GoSem.Claim
import GoSem.ClaimJoined
import GoSem.ClaimMapViews
import Derived.JoinedTies
import Derived.KernelRfl
namespace Go.Proofs.YtflajoflpkboiaaGreat
/- THE CELL 'sum', in the pinned program and in every row, IS THE sha256 OF THE DUMP (.gsa) THAT YtflajoflpkboiaaGreatProg.lean LOADS. Nothing in Lean hashes anything: it is a label: what it is worth is what the hold of that sum in a sandbox is worth. -/
noncomputable def Tryz.pinned : Pinned := { name := "ytflajoflpkboiaagreat", sum := "0b47240701fba407624de8884f37f19e81ae81b9fe025cc1a5153e329628f431", checked := Tryz.checked }
namespace Rows
def none {H : Type} : Left H := { results := [], args := [] }

/-- 'pairinglaw31.TreeApplies': WHATEVER THE INPUT: true; the input reads as it did. -/
def treeAppliesSpec : ChangeSpec := { name := "treeApplies", fn := fun _ => fun
  | [d1, d2] => { results := [.lit (.bool true)], args := [d1, d2] }
  | _ => none }
def treeAppliesRow : OpenClaim := { program := "ytflajoflpkboiaagreat", sum := "0b47240701fba407624de8884f37f19e81ae81b9fe025cc1a5153e329628f431", func := "pairing/pairinglaw31.TreeApplies", spec := "treeApplies", unfollowed := true, recurses := true, apart := false }
def TreeAppliesSaid : Prop := treeAppliesRow.holds Tryz.pinned (OpenSpec.ofChange treeAppliesSpec)

/-- ITS FALSE NEIGHBOUR: 'it returns false'. Refute it at one input. -/
def treeAppliesWrong : ChangeSpec := { name := "treeApplies", fn := fun _ => fun
  | [d1, d2] => { results := [.lit (.bool false)], args := [d1, d2] }
  | _ => none }
def TreeAppliesWrongFalsely : Prop := treeAppliesRow.holds Tryz.pinned (OpenSpec.ofChange treeAppliesWrong)

/-- 'pairinglaw31.TreeErrors': WHATEVER THE INPUT: true; the input reads as it did. -/
def treeErrorsSpec : ChangeSpec := { name := "treeErrors", fn := fun _ => fun
  | [d] => { results := [.lit (.bool true)], args := [d] }
  | _ => none }
def treeErrorsRow : OpenClaim := { program := "ytflajoflpkboiaagreat", sum := "0b47240701fba407624de8884f37f19e81ae81b9fe025cc1a5153e329628f431", func := "pairing/pairinglaw31.TreeErrors", spec := "treeErrors", unfollowed := true, recurses := true, apart := false }
def TreeErrorsSaid : Prop := treeErrorsRow.holds Tryz.pinned (OpenSpec.ofChange treeErrorsSpec)

/-- ITS FALSE NEIGHBOUR: 'it returns false'. Refute it at one input. -/
def treeErrorsWrong : ChangeSpec := { name := "treeErrors", fn := fun _ => fun
  | [d] => { results := [.lit (.bool false)], args := [d] }
  | _ => none }
def TreeErrorsWrongFalsely : Prop := treeErrorsRow.holds Tryz.pinned (OpenSpec.ofChange treeErrorsWrong)

/-- 'pairinglaw31.TreeGrows': WHATEVER THE INPUT: true; the input reads as it did. -/
def treeGrowsSpec : ChangeSpec := { name := "treeGrows", fn := fun _ => fun
  | [d1, d2] => { results := [.lit (.bool true)], args := [d1, d2] }
  | _ => none }
def treeGrowsRow : OpenClaim := { program := "ytflajoflpkboiaagreat", sum := "0b47240701fba407624de8884f37f19e81ae81b9fe025cc1a5153e329628f431", func := "pairing/pairinglaw31.TreeGrows", spec := "treeGrows", unfollowed := true, recurses := true, apart := false }
def TreeGrowsSaid : Prop := treeGrowsRow.holds Tryz.pinned (OpenSpec.ofChange treeGrowsSpec)

/-- ITS FALSE NEIGHBOUR: 'it returns false'. Refute it at one input. -/
def treeGrowsWrong : ChangeSpec := { name := "treeGrows", fn := fun _ => fun
  | [d1, d2] => { results := [.lit (.bool false)], args := [d1, d2] }
  | _ => none }
def TreeGrowsWrongFalsely : Prop := treeGrowsRow.holds Tryz.pinned (OpenSpec.ofChange treeGrowsWrong)

/-- 'pairinglaw31.TreeCloses': WHATEVER THE INPUT: true; the input reads as it did. -/
def treeClosesSpec : ChangeSpec := { name := "treeCloses", fn := fun _ => fun
  | [d1, d2] => { results := [.lit (.bool true)], args := [d1, d2] }
  | _ => none }
def treeClosesRow : OpenClaim := { program := "ytflajoflpkboiaagreat", sum := "0b47240701fba407624de8884f37f19e81ae81b9fe025cc1a5153e329628f431", func := "pairing/pairinglaw31.TreeCloses", spec := "treeCloses", unfollowed := true, recurses := true, apart := false }
def TreeClosesSaid : Prop := treeClosesRow.holds Tryz.pinned (OpenSpec.ofChange treeClosesSpec)

/-- ITS FALSE NEIGHBOUR: 'it returns false'. Refute it at one input. -/
def treeClosesWrong : ChangeSpec := { name := "treeCloses", fn := fun _ => fun
  | [d1, d2] => { results := [.lit (.bool false)], args := [d1, d2] }
  | _ => none }
def TreeClosesWrongFalsely : Prop := treeClosesRow.holds Tryz.pinned (OpenSpec.ofChange treeClosesWrong)

/-- 'pairinglaw31.TreeCommutes': WHATEVER THE INPUT: true; the input reads as it did. -/
def treeCommutesSpec : ChangeSpec := { name := "treeCommutes", fn := fun _ => fun
  | [d1, d2, d3] => { results := [.lit (.bool true)], args := [d1, d2, d3] }
  | _ => none }
def treeCommutesRow : OpenClaim := { program := "ytflajoflpkboiaagreat", sum := "0b47240701fba407624de8884f37f19e81ae81b9fe025cc1a5153e329628f431", func := "pairing/pairinglaw31.TreeCommutes", spec := "treeCommutes", unfollowed := true, recurses := true, apart := false }
def TreeCommutesSaid : Prop := treeCommutesRow.holds Tryz.pinned (OpenSpec.ofChange treeCommutesSpec)

/-- ITS FALSE NEIGHBOUR: 'it returns false'. Refute it at one input. -/
def treeCommutesWrong : ChangeSpec := { name := "treeCommutes", fn := fun _ => fun
  | [d1, d2, d3] => { results := [.lit (.bool false)], args := [d1, d2, d3] }
  | _ => none }
def TreeCommutesWrongFalsely : Prop := treeCommutesRow.holds Tryz.pinned (OpenSpec.ofChange treeCommutesWrong)

/-- 'pairinglaw31.TreeValidates': WHATEVER THE INPUT: true; the input reads as it did. -/
def treeValidatesSpec : ChangeSpec := { name := "treeValidates", fn := fun _ => fun
  | [d1, d2] => { results := [.lit (.bool true)], args := [d1, d2] }
  | _ => none }
def treeValidatesRow : OpenClaim := { program := "ytflajoflpkboiaagreat", sum := "0b47240701fba407624de8884f37f19e81ae81b9fe025cc1a5153e329628f431", func := "pairing/pairinglaw31.TreeValidates", spec := "treeValidates", unfollowed := true, recurses := true, apart := false }
def TreeValidatesSaid : Prop := treeValidatesRow.holds Tryz.pinned (OpenSpec.ofChange treeValidatesSpec)

/-- ITS FALSE NEIGHBOUR: 'it returns false'. Refute it at one input. -/
def treeValidatesWrong : ChangeSpec := { name := "treeValidates", fn := fun _ => fun
  | [d1, d2] => { results := [.lit (.bool false)], args := [d1, d2] }
  | _ => none }
def TreeValidatesWrongFalsely : Prop := treeValidatesRow.holds Tryz.pinned (OpenSpec.ofChange treeValidatesWrong)

/-- 'pairinglaw31.TreeLooks': WHATEVER THE INPUT: true; the input reads as it did. -/
def treeLooksSpec : ChangeSpec := { name := "treeLooks", fn := fun _ => fun
  | [d1, d2] => { results := [.lit (.bool true)], args := [d1, d2] }
  | _ => none }
def treeLooksRow : OpenClaim := { program := "ytflajoflpkboiaagreat", sum := "0b47240701fba407624de8884f37f19e81ae81b9fe025cc1a5153e329628f431", func := "pairing/pairinglaw31.TreeLooks", spec := "treeLooks", unfollowed := true, recurses := true, apart := false }
def TreeLooksSaid : Prop := treeLooksRow.holds Tryz.pinned (OpenSpec.ofChange treeLooksSpec)

/-- ITS FALSE NEIGHBOUR: 'it returns false'. Refute it at one input. -/
def treeLooksWrong : ChangeSpec := { name := "treeLooks", fn := fun _ => fun
  | [d1, d2] => { results := [.lit (.bool false)], args := [d1, d2] }
  | _ => none }
def TreeLooksWrongFalsely : Prop := treeLooksRow.holds Tryz.pinned (OpenSpec.ofChange treeLooksWrong)

/-- 'pairinglaw31.TreePaths': WHATEVER THE INPUT: true; the input reads as it did. -/
def treePathsSpec : ChangeSpec := { name := "treePaths", fn := fun _ => fun
  | [d1, d2] => { results := [.lit (.bool true)], args := [d1, d2] }
  | _ => none }
def treePathsRow : OpenClaim := { program := "ytflajoflpkboiaagreat", sum := "0b47240701fba407624de8884f37f19e81ae81b9fe025cc1a5153e329628f431", func := "pairing/pairinglaw31.TreePaths", spec := "treePaths", unfollowed := true, recurses := true, apart := false }
def TreePathsSaid : Prop := treePathsRow.holds Tryz.pinned (OpenSpec.ofChange treePathsSpec)

/-- ITS FALSE NEIGHBOUR: 'it returns false'. Refute it at one input. -/
def treePathsWrong : ChangeSpec := { name := "treePaths", fn := fun _ => fun
  | [d1, d2] => { results := [.lit (.bool false)], args := [d1, d2] }
  | _ => none }
def TreePathsWrongFalsely : Prop := treePathsRow.holds Tryz.pinned (OpenSpec.ofChange treePathsWrong)

/- THE SECOND FORM. 'bulk': how many values and letters a reading holds, each counted each time it is reached (what is shared counts as often as it is met; a slice's spare places count too). A statement '..UptoSaid' is the law's where the arguments, and the package variables that the reading takes, are together of bulk at most 1048576: NARROWER than '..Said'. Prove '..Said' where nothing that the law and all that it calls make is longer than what came in: it says more and counts as full. Else prove '..UptoSaid'. A law counts once. -/
mutual
def uptoBulk {H : Type} : DataW H → Nat
  | .lit (.string bytes) => bytes.length + 1
  | .lit _ => 1
  | .nil => 1
  | .ptr d => uptoBulk d + 1
  | .slice elems spare => uptoBulkAll elems + uptoBulkAll spare + 1
  | .agg parts => uptoBulkAll parts + 1
  | .iface _ d => uptoBulk d + 1
  | .map entries => uptoBulkEntries entries + 1
  | .held _ => 1
def uptoBulkAll {H : Type} : List (DataW H) → Nat
  | [] => 0
  | d :: r => uptoBulk d + uptoBulkAll r
def uptoBulkEntries {H : Type} : List (Lit × DataW H) → Nat
  | [] => 0
  | x :: r => uptoBulkEntry x + uptoBulkEntries r
def uptoBulkEntry {H : Type} : Lit × DataW H → Nat
  | (.string bytes, d) => bytes.length + uptoBulk d + 1
  | (_, d) => uptoBulk d + 1
 end
def uptoSmall : (H : Type) → List (DataW H) → Bool := fun _ ds => decide (uptoBulkAll ds ≤ 1048576)
def OpenSpec.upto (s : _root_.Go.ChangeSpec) : _root_.Go.OpenSpec := { _root_.Go.OpenSpec.ofChange s with cond := some uptoSmall }

/-- 'pairinglaw31.TreeApplies', WHERE WHAT IT READS IS OF BULK AT MOST 1048576: true; the input reads as it did. -/
def treeAppliesUptoRow : OpenClaim := { program := "ytflajoflpkboiaagreat", sum := "0b47240701fba407624de8884f37f19e81ae81b9fe025cc1a5153e329628f431", func := "pairing/pairinglaw31.TreeApplies", spec := "treeApplies", unfollowed := true, recurses := true, apart := false, narrowed := true }
def TreeAppliesUptoSaid : Prop := treeAppliesUptoRow.holds Tryz.pinned (OpenSpec.upto treeAppliesSpec)

/-- 'pairinglaw31.TreeErrors', WHERE WHAT IT READS IS OF BULK AT MOST 1048576: true; the input reads as it did. -/
def treeErrorsUptoRow : OpenClaim := { program := "ytflajoflpkboiaagreat", sum := "0b47240701fba407624de8884f37f19e81ae81b9fe025cc1a5153e329628f431", func := "pairing/pairinglaw31.TreeErrors", spec := "treeErrors", unfollowed := true, recurses := true, apart := false, narrowed := true }
def TreeErrorsUptoSaid : Prop := treeErrorsUptoRow.holds Tryz.pinned (OpenSpec.upto treeErrorsSpec)

/-- 'pairinglaw31.TreeGrows', WHERE WHAT IT READS IS OF BULK AT MOST 1048576: true; the input reads as it did. -/
def treeGrowsUptoRow : OpenClaim := { program := "ytflajoflpkboiaagreat", sum := "0b47240701fba407624de8884f37f19e81ae81b9fe025cc1a5153e329628f431", func := "pairing/pairinglaw31.TreeGrows", spec := "treeGrows", unfollowed := true, recurses := true, apart := false, narrowed := true }
def TreeGrowsUptoSaid : Prop := treeGrowsUptoRow.holds Tryz.pinned (OpenSpec.upto treeGrowsSpec)

/-- 'pairinglaw31.TreeCloses', WHERE WHAT IT READS IS OF BULK AT MOST 1048576: true; the input reads as it did. -/
def treeClosesUptoRow : OpenClaim := { program := "ytflajoflpkboiaagreat", sum := "0b47240701fba407624de8884f37f19e81ae81b9fe025cc1a5153e329628f431", func := "pairing/pairinglaw31.TreeCloses", spec := "treeCloses", unfollowed := true, recurses := true, apart := false, narrowed := true }
def TreeClosesUptoSaid : Prop := treeClosesUptoRow.holds Tryz.pinned (OpenSpec.upto treeClosesSpec)

/-- 'pairinglaw31.TreeCommutes', WHERE WHAT IT READS IS OF BULK AT MOST 1048576: true; the input reads as it did. -/
def treeCommutesUptoRow : OpenClaim := { program := "ytflajoflpkboiaagreat", sum := "0b47240701fba407624de8884f37f19e81ae81b9fe025cc1a5153e329628f431", func := "pairing/pairinglaw31.TreeCommutes", spec := "treeCommutes", unfollowed := true, recurses := true, apart := false, narrowed := true }
def TreeCommutesUptoSaid : Prop := treeCommutesUptoRow.holds Tryz.pinned (OpenSpec.upto treeCommutesSpec)

/-- 'pairinglaw31.TreeValidates', WHERE WHAT IT READS IS OF BULK AT MOST 1048576: true; the input reads as it did. -/
def treeValidatesUptoRow : OpenClaim := { program := "ytflajoflpkboiaagreat", sum := "0b47240701fba407624de8884f37f19e81ae81b9fe025cc1a5153e329628f431", func := "pairing/pairinglaw31.TreeValidates", spec := "treeValidates", unfollowed := true, recurses := true, apart := false, narrowed := true }
def TreeValidatesUptoSaid : Prop := treeValidatesUptoRow.holds Tryz.pinned (OpenSpec.upto treeValidatesSpec)

/-- 'pairinglaw31.TreeLooks', WHERE WHAT IT READS IS OF BULK AT MOST 1048576: true; the input reads as it did. -/
def treeLooksUptoRow : OpenClaim := { program := "ytflajoflpkboiaagreat", sum := "0b47240701fba407624de8884f37f19e81ae81b9fe025cc1a5153e329628f431", func := "pairing/pairinglaw31.TreeLooks", spec := "treeLooks", unfollowed := true, recurses := true, apart := false, narrowed := true }
def TreeLooksUptoSaid : Prop := treeLooksUptoRow.holds Tryz.pinned (OpenSpec.upto treeLooksSpec)

/-- 'pairinglaw31.TreePaths', WHERE WHAT IT READS IS OF BULK AT MOST 1048576: true; the input reads as it did. -/
def treePathsUptoRow : OpenClaim := { program := "ytflajoflpkboiaagreat", sum := "0b47240701fba407624de8884f37f19e81ae81b9fe025cc1a5153e329628f431", func := "pairing/pairinglaw31.TreePaths", spec := "treePaths", unfollowed := true, recurses := true, apart := false, narrowed := true }
def TreePathsUptoSaid : Prop := treePathsUptoRow.holds Tryz.pinned (OpenSpec.upto treePathsSpec)

end Rows
end Go.Proofs.YtflajoflpkboiaaGreat
