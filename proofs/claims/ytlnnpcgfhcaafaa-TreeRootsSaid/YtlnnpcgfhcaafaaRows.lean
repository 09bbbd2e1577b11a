/-
  No cell of these rows narrows 'for every input' (looked for: loops, veiled, ifaces, maps, wideKeys, modest, calm, conditions, laid).
  DERIVED. THE GIVEN ROWS OF THIS SEAT. 5 by the template 'for every input the law returns true; each argument reads behind the call as it read before'; 0 by the template 'total and deterministic' (their statements: YtlnnpcgfhcaafaaTotals.lean).
  GIVEN WITH THE SEED: the statements are not yours to turn. If you find one false, say at which input.
  Laid BY PROGRAM, IN A SANDBOX (cutbox-rows.mjs): the forced cells as the released guide's own fill.sh prints them over the translation 96c8bdc160e25905… (all of the seat's roots in one cut). By AI agents, Wed Nov 11 2026. No macro, syntax, notation, axiom, sorry.
-/
import Derived.Test.YtlnnpcgfhcaafaaChecked
import GoSem.Claim
import GoSem.ClaimJoined
import GoSem.ClaimMapViews
import Derived.JoinedTies
import Derived.KernelRfl
namespace Go.Proofs.Ytlnnpcgfhcaafaa
/- THE CELL 'sum', in the pinned program and in every row, IS THE sha256 OF THE DUMP (.gsa) THAT YtlnnpcgfhcaafaaProg.lean LOADS. Nothing in Lean hashes anything: it is a label: what it is worth is what the hold of that sum in a sandbox is worth. -/
noncomputable def Try.pinned : Pinned := { name := "ytlnnpcgfhcaafaa", sum := "96c8bdc160e259054c12b60998091384f964d2ba8c4a21566ac34b1322ab0761", checked := Try.checked }
namespace Rows
def none {H : Type} : Left H := { results := [], args := [] }

/-- 'innkeeplaw07.TreeAsks': WHATEVER THE INPUT: true; the input reads as it did. -/
def treeAsksSpec : ChangeSpec := { name := "treeAsks", fn := fun _ => fun
  | [d1, d2, d3, d4] => { results := [.lit (.bool true)], args := [d1, d2, d3, d4] }
  | _ => none }
def treeAsksRow : OpenClaim := { program := "ytlnnpcgfhcaafaa", sum := "96c8bdc160e259054c12b60998091384f964d2ba8c4a21566ac34b1322ab0761", func := "innkeep/innkeeplaw07.TreeAsks", spec := "treeAsks", unfollowed := true, recurses := true, apart := false }
def TreeAsksSaid : Prop := treeAsksRow.holds Try.pinned (OpenSpec.ofChange treeAsksSpec)

/-- ITS FALSE NEIGHBOUR: 'it returns false'. Refute it at one input. -/
def treeAsksWrong : ChangeSpec := { name := "treeAsks", fn := fun _ => fun
  | [d1, d2, d3, d4] => { results := [.lit (.bool false)], args := [d1, d2, d3, d4] }
  | _ => none }
def TreeAsksWrongFalsely : Prop := treeAsksRow.holds Try.pinned (OpenSpec.ofChange treeAsksWrong)

/-- 'innkeeplaw07.TreeRoots': WHATEVER THE INPUT: true; the input reads as it did. -/
def treeRootsSpec : ChangeSpec := { name := "treeRoots", fn := fun _ => fun
  | [d] => { results := [.lit (.bool true)], args := [d] }
  | _ => none }
def treeRootsRow : OpenClaim := { program := "ytlnnpcgfhcaafaa", sum := "96c8bdc160e259054c12b60998091384f964d2ba8c4a21566ac34b1322ab0761", func := "innkeep/innkeeplaw07.TreeRoots", spec := "treeRoots", unfollowed := true, recurses := true, apart := false }
def TreeRootsSaid : Prop := treeRootsRow.holds Try.pinned (OpenSpec.ofChange treeRootsSpec)

/-- ITS FALSE NEIGHBOUR: 'it returns false'. Refute it at one input. -/
def treeRootsWrong : ChangeSpec := { name := "treeRoots", fn := fun _ => fun
  | [d] => { results := [.lit (.bool false)], args := [d] }
  | _ => none }
def TreeRootsWrongFalsely : Prop := treeRootsRow.holds Try.pinned (OpenSpec.ofChange treeRootsWrong)

/-- 'innkeeplaw07.TreeWithin': WHATEVER THE INPUT: true; the input reads as it did. -/
def treeWithinSpec : ChangeSpec := { name := "treeWithin", fn := fun _ => fun
  | [d1, d2, d3, d4] => { results := [.lit (.bool true)], args := [d1, d2, d3, d4] }
  | _ => none }
def treeWithinRow : OpenClaim := { program := "ytlnnpcgfhcaafaa", sum := "96c8bdc160e259054c12b60998091384f964d2ba8c4a21566ac34b1322ab0761", func := "innkeep/innkeeplaw07.TreeWithin", spec := "treeWithin", unfollowed := true, recurses := true, apart := false }
def TreeWithinSaid : Prop := treeWithinRow.holds Try.pinned (OpenSpec.ofChange treeWithinSpec)

/-- ITS FALSE NEIGHBOUR: 'it returns false'. Refute it at one input. -/
def treeWithinWrong : ChangeSpec := { name := "treeWithin", fn := fun _ => fun
  | [d1, d2, d3, d4] => { results := [.lit (.bool false)], args := [d1, d2, d3, d4] }
  | _ => none }
def TreeWithinWrongFalsely : Prop := treeWithinRow.holds Try.pinned (OpenSpec.ofChange treeWithinWrong)

/-- 'innkeeplaw07.TreeKeeps': WHATEVER THE INPUT: true; the input reads as it did. -/
def treeKeepsSpec : ChangeSpec := { name := "treeKeeps", fn := fun _ => fun
  | [d1, d2] => { results := [.lit (.bool true)], args := [d1, d2] }
  | _ => none }
def treeKeepsRow : OpenClaim := { program := "ytlnnpcgfhcaafaa", sum := "96c8bdc160e259054c12b60998091384f964d2ba8c4a21566ac34b1322ab0761", func := "innkeep/innkeeplaw07.TreeKeeps", spec := "treeKeeps", unfollowed := true, recurses := true, apart := false }
def TreeKeepsSaid : Prop := treeKeepsRow.holds Try.pinned (OpenSpec.ofChange treeKeepsSpec)

/-- ITS FALSE NEIGHBOUR: 'it returns false'. Refute it at one input. -/
def treeKeepsWrong : ChangeSpec := { name := "treeKeeps", fn := fun _ => fun
  | [d1, d2] => { results := [.lit (.bool false)], args := [d1, d2] }
  | _ => none }
def TreeKeepsWrongFalsely : Prop := treeKeepsRow.holds Try.pinned (OpenSpec.ofChange treeKeepsWrong)

/-- 'innkeeplaw07.TreeMoved': WHATEVER THE INPUT: true; the input reads as it did. -/
def treeMovedSpec : ChangeSpec := { name := "treeMoved", fn := fun _ => fun
  | [d1, d2, d3] => { results := [.lit (.bool true)], args := [d1, d2, d3] }
  | _ => none }
def treeMovedRow : OpenClaim := { program := "ytlnnpcgfhcaafaa", sum := "96c8bdc160e259054c12b60998091384f964d2ba8c4a21566ac34b1322ab0761", func := "innkeep/innkeeplaw07.TreeMoved", spec := "treeMoved", unfollowed := true, recurses := true, apart := false }
def TreeMovedSaid : Prop := treeMovedRow.holds Try.pinned (OpenSpec.ofChange treeMovedSpec)

/-- ITS FALSE NEIGHBOUR: 'it returns false'. Refute it at one input. -/
def treeMovedWrong : ChangeSpec := { name := "treeMoved", fn := fun _ => fun
  | [d1, d2, d3] => { results := [.lit (.bool false)], args := [d1, d2, d3] }
  | _ => none }
def TreeMovedWrongFalsely : Prop := treeMovedRow.holds Try.pinned (OpenSpec.ofChange treeMovedWrong)

/- THE SECOND FORM. 'bulk': how many values and letters a reading holds, each counted each time it is reached (what is shared counts as often as it is met; a slice's spare places count too). A statement '..UptoSaid' is the law's where the arguments, and the package variables that the reading takes, are together of bulk at most 1048576: NARROWER than '..Said'. Prove '..Said' where nothing that the law and all that it calls make is longer than what came in: it says more and counts as full. Else prove '..UptoSaid'. A law counts once. -/
mutual
def uptoBulk {H : Type} : DataW H → Nat
  | .lit (.string bytes) => bytes.length + 1
  | .lit _ => 1
  | .nil => 1
  | .ptr d => uptoBulk d + 1
  | .slice elems spare => uptoBulkAll elems + uptoBulkAll spare + 1
  | .agg parts => uptoBulkAll parts + 1
  | .iface _ d => uptoBulk d + 1
  | .map entries => uptoBulkEntries entries + 1
  | .held _ => 1
def uptoBulkAll {H : Type} : List (DataW H) → Nat
  | [] => 0
  | d :: r => uptoBulk d + uptoBulkAll r
def uptoBulkEntries {H : Type} : List (Lit × DataW H) → Nat
  | [] => 0
  | x :: r => uptoBulkEntry x + uptoBulkEntries r
def uptoBulkEntry {H : Type} : Lit × DataW H → Nat
  | (.string bytes, d) => bytes.length + uptoBulk d + 1
  | (_, d) => uptoBulk d + 1
 end
def uptoSmall : (H : Type) → List (DataW H) → Bool := fun _ ds => decide (uptoBulkAll ds ≤ 1048576)
def OpenSpec.upto (s : _root_.Go.ChangeSpec) : _root_.Go.OpenSpec := { _root_.Go.OpenSpec.ofChange s with cond := some uptoSmall }

/-- 'innkeeplaw07.TreeAsks', WHERE WHAT IT READS IS OF BULK AT MOST 1048576: true; the input reads as it did. -/
def treeAsksUptoRow : OpenClaim := { program := "ytlnnpcgfhcaafaa", sum := "96c8bdc160e259054c12b60998091384f964d2ba8c4a21566ac34b1322ab0761", func := "innkeep/innkeeplaw07.TreeAsks", spec := "treeAsks", unfollowed := true, recurses := true, apart := false, narrowed := true }
def TreeAsksUptoSaid : Prop := treeAsksUptoRow.holds Try.pinned (OpenSpec.upto treeAsksSpec)

/-- 'innkeeplaw07.TreeRoots', WHERE WHAT IT READS IS OF BULK AT MOST 1048576: true; the input reads as it did. -/
def treeRootsUptoRow : OpenClaim := { program := "ytlnnpcgfhcaafaa", sum := "96c8bdc160e259054c12b60998091384f964d2ba8c4a21566ac34b1322ab0761", func := "innkeep/innkeeplaw07.TreeRoots", spec := "treeRoots", unfollowed := true, recurses := true, apart := false, narrowed := true }
def TreeRootsUptoSaid : Prop := treeRootsUptoRow.holds Try.pinned (OpenSpec.upto treeRootsSpec)

/-- 'innkeeplaw07.TreeWithin', WHERE WHAT IT READS IS OF BULK AT MOST 1048576: true; the input reads as it did. -/
def treeWithinUptoRow : OpenClaim := { program := "ytlnnpcgfhcaafaa", sum := "96c8bdc160e259054c12b60998091384f964d2ba8c4a21566ac34b1322ab0761", func := "innkeep/innkeeplaw07.TreeWithin", spec := "treeWithin", unfollowed := true, recurses := true, apart := false, narrowed := true }
def TreeWithinUptoSaid : Prop := treeWithinUptoRow.holds Try.pinned (OpenSpec.upto treeWithinSpec)

/-- 'innkeeplaw07.TreeKeeps', WHERE WHAT IT READS IS OF BULK AT MOST 1048576: true; the input reads as it did. -/
def treeKeepsUptoRow : OpenClaim := { program := "ytlnnpcgfhcaafaa", sum := "96c8bdc160e259054c12b60998091384f964d2ba8c4a21566ac34b1322ab0761", func := "innkeep/innkeeplaw07.TreeKeeps", spec := "treeKeeps", unfollowed := true, recurses := true, apart := false, narrowed := true }
def TreeKeepsUptoSaid : Prop := treeKeepsUptoRow.holds Try.pinned (OpenSpec.upto treeKeepsSpec)

/-- 'innkeeplaw07.TreeMoved', WHERE WHAT IT READS IS OF BULK AT MOST 1048576: true; the input reads as it did. -/
def treeMovedUptoRow : OpenClaim := { program := "ytlnnpcgfhcaafaa", sum := "96c8bdc160e259054c12b60998091384f964d2ba8c4a21566ac34b1322ab0761", func := "innkeep/innkeeplaw07.TreeMoved", spec := "treeMoved", unfollowed := true, recurses := true, apart := false, narrowed := true }
def TreeMovedUptoSaid : Prop := treeMovedUptoRow.holds Try.pinned (OpenSpec.upto treeMovedSpec)

end Rows
end Go.Proofs.Ytlnnpcgfhcaafaa
