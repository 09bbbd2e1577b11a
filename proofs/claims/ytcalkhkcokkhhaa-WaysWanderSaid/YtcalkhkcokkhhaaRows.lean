/-
  No cell of these rows narrows 'for every input' (looked for: loops, veiled, ifaces, maps, wideKeys, modest, calm, conditions, laid).
  DERIVED. THE GIVEN ROWS OF THIS SEAT. 4 by the template 'for every input the law returns true; each argument reads behind the call as it read before'; 0 by the template 'total and deterministic' (their statements: YtcalkhkcokkhhaaTotals.lean).
  GIVEN WITH THE SEED: the statements are not yours to turn. If you find one false, say at which input.
  Laid BY PROGRAM, IN A SANDBOX (cutbox-rows.mjs): the forced cells as the released guide's own fill.sh prints them over the translation 171344a6a212758b… (all of the seat's roots in one cut). By AI agents, Wed Nov 11 2026. No macro, syntax, notation, axiom, sorry.
-/
import Derived.Test.YtcalkhkcokkhhaaChecked
import GoSem.Claim
import GoSem.ClaimJoined
import GoSem.ClaimMapViews
import Derived.JoinedTies
import Derived.KernelRfl
namespace Go.Proofs.Ytcalkhkcokkhhaa
/- THE CELL 'sum', in the pinned program and in every row, IS THE sha256 OF THE DUMP (.gsa) THAT YtcalkhkcokkhhaaProg.lean LOADS. Nothing in Lean hashes anything: it is a label: what it is worth is what the hold of that sum in a sandbox is worth. -/
noncomputable def Try.pinned : Pinned := { name := "ytcalkhkcokkhhaa", sum := "171344a6a212758bef0642ae6f1420582d951af5708ef4bc5f5f9f406cb53ad4", checked := Try.checked }
namespace Rows
def none {H : Type} : Left H := { results := [], args := [] }

/-- 'innkeeplaw08.WaysMove': WHATEVER THE INPUT: true; the input reads as it did. -/
def waysMoveSpec : ChangeSpec := { name := "waysMove", fn := fun _ => fun
  | [d1, d2, d3, d4] => { results := [.lit (.bool true)], args := [d1, d2, d3, d4] }
  | _ => none }
def waysMoveRow : OpenClaim := { program := "ytcalkhkcokkhhaa", sum := "171344a6a212758bef0642ae6f1420582d951af5708ef4bc5f5f9f406cb53ad4", func := "innkeep/innkeeplaw08.WaysMove", spec := "waysMove", unfollowed := true, recurses := true, apart := false }
def WaysMoveSaid : Prop := waysMoveRow.holds Try.pinned (OpenSpec.ofChange waysMoveSpec)

/-- ITS FALSE NEIGHBOUR: 'it returns false'. Refute it at one input. -/
def waysMoveWrong : ChangeSpec := { name := "waysMove", fn := fun _ => fun
  | [d1, d2, d3, d4] => { results := [.lit (.bool false)], args := [d1, d2, d3, d4] }
  | _ => none }
def WaysMoveWrongFalsely : Prop := waysMoveRow.holds Try.pinned (OpenSpec.ofChange waysMoveWrong)

/-- 'innkeeplaw08.WaysGo': WHATEVER THE INPUT: true; the input reads as it did. -/
def waysGoSpec : ChangeSpec := { name := "waysGo", fn := fun _ => fun
  | [d1, d2, d3, d4] => { results := [.lit (.bool true)], args := [d1, d2, d3, d4] }
  | _ => none }
def waysGoRow : OpenClaim := { program := "ytcalkhkcokkhhaa", sum := "171344a6a212758bef0642ae6f1420582d951af5708ef4bc5f5f9f406cb53ad4", func := "innkeep/innkeeplaw08.WaysGo", spec := "waysGo", unfollowed := true, recurses := true, apart := false }
def WaysGoSaid : Prop := waysGoRow.holds Try.pinned (OpenSpec.ofChange waysGoSpec)

/-- ITS FALSE NEIGHBOUR: 'it returns false'. Refute it at one input. -/
def waysGoWrong : ChangeSpec := { name := "waysGo", fn := fun _ => fun
  | [d1, d2, d3, d4] => { results := [.lit (.bool false)], args := [d1, d2, d3, d4] }
  | _ => none }
def WaysGoWrongFalsely : Prop := waysGoRow.holds Try.pinned (OpenSpec.ofChange waysGoWrong)

/-- 'innkeeplaw08.WaysBack': WHATEVER THE INPUT: true; the input reads as it did. -/
def waysBackSpec : ChangeSpec := { name := "waysBack", fn := fun _ => fun
  | [d1, d2, d3, d4] => { results := [.lit (.bool true)], args := [d1, d2, d3, d4] }
  | _ => none }
def waysBackRow : OpenClaim := { program := "ytcalkhkcokkhhaa", sum := "171344a6a212758bef0642ae6f1420582d951af5708ef4bc5f5f9f406cb53ad4", func := "innkeep/innkeeplaw08.WaysBack", spec := "waysBack", unfollowed := true, recurses := true, apart := false }
def WaysBackSaid : Prop := waysBackRow.holds Try.pinned (OpenSpec.ofChange waysBackSpec)

/-- ITS FALSE NEIGHBOUR: 'it returns false'. Refute it at one input. -/
def waysBackWrong : ChangeSpec := { name := "waysBack", fn := fun _ => fun
  | [d1, d2, d3, d4] => { results := [.lit (.bool false)], args := [d1, d2, d3, d4] }
  | _ => none }
def WaysBackWrongFalsely : Prop := waysBackRow.holds Try.pinned (OpenSpec.ofChange waysBackWrong)

/-- 'innkeeplaw08.WaysWander': WHATEVER THE INPUT: true; the input reads as it did. -/
def waysWanderSpec : ChangeSpec := { name := "waysWander", fn := fun _ => fun
  | [d1, d2, d3] => { results := [.lit (.bool true)], args := [d1, d2, d3] }
  | _ => none }
def waysWanderRow : OpenClaim := { program := "ytcalkhkcokkhhaa", sum := "171344a6a212758bef0642ae6f1420582d951af5708ef4bc5f5f9f406cb53ad4", func := "innkeep/innkeeplaw08.WaysWander", spec := "waysWander", unfollowed := true, recurses := true, apart := false }
def WaysWanderSaid : Prop := waysWanderRow.holds Try.pinned (OpenSpec.ofChange waysWanderSpec)

/-- ITS FALSE NEIGHBOUR: 'it returns false'. Refute it at one input. -/
def waysWanderWrong : ChangeSpec := { name := "waysWander", fn := fun _ => fun
  | [d1, d2, d3] => { results := [.lit (.bool false)], args := [d1, d2, d3] }
  | _ => none }
def WaysWanderWrongFalsely : Prop := waysWanderRow.holds Try.pinned (OpenSpec.ofChange waysWanderWrong)

/- THE SECOND FORM. 'bulk': how many values and letters a reading holds, each counted each time it is reached (what is shared counts as often as it is met; a slice's spare places count too). A statement '..UptoSaid' is the law's where the arguments, and the package variables that the reading takes, are together of bulk at most 1048576: NARROWER than '..Said'. Prove '..Said' where nothing that the law and all that it calls make is longer than what came in: it says more and counts as full. Else prove '..UptoSaid'. A law counts once. -/
mutual
def uptoBulk {H : Type} : DataW H → Nat
  | .lit (.string bytes) => bytes.length + 1
  | .lit _ => 1
  | .nil => 1
  | .ptr d => uptoBulk d + 1
  | .slice elems spare => uptoBulkAll elems + uptoBulkAll spare + 1
  | .agg parts => uptoBulkAll parts + 1
  | .iface _ d => uptoBulk d + 1
  | .map entries => uptoBulkEntries entries + 1
  | .held _ => 1
def uptoBulkAll {H : Type} : List (DataW H) → Nat
  | [] => 0
  | d :: r => uptoBulk d + uptoBulkAll r
def uptoBulkEntries {H : Type} : List (Lit × DataW H) → Nat
  | [] => 0
  | x :: r => uptoBulkEntry x + uptoBulkEntries r
def uptoBulkEntry {H : Type} : Lit × DataW H → Nat
  | (.string bytes, d) => bytes.length + uptoBulk d + 1
  | (_, d) => uptoBulk d + 1
 end
def uptoSmall : (H : Type) → List (DataW H) → Bool := fun _ ds => decide (uptoBulkAll ds ≤ 1048576)
def OpenSpec.upto (s : _root_.Go.ChangeSpec) : _root_.Go.OpenSpec := { _root_.Go.OpenSpec.ofChange s with cond := some uptoSmall }

/-- 'innkeeplaw08.WaysMove', WHERE WHAT IT READS IS OF BULK AT MOST 1048576: true; the input reads as it did. -/
def waysMoveUptoRow : OpenClaim := { program := "ytcalkhkcokkhhaa", sum := "171344a6a212758bef0642ae6f1420582d951af5708ef4bc5f5f9f406cb53ad4", func := "innkeep/innkeeplaw08.WaysMove", spec := "waysMove", unfollowed := true, recurses := true, apart := false, narrowed := true }
def WaysMoveUptoSaid : Prop := waysMoveUptoRow.holds Try.pinned (OpenSpec.upto waysMoveSpec)

/-- 'innkeeplaw08.WaysGo', WHERE WHAT IT READS IS OF BULK AT MOST 1048576: true; the input reads as it did. -/
def waysGoUptoRow : OpenClaim := { program := "ytcalkhkcokkhhaa", sum := "171344a6a212758bef0642ae6f1420582d951af5708ef4bc5f5f9f406cb53ad4", func := "innkeep/innkeeplaw08.WaysGo", spec := "waysGo", unfollowed := true, recurses := true, apart := false, narrowed := true }
def WaysGoUptoSaid : Prop := waysGoUptoRow.holds Try.pinned (OpenSpec.upto waysGoSpec)

/-- 'innkeeplaw08.WaysBack', WHERE WHAT IT READS IS OF BULK AT MOST 1048576: true; the input reads as it did. -/
def waysBackUptoRow : OpenClaim := { program := "ytcalkhkcokkhhaa", sum := "171344a6a212758bef0642ae6f1420582d951af5708ef4bc5f5f9f406cb53ad4", func := "innkeep/innkeeplaw08.WaysBack", spec := "waysBack", unfollowed := true, recurses := true, apart := false, narrowed := true }
def WaysBackUptoSaid : Prop := waysBackUptoRow.holds Try.pinned (OpenSpec.upto waysBackSpec)

/-- 'innkeeplaw08.WaysWander', WHERE WHAT IT READS IS OF BULK AT MOST 1048576: true; the input reads as it did. -/
def waysWanderUptoRow : OpenClaim := { program := "ytcalkhkcokkhhaa", sum := "171344a6a212758bef0642ae6f1420582d951af5708ef4bc5f5f9f406cb53ad4", func := "innkeep/innkeeplaw08.WaysWander", spec := "waysWander", unfollowed := true, recurses := true, apart := false, narrowed := true }
def WaysWanderUptoSaid : Prop := waysWanderUptoRow.holds Try.pinned (OpenSpec.upto waysWanderSpec)

end Rows
end Go.Proofs.Ytcalkhkcokkhhaa
