/-
  No cell of these rows narrows 'for every input' (looked for: loops, veiled, ifaces, maps, wideKeys, modest, calm, conditions, laid).
  DERIVED. THE GIVEN ROWS OF THIS SEAT. 5 by the template 'for every input the law returns true; each argument reads behind the call as it read before'; 0 by the template 'total and deterministic' (their statements: YtbdciahiebnmhaaTotals.lean).
  GIVEN WITH THE SEED: the statements are not yours to turn. If you find one false, say at which input.
  Laid BY PROGRAM, IN A SANDBOX (cutbox-rows.mjs): the forced cells as the released guide's own fill.sh prints them over the translation cec8b1c81e525c0a… (all of the seat's roots in one cut). By AI agents, Wed Nov 11 2026. No macro, syntax, notation, axiom, sorry.
-/
import Derived.Test.YtbdciahiebnmhaaChecked
import GoSem.Claim
import GoSem.ClaimJoined
import GoSem.ClaimMapViews
import Derived.JoinedTies
import Derived.KernelRfl
namespace Go.Proofs.Ytbdciahiebnmhaa
/- THE CELL 'sum', in the pinned program and in every row, IS THE sha256 OF THE DUMP (.gsa) THAT YtbdciahiebnmhaaProg.lean LOADS. Nothing in Lean hashes anything: it is a label: what it is worth is what the hold of that sum in a sandbox is worth. -/
noncomputable def Try.pinned : Pinned := { name := "ytbdciahiebnmhaa", sum := "cec8b1c81e525c0af00e7c3563748556d339ce03c69d3c4d01e9948ce698d3c2", checked := Try.checked }
namespace Rows
def none {H : Type} : Left H := { results := [], args := [] }

/-- 'innkeeplaw09.HoldDoes': WHATEVER THE INPUT: true; the input reads as it did. -/
def holdDoesSpec : ChangeSpec := { name := "holdDoes", fn := fun _ => fun
  | [d1, d2, d3] => { results := [.lit (.bool true)], args := [d1, d2, d3] }
  | _ => none }
def holdDoesRow : OpenClaim := { program := "ytbdciahiebnmhaa", sum := "cec8b1c81e525c0af00e7c3563748556d339ce03c69d3c4d01e9948ce698d3c2", func := "innkeep/innkeeplaw09.HoldDoes", spec := "holdDoes", apart := false }
def HoldDoesSaid : Prop := holdDoesRow.holds Try.pinned (OpenSpec.ofChange holdDoesSpec)

/-- ITS FALSE NEIGHBOUR: 'it returns false'. Refute it at one input. -/
def holdDoesWrong : ChangeSpec := { name := "holdDoes", fn := fun _ => fun
  | [d1, d2, d3] => { results := [.lit (.bool false)], args := [d1, d2, d3] }
  | _ => none }
def HoldDoesWrongFalsely : Prop := holdDoesRow.holds Try.pinned (OpenSpec.ofChange holdDoesWrong)

/-- 'innkeeplaw09.HoldMoves': WHATEVER THE INPUT: true; the input reads as it did. -/
def holdMovesSpec : ChangeSpec := { name := "holdMoves", fn := fun _ => fun
  | [d1, d2, d3] => { results := [.lit (.bool true)], args := [d1, d2, d3] }
  | _ => none }
def holdMovesRow : OpenClaim := { program := "ytbdciahiebnmhaa", sum := "cec8b1c81e525c0af00e7c3563748556d339ce03c69d3c4d01e9948ce698d3c2", func := "innkeep/innkeeplaw09.HoldMoves", spec := "holdMoves", recurses := true, apart := false }
def HoldMovesSaid : Prop := holdMovesRow.holds Try.pinned (OpenSpec.ofChange holdMovesSpec)

/-- ITS FALSE NEIGHBOUR: 'it returns false'. Refute it at one input. -/
def holdMovesWrong : ChangeSpec := { name := "holdMoves", fn := fun _ => fun
  | [d1, d2, d3] => { results := [.lit (.bool false)], args := [d1, d2, d3] }
  | _ => none }
def HoldMovesWrongFalsely : Prop := holdMovesRow.holds Try.pinned (OpenSpec.ofChange holdMovesWrong)

/-- 'innkeeplaw09.HoldKeeps': WHATEVER THE INPUT: true; the input reads as it did. -/
def holdKeepsSpec : ChangeSpec := { name := "holdKeeps", fn := fun _ => fun
  | [d1, d2, d3] => { results := [.lit (.bool true)], args := [d1, d2, d3] }
  | _ => none }
def holdKeepsRow : OpenClaim := { program := "ytbdciahiebnmhaa", sum := "cec8b1c81e525c0af00e7c3563748556d339ce03c69d3c4d01e9948ce698d3c2", func := "innkeep/innkeeplaw09.HoldKeeps", spec := "holdKeeps", apart := false }
def HoldKeepsSaid : Prop := holdKeepsRow.holds Try.pinned (OpenSpec.ofChange holdKeepsSpec)

/-- ITS FALSE NEIGHBOUR: 'it returns false'. Refute it at one input. -/
def holdKeepsWrong : ChangeSpec := { name := "holdKeeps", fn := fun _ => fun
  | [d1, d2, d3] => { results := [.lit (.bool false)], args := [d1, d2, d3] }
  | _ => none }
def HoldKeepsWrongFalsely : Prop := holdKeepsRow.holds Try.pinned (OpenSpec.ofChange holdKeepsWrong)

/-- 'innkeeplaw09.HoldAll': WHATEVER THE INPUT: true; the input reads as it did. -/
def holdAllSpec : ChangeSpec := { name := "holdAll", fn := fun _ => fun
  | [d1, d2, d3] => { results := [.lit (.bool true)], args := [d1, d2, d3] }
  | _ => none }
def holdAllRow : OpenClaim := { program := "ytbdciahiebnmhaa", sum := "cec8b1c81e525c0af00e7c3563748556d339ce03c69d3c4d01e9948ce698d3c2", func := "innkeep/innkeeplaw09.HoldAll", spec := "holdAll", apart := false }
def HoldAllSaid : Prop := holdAllRow.holds Try.pinned (OpenSpec.ofChange holdAllSpec)

/-- ITS FALSE NEIGHBOUR: 'it returns false'. Refute it at one input. -/
def holdAllWrong : ChangeSpec := { name := "holdAll", fn := fun _ => fun
  | [d1, d2, d3] => { results := [.lit (.bool false)], args := [d1, d2, d3] }
  | _ => none }
def HoldAllWrongFalsely : Prop := holdAllRow.holds Try.pinned (OpenSpec.ofChange holdAllWrong)

/-- 'innkeeplaw09.HoldOther': WHATEVER THE INPUT: true; the input reads as it did. -/
def holdOtherSpec : ChangeSpec := { name := "holdOther", fn := fun _ => fun
  | [d1, d2] => { results := [.lit (.bool true)], args := [d1, d2] }
  | _ => none }
def holdOtherRow : OpenClaim := { program := "ytbdciahiebnmhaa", sum := "cec8b1c81e525c0af00e7c3563748556d339ce03c69d3c4d01e9948ce698d3c2", func := "innkeep/innkeeplaw09.HoldOther", spec := "holdOther", apart := false }
def HoldOtherSaid : Prop := holdOtherRow.holds Try.pinned (OpenSpec.ofChange holdOtherSpec)

/-- ITS FALSE NEIGHBOUR: 'it returns false'. Refute it at one input. -/
def holdOtherWrong : ChangeSpec := { name := "holdOther", fn := fun _ => fun
  | [d1, d2] => { results := [.lit (.bool false)], args := [d1, d2] }
  | _ => none }
def HoldOtherWrongFalsely : Prop := holdOtherRow.holds Try.pinned (OpenSpec.ofChange holdOtherWrong)

/- THE SECOND FORM. 'bulk': how many values and letters a reading holds, each counted each time it is reached (what is shared counts as often as it is met; a slice's spare places count too). A statement '..UptoSaid' is the law's where the arguments, and the package variables that the reading takes, are together of bulk at most 1048576: NARROWER than '..Said'. Prove '..Said' where nothing that the law and all that it calls make is longer than what came in: it says more and counts as full. Else prove '..UptoSaid'. A law counts once. -/
mutual
def uptoBulk {H : Type} : DataW H → Nat
  | .lit (.string bytes) => bytes.length + 1
  | .lit _ => 1
  | .nil => 1
  | .ptr d => uptoBulk d + 1
  | .slice elems spare => uptoBulkAll elems + uptoBulkAll spare + 1
  | .agg parts => uptoBulkAll parts + 1
  | .iface _ d => uptoBulk d + 1
  | .map entries => uptoBulkEntries entries + 1
  | .held _ => 1
def uptoBulkAll {H : Type} : List (DataW H) → Nat
  | [] => 0
  | d :: r => uptoBulk d + uptoBulkAll r
def uptoBulkEntries {H : Type} : List (Lit × DataW H) → Nat
  | [] => 0
  | x :: r => uptoBulkEntry x + uptoBulkEntries r
def uptoBulkEntry {H : Type} : Lit × DataW H → Nat
  | (.string bytes, d) => bytes.length + uptoBulk d + 1
  | (_, d) => uptoBulk d + 1
 end
def uptoSmall : (H : Type) → List (DataW H) → Bool := fun _ ds => decide (uptoBulkAll ds ≤ 1048576)
def OpenSpec.upto (s : _root_.Go.ChangeSpec) : _root_.Go.OpenSpec := { _root_.Go.OpenSpec.ofChange s with cond := some uptoSmall }

/-- 'innkeeplaw09.HoldDoes', WHERE WHAT IT READS IS OF BULK AT MOST 1048576: true; the input reads as it did. -/
def holdDoesUptoRow : OpenClaim := { program := "ytbdciahiebnmhaa", sum := "cec8b1c81e525c0af00e7c3563748556d339ce03c69d3c4d01e9948ce698d3c2", func := "innkeep/innkeeplaw09.HoldDoes", spec := "holdDoes", apart := false, narrowed := true }
def HoldDoesUptoSaid : Prop := holdDoesUptoRow.holds Try.pinned (OpenSpec.upto holdDoesSpec)

/-- 'innkeeplaw09.HoldMoves', WHERE WHAT IT READS IS OF BULK AT MOST 1048576: true; the input reads as it did. -/
def holdMovesUptoRow : OpenClaim := { program := "ytbdciahiebnmhaa", sum := "cec8b1c81e525c0af00e7c3563748556d339ce03c69d3c4d01e9948ce698d3c2", func := "innkeep/innkeeplaw09.HoldMoves", spec := "holdMoves", recurses := true, apart := false, narrowed := true }
def HoldMovesUptoSaid : Prop := holdMovesUptoRow.holds Try.pinned (OpenSpec.upto holdMovesSpec)

/-- 'innkeeplaw09.HoldKeeps', WHERE WHAT IT READS IS OF BULK AT MOST 1048576: true; the input reads as it did. -/
def holdKeepsUptoRow : OpenClaim := { program := "ytbdciahiebnmhaa", sum := "cec8b1c81e525c0af00e7c3563748556d339ce03c69d3c4d01e9948ce698d3c2", func := "innkeep/innkeeplaw09.HoldKeeps", spec := "holdKeeps", apart := false, narrowed := true }
def HoldKeepsUptoSaid : Prop := holdKeepsUptoRow.holds Try.pinned (OpenSpec.upto holdKeepsSpec)

/-- 'innkeeplaw09.HoldAll', WHERE WHAT IT READS IS OF BULK AT MOST 1048576: true; the input reads as it did. -/
def holdAllUptoRow : OpenClaim := { program := "ytbdciahiebnmhaa", sum := "cec8b1c81e525c0af00e7c3563748556d339ce03c69d3c4d01e9948ce698d3c2", func := "innkeep/innkeeplaw09.HoldAll", spec := "holdAll", apart := false, narrowed := true }
def HoldAllUptoSaid : Prop := holdAllUptoRow.holds Try.pinned (OpenSpec.upto holdAllSpec)

/-- 'innkeeplaw09.HoldOther', WHERE WHAT IT READS IS OF BULK AT MOST 1048576: true; the input reads as it did. -/
def holdOtherUptoRow : OpenClaim := { program := "ytbdciahiebnmhaa", sum := "cec8b1c81e525c0af00e7c3563748556d339ce03c69d3c4d01e9948ce698d3c2", func := "innkeep/innkeeplaw09.HoldOther", spec := "holdOther", apart := false, narrowed := true }
def HoldOtherUptoSaid : Prop := holdOtherUptoRow.holds Try.pinned (OpenSpec.upto holdOtherSpec)

end Rows
end Go.Proofs.Ytbdciahiebnmhaa
