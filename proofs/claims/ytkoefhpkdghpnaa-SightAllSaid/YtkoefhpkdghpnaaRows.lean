/-
  No cell of these rows narrows 'for every input' (looked for: loops, veiled, ifaces, maps, wideKeys, modest, calm, conditions, laid).
  DERIVED. THE GIVEN ROWS OF THIS SEAT. 5 by the template 'for every input the law returns true; each argument reads behind the call as it read before'; 0 by the template 'total and deterministic' (their statements: YtkoefhpkdghpnaaTotals.lean).
  GIVEN WITH THE SEED: the statements are not yours to turn. If you find one false, say at which input.
  Laid BY PROGRAM, IN A SANDBOX (cutbox-rows.mjs): the forced cells as the released guide's own fill.sh prints them over the translation 05987cda9008f311… (all of the seat's roots in one cut). By AI agents, Wed Nov 11 2026. No macro, syntax, notation, axiom, sorry.
-/
import Derived.Test.YtkoefhpkdghpnaaChecked
import GoSem.Claim
import GoSem.ClaimJoined
import GoSem.ClaimMapViews
import Derived.JoinedTies
import Derived.KernelRfl
namespace Go.Proofs.Ytkoefhpkdghpnaa
/- THE CELL 'sum', in the pinned program and in every row, IS THE sha256 OF THE DUMP (.gsa) THAT YtkoefhpkdghpnaaProg.lean LOADS. Nothing in Lean hashes anything: it is a label: what it is worth is what the hold of that sum in a sandbox is worth. -/
noncomputable def Try.pinned : Pinned := { name := "ytkoefhpkdghpnaa", sum := "05987cda9008f311515c92f0d155b158baa7f25f7ed58e50283f9689c51413a5", checked := Try.checked }
namespace Rows
def none {H : Type} : Left H := { results := [], args := [] }

/-- 'innkeeplaw12.SightTells': WHATEVER THE INPUT: true; the input reads as it did. -/
def sightTellsSpec : ChangeSpec := { name := "sightTells", fn := fun _ => fun
  | [d1, d2, d3] => { results := [.lit (.bool true)], args := [d1, d2, d3] }
  | _ => none }
def sightTellsRow : OpenClaim := { program := "ytkoefhpkdghpnaa", sum := "05987cda9008f311515c92f0d155b158baa7f25f7ed58e50283f9689c51413a5", func := "innkeep/innkeeplaw12.SightTells", spec := "sightTells", unfollowed := true, recurses := true, apart := false }
def SightTellsSaid : Prop := sightTellsRow.holds Try.pinned (OpenSpec.ofChange sightTellsSpec)

/-- ITS FALSE NEIGHBOUR: 'it returns false'. Refute it at one input. -/
def sightTellsWrong : ChangeSpec := { name := "sightTells", fn := fun _ => fun
  | [d1, d2, d3] => { results := [.lit (.bool false)], args := [d1, d2, d3] }
  | _ => none }
def SightTellsWrongFalsely : Prop := sightTellsRow.holds Try.pinned (OpenSpec.ofChange sightTellsWrong)

/-- 'innkeeplaw12.SightAll': WHATEVER THE INPUT: true; the input reads as it did. -/
def sightAllSpec : ChangeSpec := { name := "sightAll", fn := fun _ => fun
  | [d] => { results := [.lit (.bool true)], args := [d] }
  | _ => none }
def sightAllRow : OpenClaim := { program := "ytkoefhpkdghpnaa", sum := "05987cda9008f311515c92f0d155b158baa7f25f7ed58e50283f9689c51413a5", func := "innkeep/innkeeplaw12.SightAll", spec := "sightAll", unfollowed := true, recurses := true, apart := false }
def SightAllSaid : Prop := sightAllRow.holds Try.pinned (OpenSpec.ofChange sightAllSpec)

/-- ITS FALSE NEIGHBOUR: 'it returns false'. Refute it at one input. -/
def sightAllWrong : ChangeSpec := { name := "sightAll", fn := fun _ => fun
  | [d] => { results := [.lit (.bool false)], args := [d] }
  | _ => none }
def SightAllWrongFalsely : Prop := sightAllRow.holds Try.pinned (OpenSpec.ofChange sightAllWrong)

/-- 'innkeeplaw12.SightKeeps': WHATEVER THE INPUT: true; the input reads as it did. -/
def sightKeepsSpec : ChangeSpec := { name := "sightKeeps", fn := fun _ => fun
  | [d1, d2] => { results := [.lit (.bool true)], args := [d1, d2] }
  | _ => none }
def sightKeepsRow : OpenClaim := { program := "ytkoefhpkdghpnaa", sum := "05987cda9008f311515c92f0d155b158baa7f25f7ed58e50283f9689c51413a5", func := "innkeep/innkeeplaw12.SightKeeps", spec := "sightKeeps", unfollowed := true, recurses := true, apart := false }
def SightKeepsSaid : Prop := sightKeepsRow.holds Try.pinned (OpenSpec.ofChange sightKeepsSpec)

/-- ITS FALSE NEIGHBOUR: 'it returns false'. Refute it at one input. -/
def sightKeepsWrong : ChangeSpec := { name := "sightKeeps", fn := fun _ => fun
  | [d1, d2] => { results := [.lit (.bool false)], args := [d1, d2] }
  | _ => none }
def SightKeepsWrongFalsely : Prop := sightKeepsRow.holds Try.pinned (OpenSpec.ofChange sightKeepsWrong)

/-- 'innkeeplaw12.SightMoves': WHATEVER THE INPUT: true; the input reads as it did. -/
def sightMovesSpec : ChangeSpec := { name := "sightMoves", fn := fun _ => fun
  | [d1, d2, d3, d4] => { results := [.lit (.bool true)], args := [d1, d2, d3, d4] }
  | _ => none }
def sightMovesRow : OpenClaim := { program := "ytkoefhpkdghpnaa", sum := "05987cda9008f311515c92f0d155b158baa7f25f7ed58e50283f9689c51413a5", func := "innkeep/innkeeplaw12.SightMoves", spec := "sightMoves", unfollowed := true, recurses := true, apart := false }
def SightMovesSaid : Prop := sightMovesRow.holds Try.pinned (OpenSpec.ofChange sightMovesSpec)

/-- ITS FALSE NEIGHBOUR: 'it returns false'. Refute it at one input. -/
def sightMovesWrong : ChangeSpec := { name := "sightMoves", fn := fun _ => fun
  | [d1, d2, d3, d4] => { results := [.lit (.bool false)], args := [d1, d2, d3, d4] }
  | _ => none }
def SightMovesWrongFalsely : Prop := sightMovesRow.holds Try.pinned (OpenSpec.ofChange sightMovesWrong)

/-- 'innkeeplaw12.SightSame': WHATEVER THE INPUT: true; the input reads as it did. -/
def sightSameSpec : ChangeSpec := { name := "sightSame", fn := fun _ => fun
  | [d1, d2, d3] => { results := [.lit (.bool true)], args := [d1, d2, d3] }
  | _ => none }
def sightSameRow : OpenClaim := { program := "ytkoefhpkdghpnaa", sum := "05987cda9008f311515c92f0d155b158baa7f25f7ed58e50283f9689c51413a5", func := "innkeep/innkeeplaw12.SightSame", spec := "sightSame", unfollowed := true, recurses := true, apart := false }
def SightSameSaid : Prop := sightSameRow.holds Try.pinned (OpenSpec.ofChange sightSameSpec)

/-- ITS FALSE NEIGHBOUR: 'it returns false'. Refute it at one input. -/
def sightSameWrong : ChangeSpec := { name := "sightSame", fn := fun _ => fun
  | [d1, d2, d3] => { results := [.lit (.bool false)], args := [d1, d2, d3] }
  | _ => none }
def SightSameWrongFalsely : Prop := sightSameRow.holds Try.pinned (OpenSpec.ofChange sightSameWrong)

/- THE SECOND FORM. 'bulk': how many values and letters a reading holds, each counted each time it is reached (what is shared counts as often as it is met; a slice's spare places count too). A statement '..UptoSaid' is the law's where the arguments, and the package variables that the reading takes, are together of bulk at most 1048576: NARROWER than '..Said'. Prove '..Said' where nothing that the law and all that it calls make is longer than what came in: it says more and counts as full. Else prove '..UptoSaid'. A law counts once. -/
mutual
def uptoBulk {H : Type} : DataW H → Nat
  | .lit (.string bytes) => bytes.length + 1
  | .lit _ => 1
  | .nil => 1
  | .ptr d => uptoBulk d + 1
  | .slice elems spare => uptoBulkAll elems + uptoBulkAll spare + 1
  | .agg parts => uptoBulkAll parts + 1
  | .iface _ d => uptoBulk d + 1
  | .map entries => uptoBulkEntries entries + 1
  | .held _ => 1
def uptoBulkAll {H : Type} : List (DataW H) → Nat
  | [] => 0
  | d :: r => uptoBulk d + uptoBulkAll r
def uptoBulkEntries {H : Type} : List (Lit × DataW H) → Nat
  | [] => 0
  | x :: r => uptoBulkEntry x + uptoBulkEntries r
def uptoBulkEntry {H : Type} : Lit × DataW H → Nat
  | (.string bytes, d) => bytes.length + uptoBulk d + 1
  | (_, d) => uptoBulk d + 1
 end
def uptoSmall : (H : Type) → List (DataW H) → Bool := fun _ ds => decide (uptoBulkAll ds ≤ 1048576)
def OpenSpec.upto (s : _root_.Go.ChangeSpec) : _root_.Go.OpenSpec := { _root_.Go.OpenSpec.ofChange s with cond := some uptoSmall }

/-- 'innkeeplaw12.SightTells', WHERE WHAT IT READS IS OF BULK AT MOST 1048576: true; the input reads as it did. -/
def sightTellsUptoRow : OpenClaim := { program := "ytkoefhpkdghpnaa", sum := "05987cda9008f311515c92f0d155b158baa7f25f7ed58e50283f9689c51413a5", func := "innkeep/innkeeplaw12.SightTells", spec := "sightTells", unfollowed := true, recurses := true, apart := false, narrowed := true }
def SightTellsUptoSaid : Prop := sightTellsUptoRow.holds Try.pinned (OpenSpec.upto sightTellsSpec)

/-- 'innkeeplaw12.SightAll', WHERE WHAT IT READS IS OF BULK AT MOST 1048576: true; the input reads as it did. -/
def sightAllUptoRow : OpenClaim := { program := "ytkoefhpkdghpnaa", sum := "05987cda9008f311515c92f0d155b158baa7f25f7ed58e50283f9689c51413a5", func := "innkeep/innkeeplaw12.SightAll", spec := "sightAll", unfollowed := true, recurses := true, apart := false, narrowed := true }
def SightAllUptoSaid : Prop := sightAllUptoRow.holds Try.pinned (OpenSpec.upto sightAllSpec)

/-- 'innkeeplaw12.SightKeeps', WHERE WHAT IT READS IS OF BULK AT MOST 1048576: true; the input reads as it did. -/
def sightKeepsUptoRow : OpenClaim := { program := "ytkoefhpkdghpnaa", sum := "05987cda9008f311515c92f0d155b158baa7f25f7ed58e50283f9689c51413a5", func := "innkeep/innkeeplaw12.SightKeeps", spec := "sightKeeps", unfollowed := true, recurses := true, apart := false, narrowed := true }
def SightKeepsUptoSaid : Prop := sightKeepsUptoRow.holds Try.pinned (OpenSpec.upto sightKeepsSpec)

/-- 'innkeeplaw12.SightMoves', WHERE WHAT IT READS IS OF BULK AT MOST 1048576: true; the input reads as it did. -/
def sightMovesUptoRow : OpenClaim := { program := "ytkoefhpkdghpnaa", sum := "05987cda9008f311515c92f0d155b158baa7f25f7ed58e50283f9689c51413a5", func := "innkeep/innkeeplaw12.SightMoves", spec := "sightMoves", unfollowed := true, recurses := true, apart := false, narrowed := true }
def SightMovesUptoSaid : Prop := sightMovesUptoRow.holds Try.pinned (OpenSpec.upto sightMovesSpec)

/-- 'innkeeplaw12.SightSame', WHERE WHAT IT READS IS OF BULK AT MOST 1048576: true; the input reads as it did. -/
def sightSameUptoRow : OpenClaim := { program := "ytkoefhpkdghpnaa", sum := "05987cda9008f311515c92f0d155b158baa7f25f7ed58e50283f9689c51413a5", func := "innkeep/innkeeplaw12.SightSame", spec := "sightSame", unfollowed := true, recurses := true, apart := false, narrowed := true }
def SightSameUptoSaid : Prop := sightSameUptoRow.holds Try.pinned (OpenSpec.upto sightSameSpec)

end Rows
end Go.Proofs.Ytkoefhpkdghpnaa
