/-
  No cell of these rows narrows 'for every input' (looked for: loops, veiled, ifaces, maps, wideKeys, modest, calm, conditions, laid).
  DERIVED. THE GIVEN ROWS OF THIS SEAT. 5 by the template 'for every input the law returns true; each argument reads behind the call as it read before'; 0 by the template 'total and deterministic' (their statements: YtlkodlblkpeofaaTotals.lean).
  GIVEN WITH THE SEED: the statements are not yours to turn. If you find one false, say at which input.
  Laid BY PROGRAM, IN A SANDBOX (cutbox-rows.mjs): the forced cells as the released guide's own fill.sh prints them over the translation 81d048ed3285e562… (all of the seat's roots in one cut). By AI agents, Wed Nov 11 2026. No macro, syntax, notation, axiom, sorry.
-/
import Derived.Test.YtlkodlblkpeofaaChecked
import GoSem.Claim
import GoSem.ClaimJoined
import GoSem.ClaimMapViews
import Derived.JoinedTies
import Derived.KernelRfl
namespace Go.Proofs.Ytlkodlblkpeofaa
/- THE CELL 'sum', in the pinned program and in every row, IS THE sha256 OF THE DUMP (.gsa) THAT YtlkodlblkpeofaaProg.lean LOADS. Nothing in Lean hashes anything: it is a label: what it is worth is what the hold of that sum in a sandbox is worth. -/
noncomputable def Try.pinned : Pinned := { name := "ytlkodlblkpeofaa", sum := "81d048ed3285e5627d360197ea83fa5a5a7ce93ef3dbb99bc057b09a044b562a", checked := Try.checked }
namespace Rows
def none {H : Type} : Left H := { results := [], args := [] }

/-- 'innkeeplaw10.BoxesDo': WHATEVER THE INPUT: true; the input reads as it did. -/
def boxesDoSpec : ChangeSpec := { name := "boxesDo", fn := fun _ => fun
  | [d1, d2, d3, d4] => { results := [.lit (.bool true)], args := [d1, d2, d3, d4] }
  | _ => none }
def boxesDoRow : OpenClaim := { program := "ytlkodlblkpeofaa", sum := "81d048ed3285e5627d360197ea83fa5a5a7ce93ef3dbb99bc057b09a044b562a", func := "innkeep/innkeeplaw10.BoxesDo", spec := "boxesDo", unfollowed := true, recurses := true, apart := false }
def BoxesDoSaid : Prop := boxesDoRow.holds Try.pinned (OpenSpec.ofChange boxesDoSpec)

/-- ITS FALSE NEIGHBOUR: 'it returns false'. Refute it at one input. -/
def boxesDoWrong : ChangeSpec := { name := "boxesDo", fn := fun _ => fun
  | [d1, d2, d3, d4] => { results := [.lit (.bool false)], args := [d1, d2, d3, d4] }
  | _ => none }
def BoxesDoWrongFalsely : Prop := boxesDoRow.holds Try.pinned (OpenSpec.ofChange boxesDoWrong)

/-- 'innkeeplaw10.BoxesKeep': WHATEVER THE INPUT: true; the input reads as it did. -/
def boxesKeepSpec : ChangeSpec := { name := "boxesKeep", fn := fun _ => fun
  | [d1, d2, d3, d4] => { results := [.lit (.bool true)], args := [d1, d2, d3, d4] }
  | _ => none }
def boxesKeepRow : OpenClaim := { program := "ytlkodlblkpeofaa", sum := "81d048ed3285e5627d360197ea83fa5a5a7ce93ef3dbb99bc057b09a044b562a", func := "innkeep/innkeeplaw10.BoxesKeep", spec := "boxesKeep", unfollowed := true, recurses := true, apart := false }
def BoxesKeepSaid : Prop := boxesKeepRow.holds Try.pinned (OpenSpec.ofChange boxesKeepSpec)

/-- ITS FALSE NEIGHBOUR: 'it returns false'. Refute it at one input. -/
def boxesKeepWrong : ChangeSpec := { name := "boxesKeep", fn := fun _ => fun
  | [d1, d2, d3, d4] => { results := [.lit (.bool false)], args := [d1, d2, d3, d4] }
  | _ => none }
def BoxesKeepWrongFalsely : Prop := boxesKeepRow.holds Try.pinned (OpenSpec.ofChange boxesKeepWrong)

/-- 'innkeeplaw10.BoxesHold': WHATEVER THE INPUT: true; the input reads as it did. -/
def boxesHoldSpec : ChangeSpec := { name := "boxesHold", fn := fun _ => fun
  | [d1, d2, d3, d4] => { results := [.lit (.bool true)], args := [d1, d2, d3, d4] }
  | _ => none }
def boxesHoldRow : OpenClaim := { program := "ytlkodlblkpeofaa", sum := "81d048ed3285e5627d360197ea83fa5a5a7ce93ef3dbb99bc057b09a044b562a", func := "innkeep/innkeeplaw10.BoxesHold", spec := "boxesHold", unfollowed := true, recurses := true, apart := false }
def BoxesHoldSaid : Prop := boxesHoldRow.holds Try.pinned (OpenSpec.ofChange boxesHoldSpec)

/-- ITS FALSE NEIGHBOUR: 'it returns false'. Refute it at one input. -/
def boxesHoldWrong : ChangeSpec := { name := "boxesHold", fn := fun _ => fun
  | [d1, d2, d3, d4] => { results := [.lit (.bool false)], args := [d1, d2, d3, d4] }
  | _ => none }
def BoxesHoldWrongFalsely : Prop := boxesHoldRow.holds Try.pinned (OpenSpec.ofChange boxesHoldWrong)

/-- 'innkeeplaw10.BoxesNear': WHATEVER THE INPUT: true; the input reads as it did. -/
def boxesNearSpec : ChangeSpec := { name := "boxesNear", fn := fun _ => fun
  | [d1, d2, d3, d4] => { results := [.lit (.bool true)], args := [d1, d2, d3, d4] }
  | _ => none }
def boxesNearRow : OpenClaim := { program := "ytlkodlblkpeofaa", sum := "81d048ed3285e5627d360197ea83fa5a5a7ce93ef3dbb99bc057b09a044b562a", func := "innkeep/innkeeplaw10.BoxesNear", spec := "boxesNear", unfollowed := true, recurses := true, apart := false }
def BoxesNearSaid : Prop := boxesNearRow.holds Try.pinned (OpenSpec.ofChange boxesNearSpec)

/-- ITS FALSE NEIGHBOUR: 'it returns false'. Refute it at one input. -/
def boxesNearWrong : ChangeSpec := { name := "boxesNear", fn := fun _ => fun
  | [d1, d2, d3, d4] => { results := [.lit (.bool false)], args := [d1, d2, d3, d4] }
  | _ => none }
def BoxesNearWrongFalsely : Prop := boxesNearRow.holds Try.pinned (OpenSpec.ofChange boxesNearWrong)

/-- 'innkeeplaw10.BoxesErrors': WHATEVER THE INPUT: true; the input reads as it did. -/
def boxesErrorsSpec : ChangeSpec := { name := "boxesErrors", fn := fun _ => fun
  | [d1, d2, d3, d4] => { results := [.lit (.bool true)], args := [d1, d2, d3, d4] }
  | _ => none }
def boxesErrorsRow : OpenClaim := { program := "ytlkodlblkpeofaa", sum := "81d048ed3285e5627d360197ea83fa5a5a7ce93ef3dbb99bc057b09a044b562a", func := "innkeep/innkeeplaw10.BoxesErrors", spec := "boxesErrors", unfollowed := true, recurses := true, apart := false }
def BoxesErrorsSaid : Prop := boxesErrorsRow.holds Try.pinned (OpenSpec.ofChange boxesErrorsSpec)

/-- ITS FALSE NEIGHBOUR: 'it returns false'. Refute it at one input. -/
def boxesErrorsWrong : ChangeSpec := { name := "boxesErrors", fn := fun _ => fun
  | [d1, d2, d3, d4] => { results := [.lit (.bool false)], args := [d1, d2, d3, d4] }
  | _ => none }
def BoxesErrorsWrongFalsely : Prop := boxesErrorsRow.holds Try.pinned (OpenSpec.ofChange boxesErrorsWrong)

/- THE SECOND FORM. 'bulk': how many values and letters a reading holds, each counted each time it is reached (what is shared counts as often as it is met; a slice's spare places count too). A statement '..UptoSaid' is the law's where the arguments, and the package variables that the reading takes, are together of bulk at most 1048576: NARROWER than '..Said'. Prove '..Said' where nothing that the law and all that it calls make is longer than what came in: it says more and counts as full. Else prove '..UptoSaid'. A law counts once. -/
mutual
def uptoBulk {H : Type} : DataW H → Nat
  | .lit (.string bytes) => bytes.length + 1
  | .lit _ => 1
  | .nil => 1
  | .ptr d => uptoBulk d + 1
  | .slice elems spare => uptoBulkAll elems + uptoBulkAll spare + 1
  | .agg parts => uptoBulkAll parts + 1
  | .iface _ d => uptoBulk d + 1
  | .map entries => uptoBulkEntries entries + 1
  | .held _ => 1
def uptoBulkAll {H : Type} : List (DataW H) → Nat
  | [] => 0
  | d :: r => uptoBulk d + uptoBulkAll r
def uptoBulkEntries {H : Type} : List (Lit × DataW H) → Nat
  | [] => 0
  | x :: r => uptoBulkEntry x + uptoBulkEntries r
def uptoBulkEntry {H : Type} : Lit × DataW H → Nat
  | (.string bytes, d) => bytes.length + uptoBulk d + 1
  | (_, d) => uptoBulk d + 1
 end
def uptoSmall : (H : Type) → List (DataW H) → Bool := fun _ ds => decide (uptoBulkAll ds ≤ 1048576)
def OpenSpec.upto (s : _root_.Go.ChangeSpec) : _root_.Go.OpenSpec := { _root_.Go.OpenSpec.ofChange s with cond := some uptoSmall }

/-- 'innkeeplaw10.BoxesDo', WHERE WHAT IT READS IS OF BULK AT MOST 1048576: true; the input reads as it did. -/
def boxesDoUptoRow : OpenClaim := { program := "ytlkodlblkpeofaa", sum := "81d048ed3285e5627d360197ea83fa5a5a7ce93ef3dbb99bc057b09a044b562a", func := "innkeep/innkeeplaw10.BoxesDo", spec := "boxesDo", unfollowed := true, recurses := true, apart := false, narrowed := true }
def BoxesDoUptoSaid : Prop := boxesDoUptoRow.holds Try.pinned (OpenSpec.upto boxesDoSpec)

/-- 'innkeeplaw10.BoxesKeep', WHERE WHAT IT READS IS OF BULK AT MOST 1048576: true; the input reads as it did. -/
def boxesKeepUptoRow : OpenClaim := { program := "ytlkodlblkpeofaa", sum := "81d048ed3285e5627d360197ea83fa5a5a7ce93ef3dbb99bc057b09a044b562a", func := "innkeep/innkeeplaw10.BoxesKeep", spec := "boxesKeep", unfollowed := true, recurses := true, apart := false, narrowed := true }
def BoxesKeepUptoSaid : Prop := boxesKeepUptoRow.holds Try.pinned (OpenSpec.upto boxesKeepSpec)

/-- 'innkeeplaw10.BoxesHold', WHERE WHAT IT READS IS OF BULK AT MOST 1048576: true; the input reads as it did. -/
def boxesHoldUptoRow : OpenClaim := { program := "ytlkodlblkpeofaa", sum := "81d048ed3285e5627d360197ea83fa5a5a7ce93ef3dbb99bc057b09a044b562a", func := "innkeep/innkeeplaw10.BoxesHold", spec := "boxesHold", unfollowed := true, recurses := true, apart := false, narrowed := true }
def BoxesHoldUptoSaid : Prop := boxesHoldUptoRow.holds Try.pinned (OpenSpec.upto boxesHoldSpec)

/-- 'innkeeplaw10.BoxesNear', WHERE WHAT IT READS IS OF BULK AT MOST 1048576: true; the input reads as it did. -/
def boxesNearUptoRow : OpenClaim := { program := "ytlkodlblkpeofaa", sum := "81d048ed3285e5627d360197ea83fa5a5a7ce93ef3dbb99bc057b09a044b562a", func := "innkeep/innkeeplaw10.BoxesNear", spec := "boxesNear", unfollowed := true, recurses := true, apart := false, narrowed := true }
def BoxesNearUptoSaid : Prop := boxesNearUptoRow.holds Try.pinned (OpenSpec.upto boxesNearSpec)

/-- 'innkeeplaw10.BoxesErrors', WHERE WHAT IT READS IS OF BULK AT MOST 1048576: true; the input reads as it did. -/
def boxesErrorsUptoRow : OpenClaim := { program := "ytlkodlblkpeofaa", sum := "81d048ed3285e5627d360197ea83fa5a5a7ce93ef3dbb99bc057b09a044b562a", func := "innkeep/innkeeplaw10.BoxesErrors", spec := "boxesErrors", unfollowed := true, recurses := true, apart := false, narrowed := true }
def BoxesErrorsUptoSaid : Prop := boxesErrorsUptoRow.holds Try.pinned (OpenSpec.upto boxesErrorsSpec)

end Rows
end Go.Proofs.Ytlkodlblkpeofaa
