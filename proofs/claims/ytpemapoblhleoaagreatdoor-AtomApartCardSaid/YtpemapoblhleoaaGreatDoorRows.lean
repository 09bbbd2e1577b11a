/-
  NARROWER THAN 'FOR EVERY INPUT', by the rows' own cells (each row's printed sentence says how): AtomDoes: laid · AtomKeeps: laid · AtomApart: laid · AtomSees: laid.
  DERIVED. THE GIVEN ROWS OF THIS SEAT. 4 by the template 'for every input the law returns true; each argument reads behind the call as it read before'; 0 by the template 'total and deterministic' (their statements: YtpemapoblhleoaaGreatDoorTotals.lean).
  GIVEN WITH THE SEED: the statements are not yours to turn. If you find one false, say at which input.
  Laid BY PROGRAM, IN A SANDBOX (cutbox-rows.mjs): the forced cells as the released guide's own fill.sh prints them over the translation 6c2b45ce7da357ac… (all of the seat's roots in one cut). By AI agents, Wed Nov 11 2026. No macro, syntax, notation, axiom, sorry.
-/
import Derived.Test.YtpemapoblhleoaaGreatDoorChecked
import GoSem.Claim
import GoSem.ClaimJoined
import GoSem.ClaimMapViews
import Derived.JoinedTies
import Derived.KernelRfl
namespace Go.Proofs.YtpemapoblhleoaaGreatDoor
/- THE CELL 'sum', in the pinned program and in every row, IS THE sha256 OF THE DUMP (.gsa) THAT YtpemapoblhleoaaGreatDoorProg.lean LOADS. Nothing in Lean hashes anything: it is a label: what it is worth is what the hold of that sum in a sandbox is worth. -/
noncomputable def Tryz.pinned : Pinned := { name := "ytpemapoblhleoaagreatdoor", sum := "6c2b45ce7da357ac90c8c03c4b5f2d2108f79b2c3278ff901addcdda5b49dfcf", checked := Tryz.checked }
namespace Rows
def none {H : Type} : Left H := { results := [], args := [] }

/- WHAT THE LISTED PACKAGE-LEVEL VARIABLES READ AS WHEN THE CALL BEGINS. Each datum BY PROGRAM (the guide's laid-datum.mjs) off the statement by which the dump's own 'gosem.cut.vars' lays the variable. In a bare row this is a premise. The card (YtpemapoblhleoaaGreatDoorCards.lean) ties it to the program's text. -/
def laid_innkeep_cmd_kinds {H : Type} : DataW H := .agg [.lit (.string []), .lit (.string [109, 111, 118, 101]), .lit (.string [112, 117, 115, 104]), .lit (.string [103, 101, 116]), .lit (.string [100, 114, 111, 112]), .lit (.string [112, 117, 116]), .lit (.string [116, 97, 107, 101]), .lit (.string [103, 105, 118, 101]), .lit (.string [116, 114, 97, 100, 101]), .lit (.string [108, 111, 111, 107]), .lit (.string [111, 119, 110])]
def laid_innkeep_cmd_ways {H : Type} : DataW H := .agg [.lit (.string [110, 111, 114, 116, 104]), .lit (.string [101, 97, 115, 116]), .lit (.string [115, 111, 117, 116, 104]), .lit (.string [119, 101, 115, 116])]

/-- 'innkeeplaw13.AtomDoes': WHATEVER THE INPUT: true; the input reads as it did. -/
def atomDoesSpec : ChangeSpec := { name := "atomDoes", fn := fun _ => fun
  | [d1, d2, d3] => { results := [.lit (.bool true)], args := [d1, d2, d3] }
  | _ => none }
def atomDoesRow : OpenClaim := { program := "ytpemapoblhleoaagreatdoor", sum := "6c2b45ce7da357ac90c8c03c4b5f2d2108f79b2c3278ff901addcdda5b49dfcf", func := "innkeep/innkeeplaw13.AtomDoes", spec := "atomDoes", unfollowed := true, recurses := true, named := ["innkeep/cmd.kinds", "innkeep/cmd.ways"], apart := false, laid := [("innkeep/cmd.kinds", laid_innkeep_cmd_kinds), ("innkeep/cmd.ways", laid_innkeep_cmd_ways)] }
def AtomDoesSaid : Prop := atomDoesRow.holds Tryz.pinned (OpenSpec.ofChange atomDoesSpec)

/-- ITS FALSE NEIGHBOUR: 'it returns false'. Refute it at one input. -/
def atomDoesWrong : ChangeSpec := { name := "atomDoes", fn := fun _ => fun
  | [d1, d2, d3] => { results := [.lit (.bool false)], args := [d1, d2, d3] }
  | _ => none }
def AtomDoesWrongFalsely : Prop := atomDoesRow.holds Tryz.pinned (OpenSpec.ofChange atomDoesWrong)

/-- 'innkeeplaw13.AtomKeeps': WHATEVER THE INPUT: true; the input reads as it did. -/
def atomKeepsSpec : ChangeSpec := { name := "atomKeeps", fn := fun _ => fun
  | [d1, d2] => { results := [.lit (.bool true)], args := [d1, d2] }
  | _ => none }
def atomKeepsRow : OpenClaim := { program := "ytpemapoblhleoaagreatdoor", sum := "6c2b45ce7da357ac90c8c03c4b5f2d2108f79b2c3278ff901addcdda5b49dfcf", func := "innkeep/innkeeplaw13.AtomKeeps", spec := "atomKeeps", unfollowed := true, recurses := true, named := ["innkeep/cmd.kinds", "innkeep/cmd.ways"], apart := false, laid := [("innkeep/cmd.kinds", laid_innkeep_cmd_kinds), ("innkeep/cmd.ways", laid_innkeep_cmd_ways)] }
def AtomKeepsSaid : Prop := atomKeepsRow.holds Tryz.pinned (OpenSpec.ofChange atomKeepsSpec)

/-- ITS FALSE NEIGHBOUR: 'it returns false'. Refute it at one input. -/
def atomKeepsWrong : ChangeSpec := { name := "atomKeeps", fn := fun _ => fun
  | [d1, d2] => { results := [.lit (.bool false)], args := [d1, d2] }
  | _ => none }
def AtomKeepsWrongFalsely : Prop := atomKeepsRow.holds Tryz.pinned (OpenSpec.ofChange atomKeepsWrong)

/-- 'innkeeplaw13.AtomApart': WHATEVER THE INPUT: true; the input reads as it did. -/
def atomApartSpec : ChangeSpec := { name := "atomApart", fn := fun _ => fun
  | [d1, d2, d3, d4, d5] => { results := [.lit (.bool true)], args := [d1, d2, d3, d4, d5] }
  | _ => none }
def atomApartRow : OpenClaim := { program := "ytpemapoblhleoaagreatdoor", sum := "6c2b45ce7da357ac90c8c03c4b5f2d2108f79b2c3278ff901addcdda5b49dfcf", func := "innkeep/innkeeplaw13.AtomApart", spec := "atomApart", unfollowed := true, recurses := true, named := ["innkeep/cmd.kinds", "innkeep/cmd.ways"], apart := false, laid := [("innkeep/cmd.kinds", laid_innkeep_cmd_kinds), ("innkeep/cmd.ways", laid_innkeep_cmd_ways)] }
def AtomApartSaid : Prop := atomApartRow.holds Tryz.pinned (OpenSpec.ofChange atomApartSpec)

/-- ITS FALSE NEIGHBOUR: 'it returns false'. Refute it at one input. -/
def atomApartWrong : ChangeSpec := { name := "atomApart", fn := fun _ => fun
  | [d1, d2, d3, d4, d5] => { results := [.lit (.bool false)], args := [d1, d2, d3, d4, d5] }
  | _ => none }
def AtomApartWrongFalsely : Prop := atomApartRow.holds Tryz.pinned (OpenSpec.ofChange atomApartWrong)

/-- 'innkeeplaw13.AtomSees': WHATEVER THE INPUT: true; the input reads as it did. -/
def atomSeesSpec : ChangeSpec := { name := "atomSees", fn := fun _ => fun
  | [d1, d2, d3] => { results := [.lit (.bool true)], args := [d1, d2, d3] }
  | _ => none }
def atomSeesRow : OpenClaim := { program := "ytpemapoblhleoaagreatdoor", sum := "6c2b45ce7da357ac90c8c03c4b5f2d2108f79b2c3278ff901addcdda5b49dfcf", func := "innkeep/innkeeplaw13.AtomSees", spec := "atomSees", unfollowed := true, recurses := true, named := ["innkeep/cmd.kinds", "innkeep/cmd.ways"], apart := false, laid := [("innkeep/cmd.kinds", laid_innkeep_cmd_kinds), ("innkeep/cmd.ways", laid_innkeep_cmd_ways)] }
def AtomSeesSaid : Prop := atomSeesRow.holds Tryz.pinned (OpenSpec.ofChange atomSeesSpec)

/-- ITS FALSE NEIGHBOUR: 'it returns false'. Refute it at one input. -/
def atomSeesWrong : ChangeSpec := { name := "atomSees", fn := fun _ => fun
  | [d1, d2, d3] => { results := [.lit (.bool false)], args := [d1, d2, d3] }
  | _ => none }
def AtomSeesWrongFalsely : Prop := atomSeesRow.holds Tryz.pinned (OpenSpec.ofChange atomSeesWrong)

/- THE SECOND FORM. 'bulk': how many values and letters a reading holds, each counted each time it is reached (what is shared counts as often as it is met; a slice's spare places count too). A statement '..UptoSaid' is the law's where the arguments, and the package variables that the reading takes, are together of bulk at most 1048576: NARROWER than '..Said'. Prove '..Said' where nothing that the law and all that it calls make is longer than what came in: it says more and counts as full. Else prove '..UptoSaid'. A law counts once. -/
mutual
def uptoBulk {H : Type} : DataW H → Nat
  | .lit (.string bytes) => bytes.length + 1
  | .lit _ => 1
  | .nil => 1
  | .ptr d => uptoBulk d + 1
  | .slice elems spare => uptoBulkAll elems + uptoBulkAll spare + 1
  | .agg parts => uptoBulkAll parts + 1
  | .iface _ d => uptoBulk d + 1
  | .map entries => uptoBulkEntries entries + 1
  | .held _ => 1
def uptoBulkAll {H : Type} : List (DataW H) → Nat
  | [] => 0
  | d :: r => uptoBulk d + uptoBulkAll r
def uptoBulkEntries {H : Type} : List (Lit × DataW H) → Nat
  | [] => 0
  | x :: r => uptoBulkEntry x + uptoBulkEntries r
def uptoBulkEntry {H : Type} : Lit × DataW H → Nat
  | (.string bytes, d) => bytes.length + uptoBulk d + 1
  | (_, d) => uptoBulk d + 1
 end
def uptoSmall : (H : Type) → List (DataW H) → Bool := fun _ ds => decide (uptoBulkAll ds ≤ 1048576)
def OpenSpec.upto (s : _root_.Go.ChangeSpec) : _root_.Go.OpenSpec := { _root_.Go.OpenSpec.ofChange s with cond := some uptoSmall }

/-- 'innkeeplaw13.AtomDoes', WHERE WHAT IT READS IS OF BULK AT MOST 1048576: true; the input reads as it did. -/
def atomDoesUptoRow : OpenClaim := { program := "ytpemapoblhleoaagreatdoor", sum := "6c2b45ce7da357ac90c8c03c4b5f2d2108f79b2c3278ff901addcdda5b49dfcf", func := "innkeep/innkeeplaw13.AtomDoes", spec := "atomDoes", unfollowed := true, recurses := true, named := ["innkeep/cmd.kinds", "innkeep/cmd.ways"], apart := false, laid := [("innkeep/cmd.kinds", laid_innkeep_cmd_kinds), ("innkeep/cmd.ways", laid_innkeep_cmd_ways)], narrowed := true }
def AtomDoesUptoSaid : Prop := atomDoesUptoRow.holds Tryz.pinned (OpenSpec.upto atomDoesSpec)

/-- 'innkeeplaw13.AtomKeeps', WHERE WHAT IT READS IS OF BULK AT MOST 1048576: true; the input reads as it did. -/
def atomKeepsUptoRow : OpenClaim := { program := "ytpemapoblhleoaagreatdoor", sum := "6c2b45ce7da357ac90c8c03c4b5f2d2108f79b2c3278ff901addcdda5b49dfcf", func := "innkeep/innkeeplaw13.AtomKeeps", spec := "atomKeeps", unfollowed := true, recurses := true, named := ["innkeep/cmd.kinds", "innkeep/cmd.ways"], apart := false, laid := [("innkeep/cmd.kinds", laid_innkeep_cmd_kinds), ("innkeep/cmd.ways", laid_innkeep_cmd_ways)], narrowed := true }
def AtomKeepsUptoSaid : Prop := atomKeepsUptoRow.holds Tryz.pinned (OpenSpec.upto atomKeepsSpec)

/-- 'innkeeplaw13.AtomApart', WHERE WHAT IT READS IS OF BULK AT MOST 1048576: true; the input reads as it did. -/
def atomApartUptoRow : OpenClaim := { program := "ytpemapoblhleoaagreatdoor", sum := "6c2b45ce7da357ac90c8c03c4b5f2d2108f79b2c3278ff901addcdda5b49dfcf", func := "innkeep/innkeeplaw13.AtomApart", spec := "atomApart", unfollowed := true, recurses := true, named := ["innkeep/cmd.kinds", "innkeep/cmd.ways"], apart := false, laid := [("innkeep/cmd.kinds", laid_innkeep_cmd_kinds), ("innkeep/cmd.ways", laid_innkeep_cmd_ways)], narrowed := true }
def AtomApartUptoSaid : Prop := atomApartUptoRow.holds Tryz.pinned (OpenSpec.upto atomApartSpec)

/-- 'innkeeplaw13.AtomSees', WHERE WHAT IT READS IS OF BULK AT MOST 1048576: true; the input reads as it did. -/
def atomSeesUptoRow : OpenClaim := { program := "ytpemapoblhleoaagreatdoor", sum := "6c2b45ce7da357ac90c8c03c4b5f2d2108f79b2c3278ff901addcdda5b49dfcf", func := "innkeep/innkeeplaw13.AtomSees", spec := "atomSees", unfollowed := true, recurses := true, named := ["innkeep/cmd.kinds", "innkeep/cmd.ways"], apart := false, laid := [("innkeep/cmd.kinds", laid_innkeep_cmd_kinds), ("innkeep/cmd.ways", laid_innkeep_cmd_ways)], narrowed := true }
def AtomSeesUptoSaid : Prop := atomSeesUptoRow.holds Tryz.pinned (OpenSpec.upto atomSeesSpec)

end Rows
end Go.Proofs.YtpemapoblhleoaaGreatDoor
