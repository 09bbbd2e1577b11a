/-
  NARROWER THAN 'FOR EVERY INPUT', by the rows' own cells (each row's printed sentence says how): PlanMakes: laid.
  DERIVED. THE GIVEN ROWS OF THIS SEAT. 1 by the template 'for every input the law returns true; each argument reads behind the call as it read before'; 0 by the template 'total and deterministic' (their statements: YtjobjooccgledaaGreatDoorTotals.lean).
  GIVEN WITH THE SEED: the statements are not yours to turn. If you find one false, say at which input.
  Laid BY PROGRAM, IN A SANDBOX (cutbox-rows.mjs): the forced cells as the released guide's own fill.sh prints them over the translation 1ef3625a5a36e00b… (all of the seat's roots in one cut). By AI agents, Wed Nov 11 2026. No macro, syntax, notation, axiom, sorry.
-/
import Derived.Test.YtjobjooccgledaaGreatDoorChecked
import GoSem.Claim
import GoSem.ClaimJoined
import GoSem.ClaimMapViews
import Derived.JoinedTies
import Derived.KernelRfl
namespace Go.Proofs.YtjobjooccgledaaGreatDoor
/- THE CELL 'sum', in the pinned program and in every row, IS THE sha256 OF THE DUMP (.gsa) THAT YtjobjooccgledaaGreatDoorProg.lean LOADS. Nothing in Lean hashes anything: it is a label: what it is worth is what the hold of that sum in a sandbox is worth. -/
noncomputable def Tryz.pinned : Pinned := { name := "ytjobjooccgledaagreatdoor", sum := "1ef3625a5a36e00b803b0153311e385d648786c9cc08d5727fc2a0177e301e15", checked := Tryz.checked }
namespace Rows
def none {H : Type} : Left H := { results := [], args := [] }

/- WHAT THE LISTED PACKAGE-LEVEL VARIABLES READ AS WHEN THE CALL BEGINS. Each datum BY PROGRAM (the guide's laid-datum.mjs) off the statement by which the dump's own 'gosem.cut.vars' lays the variable. In a bare row this is a premise. The card (YtjobjooccgledaaGreatDoorCards.lean) ties it to the program's text. -/
def laid_innkeep_cmd_kinds {H : Type} : DataW H := .agg [.lit (.string []), .lit (.string [109, 111, 118, 101]), .lit (.string [112, 117, 115, 104]), .lit (.string [103, 101, 116]), .lit (.string [100, 114, 111, 112]), .lit (.string [112, 117, 116]), .lit (.string [116, 97, 107, 101]), .lit (.string [103, 105, 118, 101]), .lit (.string [116, 114, 97, 100, 101]), .lit (.string [108, 111, 111, 107]), .lit (.string [111, 119, 110])]
def laid_innkeep_cmd_ways {H : Type} : DataW H := .agg [.lit (.string [110, 111, 114, 116, 104]), .lit (.string [101, 97, 115, 116]), .lit (.string [115, 111, 117, 116, 104]), .lit (.string [119, 101, 115, 116])]
def laid_innkeep_plan_deeds {H : Type} : DataW H := .iface "func table" (.map [(.int .i64 0, .iface "func" (.lit (.string [40, 105, 110, 110, 107, 101, 101, 112, 47, 112, 108, 97, 110, 46, 115, 116, 97, 116, 101, 41, 46, 114, 111, 111, 109]))), (.int .i64 1, .iface "func" (.lit (.string [40, 105, 110, 110, 107, 101, 101, 112, 47, 112, 108, 97, 110, 46, 115, 116, 97, 116, 101, 41, 46, 99, 111, 105, 110, 115]))), (.int .i64 2, .iface "func" (.lit (.string [40, 105, 110, 110, 107, 101, 101, 112, 47, 112, 108, 97, 110, 46, 115, 116, 97, 116, 101, 41, 46, 112, 108, 97, 99, 101])))])

/-- 'innkeeplaw18.PlanMakes': WHATEVER THE INPUT: true; the input reads as it did. -/
def planMakesSpec : ChangeSpec := { name := "planMakes", fn := fun _ => fun
  | [d1, d2, d3, d4] => { results := [.lit (.bool true)], args := [d1, d2, d3, d4] }
  | _ => none }
def planMakesRow : OpenClaim := { program := "ytjobjooccgledaagreatdoor", sum := "1ef3625a5a36e00b803b0153311e385d648786c9cc08d5727fc2a0177e301e15", func := "innkeep/innkeeplaw18.PlanMakes", spec := "planMakes", unfollowed := true, recurses := true, named := ["innkeep/plan.deeds", "innkeep/cmd.kinds", "innkeep/cmd.ways"], apart := false, laid := [("innkeep/cmd.kinds", laid_innkeep_cmd_kinds), ("innkeep/cmd.ways", laid_innkeep_cmd_ways), ("innkeep/plan.deeds", laid_innkeep_plan_deeds)] }
def PlanMakesSaid : Prop := planMakesRow.holds Tryz.pinned (OpenSpec.ofChange planMakesSpec)

/-- ITS FALSE NEIGHBOUR: 'it returns false'. Refute it at one input. -/
def planMakesWrong : ChangeSpec := { name := "planMakes", fn := fun _ => fun
  | [d1, d2, d3, d4] => { results := [.lit (.bool false)], args := [d1, d2, d3, d4] }
  | _ => none }
def PlanMakesWrongFalsely : Prop := planMakesRow.holds Tryz.pinned (OpenSpec.ofChange planMakesWrong)

/- THE SECOND FORM. 'bulk': how many values and letters a reading holds, each counted each time it is reached (what is shared counts as often as it is met; a slice's spare places count too). A statement '..UptoSaid' is the law's where the arguments, and the package variables that the reading takes, are together of bulk at most 1048576: NARROWER than '..Said'. Prove '..Said' where nothing that the law and all that it calls make is longer than what came in: it says more and counts as full. Else prove '..UptoSaid'. A law counts once. -/
mutual
def uptoBulk {H : Type} : DataW H → Nat
  | .lit (.string bytes) => bytes.length + 1
  | .lit _ => 1
  | .nil => 1
  | .ptr d => uptoBulk d + 1
  | .slice elems spare => uptoBulkAll elems + uptoBulkAll spare + 1
  | .agg parts => uptoBulkAll parts + 1
  | .iface _ d => uptoBulk d + 1
  | .map entries => uptoBulkEntries entries + 1
  | .held _ => 1
def uptoBulkAll {H : Type} : List (DataW H) → Nat
  | [] => 0
  | d :: r => uptoBulk d + uptoBulkAll r
def uptoBulkEntries {H : Type} : List (Lit × DataW H) → Nat
  | [] => 0
  | x :: r => uptoBulkEntry x + uptoBulkEntries r
def uptoBulkEntry {H : Type} : Lit × DataW H → Nat
  | (.string bytes, d) => bytes.length + uptoBulk d + 1
  | (_, d) => uptoBulk d + 1
 end
def uptoSmall : (H : Type) → List (DataW H) → Bool := fun _ ds => decide (uptoBulkAll ds ≤ 1048576)
def OpenSpec.upto (s : _root_.Go.ChangeSpec) : _root_.Go.OpenSpec := { _root_.Go.OpenSpec.ofChange s with cond := some uptoSmall }

/-- 'innkeeplaw18.PlanMakes', WHERE WHAT IT READS IS OF BULK AT MOST 1048576: true; the input reads as it did. -/
def planMakesUptoRow : OpenClaim := { program := "ytjobjooccgledaagreatdoor", sum := "1ef3625a5a36e00b803b0153311e385d648786c9cc08d5727fc2a0177e301e15", func := "innkeep/innkeeplaw18.PlanMakes", spec := "planMakes", unfollowed := true, recurses := true, named := ["innkeep/plan.deeds", "innkeep/cmd.kinds", "innkeep/cmd.ways"], apart := false, laid := [("innkeep/cmd.kinds", laid_innkeep_cmd_kinds), ("innkeep/cmd.ways", laid_innkeep_cmd_ways), ("innkeep/plan.deeds", laid_innkeep_plan_deeds)], narrowed := true }
def PlanMakesUptoSaid : Prop := planMakesUptoRow.holds Tryz.pinned (OpenSpec.upto planMakesSpec)

end Rows
end Go.Proofs.YtjobjooccgledaaGreatDoor
