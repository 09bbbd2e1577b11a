/-
  NARROWER THAN 'FOR EVERY INPUT', by the rows' own cells (each row's printed sentence says how): PlanTells: laid · PlanSettles: laid · PlanKeeps: laid · PlanOrder: laid.
  DERIVED. THE GIVEN ROWS OF THIS SEAT. 4 by the template 'for every input the law returns true; each argument reads behind the call as it read before'; 0 by the template 'total and deterministic' (their statements: YtjobjooccgledaaDoorTotals.lean).
  GIVEN WITH THE SEED: the statements are not yours to turn. If you find one false, say at which input.
  Laid BY PROGRAM, IN A SANDBOX (cutbox-rows.mjs): the forced cells as the released guide's own fill.sh prints them over the translation 88855cf22b1f1297… (all of the seat's roots in one cut). By AI agents, Wed Nov 11 2026. No macro, syntax, notation, axiom, sorry.
-/
import Derived.Test.YtjobjooccgledaaDoorChecked
import GoSem.Claim
import GoSem.ClaimJoined
import GoSem.ClaimMapViews
import Derived.JoinedTies
import Derived.KernelRfl
namespace Go.Proofs.YtjobjooccgledaaDoor
/- THE CELL 'sum', in the pinned program and in every row, IS THE sha256 OF THE DUMP (.gsa) THAT YtjobjooccgledaaDoorProg.lean LOADS. Nothing in Lean hashes anything: it is a label: what it is worth is what the hold of that sum in a sandbox is worth. -/
noncomputable def Tryd.pinned : Pinned := { name := "ytjobjooccgledaadoor", sum := "88855cf22b1f1297a3a8b7747e7f8328182e2424a1d202c08b2b21d5192b1d91", checked := Tryd.checked }
namespace Rows
def none {H : Type} : Left H := { results := [], args := [] }

/- WHAT THE LISTED PACKAGE-LEVEL VARIABLES READ AS WHEN THE CALL BEGINS. Each datum BY PROGRAM (the guide's laid-datum.mjs) off the statement by which the dump's own 'gosem.cut.vars' lays the variable. In a bare row this is a premise. The card (YtjobjooccgledaaDoorCards.lean) ties it to the program's text. -/
def laid_innkeep_plan_deeds {H : Type} : DataW H := .iface "func table" (.map [(.int .i64 0, .iface "func" (.lit (.string [40, 105, 110, 110, 107, 101, 101, 112, 47, 112, 108, 97, 110, 46, 115, 116, 97, 116, 101, 41, 46, 114, 111, 111, 109]))), (.int .i64 1, .iface "func" (.lit (.string [40, 105, 110, 110, 107, 101, 101, 112, 47, 112, 108, 97, 110, 46, 115, 116, 97, 116, 101, 41, 46, 99, 111, 105, 110, 115]))), (.int .i64 2, .iface "func" (.lit (.string [40, 105, 110, 110, 107, 101, 101, 112, 47, 112, 108, 97, 110, 46, 115, 116, 97, 116, 101, 41, 46, 112, 108, 97, 99, 101])))])

/-- 'innkeeplaw18.PlanTells': WHATEVER THE INPUT: true; the input reads as it did. -/
def planTellsSpec : ChangeSpec := { name := "planTells", fn := fun _ => fun
  | [d1, d2, d3] => { results := [.lit (.bool true)], args := [d1, d2, d3] }
  | _ => none }
def planTellsRow : OpenClaim := { program := "ytjobjooccgledaadoor", sum := "88855cf22b1f1297a3a8b7747e7f8328182e2424a1d202c08b2b21d5192b1d91", func := "innkeep/innkeeplaw18.PlanTells", spec := "planTells", unfollowed := true, recurses := true, named := ["innkeep/plan.deeds"], apart := false, laid := [("innkeep/plan.deeds", laid_innkeep_plan_deeds)] }
def PlanTellsSaid : Prop := planTellsRow.holds Tryd.pinned (OpenSpec.ofChange planTellsSpec)

/-- ITS FALSE NEIGHBOUR: 'it returns false'. Refute it at one input. -/
def planTellsWrong : ChangeSpec := { name := "planTells", fn := fun _ => fun
  | [d1, d2, d3] => { results := [.lit (.bool false)], args := [d1, d2, d3] }
  | _ => none }
def PlanTellsWrongFalsely : Prop := planTellsRow.holds Tryd.pinned (OpenSpec.ofChange planTellsWrong)

/-- 'innkeeplaw18.PlanSettles': WHATEVER THE INPUT: true; the input reads as it did. -/
def planSettlesSpec : ChangeSpec := { name := "planSettles", fn := fun _ => fun
  | [d1, d2, d3, d4] => { results := [.lit (.bool true)], args := [d1, d2, d3, d4] }
  | _ => none }
def planSettlesRow : OpenClaim := { program := "ytjobjooccgledaadoor", sum := "88855cf22b1f1297a3a8b7747e7f8328182e2424a1d202c08b2b21d5192b1d91", func := "innkeep/innkeeplaw18.PlanSettles", spec := "planSettles", unfollowed := true, recurses := true, named := ["innkeep/plan.deeds"], apart := false, laid := [("innkeep/plan.deeds", laid_innkeep_plan_deeds)] }
def PlanSettlesSaid : Prop := planSettlesRow.holds Tryd.pinned (OpenSpec.ofChange planSettlesSpec)

/-- ITS FALSE NEIGHBOUR: 'it returns false'. Refute it at one input. -/
def planSettlesWrong : ChangeSpec := { name := "planSettles", fn := fun _ => fun
  | [d1, d2, d3, d4] => { results := [.lit (.bool false)], args := [d1, d2, d3, d4] }
  | _ => none }
def PlanSettlesWrongFalsely : Prop := planSettlesRow.holds Tryd.pinned (OpenSpec.ofChange planSettlesWrong)

/-- 'innkeeplaw18.PlanKeeps': WHATEVER THE INPUT: true; the input reads as it did. -/
def planKeepsSpec : ChangeSpec := { name := "planKeeps", fn := fun _ => fun
  | [d1, d2] => { results := [.lit (.bool true)], args := [d1, d2] }
  | _ => none }
def planKeepsRow : OpenClaim := { program := "ytjobjooccgledaadoor", sum := "88855cf22b1f1297a3a8b7747e7f8328182e2424a1d202c08b2b21d5192b1d91", func := "innkeep/innkeeplaw18.PlanKeeps", spec := "planKeeps", unfollowed := true, recurses := true, named := ["innkeep/plan.deeds"], apart := false, laid := [("innkeep/plan.deeds", laid_innkeep_plan_deeds)] }
def PlanKeepsSaid : Prop := planKeepsRow.holds Tryd.pinned (OpenSpec.ofChange planKeepsSpec)

/-- ITS FALSE NEIGHBOUR: 'it returns false'. Refute it at one input. -/
def planKeepsWrong : ChangeSpec := { name := "planKeeps", fn := fun _ => fun
  | [d1, d2] => { results := [.lit (.bool false)], args := [d1, d2] }
  | _ => none }
def PlanKeepsWrongFalsely : Prop := planKeepsRow.holds Tryd.pinned (OpenSpec.ofChange planKeepsWrong)

/-- 'innkeeplaw18.PlanOrder': WHATEVER THE INPUT: true; the input reads as it did. -/
def planOrderSpec : ChangeSpec := { name := "planOrder", fn := fun _ => fun
  | [d1, d2, d3] => { results := [.lit (.bool true)], args := [d1, d2, d3] }
  | _ => none }
def planOrderRow : OpenClaim := { program := "ytjobjooccgledaadoor", sum := "88855cf22b1f1297a3a8b7747e7f8328182e2424a1d202c08b2b21d5192b1d91", func := "innkeep/innkeeplaw18.PlanOrder", spec := "planOrder", unfollowed := true, recurses := true, named := ["innkeep/plan.deeds"], apart := false, laid := [("innkeep/plan.deeds", laid_innkeep_plan_deeds)] }
def PlanOrderSaid : Prop := planOrderRow.holds Tryd.pinned (OpenSpec.ofChange planOrderSpec)

/-- ITS FALSE NEIGHBOUR: 'it returns false'. Refute it at one input. -/
def planOrderWrong : ChangeSpec := { name := "planOrder", fn := fun _ => fun
  | [d1, d2, d3] => { results := [.lit (.bool false)], args := [d1, d2, d3] }
  | _ => none }
def PlanOrderWrongFalsely : Prop := planOrderRow.holds Tryd.pinned (OpenSpec.ofChange planOrderWrong)

/- THE SECOND FORM. 'bulk': how many values and letters a reading holds, each counted each time it is reached (what is shared counts as often as it is met; a slice's spare places count too). A statement '..UptoSaid' is the law's where the arguments, and the package variables that the reading takes, are together of bulk at most 1048576: NARROWER than '..Said'. Prove '..Said' where nothing that the law and all that it calls make is longer than what came in: it says more and counts as full. Else prove '..UptoSaid'. A law counts once. -/
mutual
def uptoBulk {H : Type} : DataW H → Nat
  | .lit (.string bytes) => bytes.length + 1
  | .lit _ => 1
  | .nil => 1
  | .ptr d => uptoBulk d + 1
  | .slice elems spare => uptoBulkAll elems + uptoBulkAll spare + 1
  | .agg parts => uptoBulkAll parts + 1
  | .iface _ d => uptoBulk d + 1
  | .map entries => uptoBulkEntries entries + 1
  | .held _ => 1
def uptoBulkAll {H : Type} : List (DataW H) → Nat
  | [] => 0
  | d :: r => uptoBulk d + uptoBulkAll r
def uptoBulkEntries {H : Type} : List (Lit × DataW H) → Nat
  | [] => 0
  | x :: r => uptoBulkEntry x + uptoBulkEntries r
def uptoBulkEntry {H : Type} : Lit × DataW H → Nat
  | (.string bytes, d) => bytes.length + uptoBulk d + 1
  | (_, d) => uptoBulk d + 1
 end
def uptoSmall : (H : Type) → List (DataW H) → Bool := fun _ ds => decide (uptoBulkAll ds ≤ 1048576)
def OpenSpec.upto (s : _root_.Go.ChangeSpec) : _root_.Go.OpenSpec := { _root_.Go.OpenSpec.ofChange s with cond := some uptoSmall }

/-- 'innkeeplaw18.PlanTells', WHERE WHAT IT READS IS OF BULK AT MOST 1048576: true; the input reads as it did. -/
def planTellsUptoRow : OpenClaim := { program := "ytjobjooccgledaadoor", sum := "88855cf22b1f1297a3a8b7747e7f8328182e2424a1d202c08b2b21d5192b1d91", func := "innkeep/innkeeplaw18.PlanTells", spec := "planTells", unfollowed := true, recurses := true, named := ["innkeep/plan.deeds"], apart := false, laid := [("innkeep/plan.deeds", laid_innkeep_plan_deeds)], narrowed := true }
def PlanTellsUptoSaid : Prop := planTellsUptoRow.holds Tryd.pinned (OpenSpec.upto planTellsSpec)

/-- 'innkeeplaw18.PlanSettles', WHERE WHAT IT READS IS OF BULK AT MOST 1048576: true; the input reads as it did. -/
def planSettlesUptoRow : OpenClaim := { program := "ytjobjooccgledaadoor", sum := "88855cf22b1f1297a3a8b7747e7f8328182e2424a1d202c08b2b21d5192b1d91", func := "innkeep/innkeeplaw18.PlanSettles", spec := "planSettles", unfollowed := true, recurses := true, named := ["innkeep/plan.deeds"], apart := false, laid := [("innkeep/plan.deeds", laid_innkeep_plan_deeds)], narrowed := true }
def PlanSettlesUptoSaid : Prop := planSettlesUptoRow.holds Tryd.pinned (OpenSpec.upto planSettlesSpec)

/-- 'innkeeplaw18.PlanKeeps', WHERE WHAT IT READS IS OF BULK AT MOST 1048576: true; the input reads as it did. -/
def planKeepsUptoRow : OpenClaim := { program := "ytjobjooccgledaadoor", sum := "88855cf22b1f1297a3a8b7747e7f8328182e2424a1d202c08b2b21d5192b1d91", func := "innkeep/innkeeplaw18.PlanKeeps", spec := "planKeeps", unfollowed := true, recurses := true, named := ["innkeep/plan.deeds"], apart := false, laid := [("innkeep/plan.deeds", laid_innkeep_plan_deeds)], narrowed := true }
def PlanKeepsUptoSaid : Prop := planKeepsUptoRow.holds Tryd.pinned (OpenSpec.upto planKeepsSpec)

/-- 'innkeeplaw18.PlanOrder', WHERE WHAT IT READS IS OF BULK AT MOST 1048576: true; the input reads as it did. -/
def planOrderUptoRow : OpenClaim := { program := "ytjobjooccgledaadoor", sum := "88855cf22b1f1297a3a8b7747e7f8328182e2424a1d202c08b2b21d5192b1d91", func := "innkeep/innkeeplaw18.PlanOrder", spec := "planOrder", unfollowed := true, recurses := true, named := ["innkeep/plan.deeds"], apart := false, laid := [("innkeep/plan.deeds", laid_innkeep_plan_deeds)], narrowed := true }
def PlanOrderUptoSaid : Prop := planOrderUptoRow.holds Tryd.pinned (OpenSpec.upto planOrderSpec)

end Rows
end Go.Proofs.YtjobjooccgledaaDoor
