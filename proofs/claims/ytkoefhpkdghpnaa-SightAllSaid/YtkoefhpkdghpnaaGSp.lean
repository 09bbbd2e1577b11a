/- What the functions come to whose answers are given: slices.Clone, slices.Collect over places, tree.Within. Conditions: none. -/
import Derived.Test.YtkoefhpkdghpnaaU
set_option linter.unusedVariables false
set_option linter.unusedSimpArgs false
set_option linter.unusedSectionVars false
set_option linter.unnecessarySimpa false
namespace Go.Proofs.Ytkoefhpkdghpnaa.Ghost
open Go
def collectSp (args : List SV) (res : List Sh) : Option (dShL res × Fresh) := match args with
  | [.clo g [.ref τ w, .ref σ i]] => (match Nat.beq g 40, castT τ tWorld w, castT σ (.int .i64) i with
    | true, some w, some i => if (0 : Int) ≤ i ∧ (i : Int) < (List.length (w.2.2.2.1 : List (den tPlace)) : Int) then (match upL w.2.2.2.1 60 (List.getD (w.2.2.2.1 : List (den tPlace)) (Int.toNat i) (dft tPlace)) with
      | some xs => (match prjL res [.dat (.sl tPlace) xs []] with | some y => some (y, [(0, [])]) | none => none)
      | none => none) else none
    | _, _, _ => none)
  | _ => none
def sp : Calls := fun f args res => match f with
  | 37 => collectSp args res
  | _ => none
end Go.Proofs.Ytkoefhpkdghpnaa.Ghost
