/- What the functions come to whose answers are given: slices.Clone, slices.Collect over places, tree.Within. Conditions: none. -/
import Derived.Test.YtkjcmjfdkmnikaaGF
set_option linter.unusedVariables false
set_option linter.unusedSimpArgs false
set_option linter.unusedSectionVars false
set_option linter.unnecessarySimpa false
namespace Go.Proofs.Ytkjcmjfdkmnikaa.Ghost
open Go
def cloneSp (e : Ty) (args : List SV) (res : List Sh) : Option (dShL res × Fresh) := match args with
  | [.dat τ x []] => (match castT τ (.sl e) x with
    | some l => if List.length (l : List (den e)) ≤ 1048576 then (match prjL res [.dat (.sl e) l []] with | some y => some (y, [(0, [])]) | none => none) else none
    | none => none)
  | _ => none
def sp : Calls := fun f args res => match f with
  | 21 => cloneSp (.int .i64) args res
  | 44 => cloneSp tPlace args res
  | _ => none
end Go.Proofs.Ytkjcmjfdkmnikaa.Ghost
