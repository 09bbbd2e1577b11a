/- What the functions come to whose answers are given: slices.Clone, slices.Collect over places, tree.Within. Conditions: none. -/
import Derived.Test.YtdbogcinhmfmpaaGF
set_option linter.unusedVariables false
set_option linter.unusedSimpArgs false
set_option linter.unusedSectionVars false
set_option linter.unnecessarySimpa false
namespace Go.Proofs.Ytdbogcinhmfmpaa.Ghost
open Go
def cloneSp (e : Ty) (args : List SV) (res : List Sh) : Option (dShL res × Fresh) := match args with
  | [.dat τ x []] => (match castT τ (.sl e) x with
    | some l => if List.length (l : List (den e)) ≤ 1048576 then (match prjL res [.dat (.sl e) l []] with | some y => some (y, [(0, [])]) | none => none) else none
    | none => none)
  | _ => none
def catSp (args : List SV) (res : List Sh) : Option (dShL res × Fresh) := match args with
  | [.dat τ x []] => (match castT τ (.sl (.sl (.int .i64))) x with
    | some [a, b] => if List.length (a : List Int) ≤ 524288 ∧ List.length (b : List Int) ≤ 524288 then (match prjL res [.dat (.sl (.int .i64)) ((a : List Int) ++ (b : List Int)) []] with | some y => some (y, [(0, [])]) | none => none) else none
    | _ => none)
  | _ => none
def sp : Calls := fun f args res => match f with
  | 52 => cloneSp (.int .i64) args res
  | 53 => cloneSp tPlace args res
  | 33 => catSp args res
  | _ => none
end Go.Proofs.Ytdbogcinhmfmpaa.Ghost
