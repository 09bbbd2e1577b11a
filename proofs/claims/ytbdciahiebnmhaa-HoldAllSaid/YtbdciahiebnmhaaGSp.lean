/- What the functions come to whose answers are given: slices.Clone. Conditions: none. -/
import Derived.Test.YtbdciahiebnmhaaGF
namespace Go.Proofs.Ytbdciahiebnmhaa.Ghost
open Go
def cloneSp (e : Ty) (args : List SV) (res : List Sh) : Option (dShL res × Fresh) := match args with
  | [.dat τ x []] => (match castT τ (.sl e) x with
    | some l => if List.length (l : List (den e)) ≤ 1048576 then (match prjL res [.dat (.sl e) l []] with | some y => some (y, [(0, [])]) | none => none) else none
    | none => none)
  | _ => none
def sp : Calls := fun f args res => match f with
  | 38 => cloneSp (.int .i64) args res
  | 39 => cloneSp tPlace args res
  | _ => none
end Go.Proofs.Ytbdciahiebnmhaa.Ghost
