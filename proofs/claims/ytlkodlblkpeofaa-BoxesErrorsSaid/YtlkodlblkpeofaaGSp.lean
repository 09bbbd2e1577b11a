/- What the functions come to whose answers are given: slices.Clone, slices.Collect over places, tree.Within. Conditions: none. -/
import Derived.Test.YtlkodlblkpeofaaU
set_option linter.unusedVariables false
set_option linter.unusedSimpArgs false
set_option linter.unusedSectionVars false
set_option linter.unnecessarySimpa false
namespace Go.Proofs.Ytlkodlblkpeofaa.Ghost
open Go
def cloneSp (e : Ty) (args : List SV) (res : List Sh) : Option (dShL res × Fresh) := match args with
  | [.dat τ x []] => (match castT τ (.sl e) x with
    | some l => if List.length (l : List (den e)) ≤ 1048576 then (match prjL res [.dat (.sl e) l []] with | some y => some (y, [(0, [])]) | none => none) else none
    | none => none)
  | _ => none
def collectSp (args : List SV) (res : List Sh) : Option (dShL res × Fresh) := match args with
  | [.clo g [.ref τ w, .ref σ i]] => (match Nat.beq g 58, castT τ tWorld w, castT σ (.int .i64) i with
    | true, some w, some i => if (0 : Int) ≤ i ∧ (i : Int) < (List.length (w.2.2.2.1 : List (den tPlace)) : Int) then (match upL w.2.2.2.1 60 (List.getD (w.2.2.2.1 : List (den tPlace)) (Int.toNat i) (dft tPlace)) with
      | some xs => (match prjL res [.dat (.sl tPlace) xs []] with | some y => some (y, [(0, [])]) | none => none)
      | none => none) else none
    | _, _, _ => none)
  | _ => none
def withinR (w : den tWorld) (i b : Int) : Option Bool := if i = b then some true else if (0 : Int) ≤ i ∧ i < (List.length (w.2.2.2.1 : List (den tPlace)) : Int) then (match upL w.2.2.2.1 60 (List.getD (w.2.2.2.1 : List (den tPlace)) (Int.toNat i) (dft tPlace)) with
      | some xs => some (xs.any (fun x => eqT tPlace x (boxPl b)))
      | none => none) else none
def withinSp (args : List SV) (res : List Sh) : Option (dShL res × Fresh) := match args with
  | [.dat τ w [], .dat σ i [], .dat σ' b []] => (match castT τ tWorld w, castT σ (.int .i64) i, castT σ' (.int .i64) b with
    | some w, some i, some b => (match withinR w i b with
      | some r => (match prjL res [.dat .bool r []] with | some y => some (y, []) | none => none)
      | none => none)
    | _, _, _ => none)
  | _ => none
def sp : Calls := fun f args res => match f with
  | 60 => cloneSp (.int .i64) args res
  | 61 => cloneSp tPlace args res
  | 55 => collectSp args res
  | 31 => withinSp args res
  | _ => none
end Go.Proofs.Ytlkodlblkpeofaa.Ghost
