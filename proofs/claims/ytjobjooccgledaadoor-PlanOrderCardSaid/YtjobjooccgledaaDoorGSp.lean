/- What the functions come to whose answers are given: slices.Clone, slices.Collect over places, tree.Within. Conditions: none. -/
import Derived.Test.YtjobjooccgledaaDoorGF
set_option linter.unusedVariables false
set_option linter.unusedSimpArgs false
set_option linter.unusedSectionVars false
set_option linter.unnecessarySimpa false
namespace Go.Proofs.YtjobjooccgledaaDoor.Ghost
open Go
def cloneSp (e:Ty) (args:List SV) (res:List Sh):Option (dShL res×Fresh):=match args with
  | [.dat τ x []]=>(match castT τ (.sl e) x with
    | some l=>if List.length (l:List (den e))≤1048576 then (match prjL res [.dat (.sl e) l []] with | some y=>some (y,[(0,[])]) | none=>none) else none
    | none=>none)
  | _=>none
def setI {α:Type} (l:List α) (i:Int) (x:α):Option (List α):=if 0≤i∧i<((List.length l:Nat):Int) then some (List.set l i.toNat x) else none
def wrW (w:den tWorld) (x:den tWrite):Option (den tWorld) :=
  bif decide (x.1=(0:Int)) then (match setI (w.2.1:List Int) x.2.1 x.2.2.1 with | some l=>some (w.1,l,w.2.2.1,w.2.2.2.1,()) | none=>none)
  else bif decide (x.1=(1:Int)) then (match setI (w.2.2.1:List Int) x.2.1 x.2.2.1 with | some l=>some (w.1,w.2.1,l,w.2.2.2.1,()) | none=>none)
  else bif decide (x.1=(2:Int)) then (match setI (w.2.2.2.1:List (den tPlace)) x.2.1 x.2.2.2.1 with | some l=>some (w.1,w.2.1,w.2.2.1,l,()) | none=>none)
  else some w
def allW:den tWorld→List (den tWrite)→Option (den tWorld)
  | w,[]=>some w
  | w,x :: r=>match wrW w x with | some w'=>allW w' r | none=>none
def allSp (args:List SV) (res:List Sh):Option (dShL res×Fresh):=match args with
  | [.dat τ x [],.dat σ y []]=>(match castT τ tWorld x,castT σ (.sl tWrite) y with
    | some w,some l=>if List.length (w.2.1:List Int)≤1048576∧List.length (w.2.2.1:List Int)≤1048576∧List.length (w.2.2.2.1:List (den tPlace))≤1048576∧List.length (l:List (den tWrite))≤1048576 then (match allW w l with
      | some w'=>(match prjL res [.dat tWorld w' []] with | some y=>some (y,[(0,[1]),(0,[2]),(0,[3])]) | none=>none)
      | none=>none) else none
    | _,_=>none)
  | _=>none
def sp0:Calls:=fun f args res=>match f with
  | 26=>cloneSp (.int .i64) args res
  | 27=>cloneSp tPlace args res
  | _=>none
def sp:Calls:=fun f args res=>match f with
  | 26=>cloneSp (.int .i64) args res
  | 27=>cloneSp tPlace args res
  | 15=>allSp args res
  | _=>none
end Go.Proofs.YtjobjooccgledaaDoor.Ghost
