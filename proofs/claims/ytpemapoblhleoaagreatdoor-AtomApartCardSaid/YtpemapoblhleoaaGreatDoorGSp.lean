/- What the functions come to whose answers are given: slices.Clone, slices.Collect over places, tree.Within. Conditions: none. -/
import Derived.Test.YtpemapoblhleoaaGreatDoorU
set_option linter.unusedVariables false
set_option linter.unusedSimpArgs false
set_option linter.unusedSectionVars false
set_option linter.unnecessarySimpa false
namespace Go.Proofs.YtpemapoblhleoaaGreatDoor.Ghost
open Go
def Di (e:Ty) (args:List SV) (res:List Sh):Option (Z8 res×Zz):=match args with
  | [.dat τ x []]=>(match Jg τ (.sl e) x with
    | some l=>if List.length (l:List (den e))≤1048576 then (match R8 res [.dat (.sl e) l []] with | some y=>some (y,[(0,[])]) | none=>none) else none
    | none=>none)
  | _=>none
def Fc (args:List SV) (res:List Sh):Option (Z8 res×Zz):=match args with
  | [.clo g [.ref τ w,.ref σ i]]=>(match Nat.beq g 138,Jg τ Za w,Jg σ (.int .i64) i with
    | true,some w,some i=>if (0:Int)≤i∧(i:Int)<(List.length (w.2.2.2.1:List (den Zb)):Int) then (match upL w.2.2.2.1 60 (List.getD (w.2.2.2.1:List (den Zb)) (Int.toNat i) (dft Zb)) with
      | some xs=>(match R8 res [.dat (.sl Zb) xs []] with | some y=>some (y,[(0,[])]) | none=>none)
      | none=>none) else none
    | _,_,_=>none)
  | _=>none
def Dp (w:den Za) (i b:Int):Option Bool:=if i=b then some true else if (0:Int)≤i∧i<(List.length (w.2.2.2.1:List (den Zb)):Int) then (match upL w.2.2.2.1 60 (List.getD (w.2.2.2.1:List (den Zb)) (Int.toNat i) (dft Zb)) with
      | some xs=>some (xs.any (fun x=>eqT Zb x (Yx b)))
      | none=>none) else none
def B4 (args:List SV) (res:List Sh):Option (Z8 res×Zz):=match args with
  | [.dat τ w [],.dat σ i [],.dat σ' b []]=>(match Jg τ Za w,Jg σ (.int .i64) i,Jg σ' (.int .i64) b with
    | some w,some i,some b=>(match Dp w i b with
      | some r=>(match R8 res [.dat .bool r []] with | some y=>some (y,[]) | none=>none)
      | none=>none)
    | _,_,_=>none)
  | _=>none
def AKp (args:List SV) (res:List Sh):Option (Z8 res×Zz):=match args with
  | [.dat τ x []]=>(match Jg τ (.sl (.sl (.int .i64))) x with
    | some [a,b]=>if List.length (a:List Int)≤524288∧List.length (b:List Int)≤524288 then (match R8 res [.dat (.sl (.int .i64)) ((a:List Int) ++ (b:List Int)) []] with | some y=>some (y,[(0,[])]) | none=>none) else none
    | _=>none)
  | _=>none
def ABo:List (Int×FuncId×FuncId):=[(1,(86,52)),(2,(86,54)),(3,(91,57)),(4,(91,59)),(5,(91,61)),(6,(91,63)),(7,(91,65)),(8,(91,67)),(9,(123,69)),(10,(123,70))]
def ABp (args:List SV) (res:List Sh):Option (Z8 res×Zz):=match args with
  | []=>(match R8 res [.fmap (ABo.map (·.1)) (ABo.map fun p=>.clo p.2.1 [.refv (.clo p.2.2 [])])] with | some y=>some (y,[]) | none=>none)
  | _=>none
def sp:Calls:=fun f args res=>match f with
  | 136=>Di (.int .i64) args res
  | 137=>Di Zb args res
  | 132=>Fc args res
  | 101=>B4 args res
  | 116=>AKp args res
  | 22=>ABp args res
  | _=>none
end Go.Proofs.YtpemapoblhleoaaGreatDoor.Ghost
