/- What the functions come to whose answers are given: slices.Clone, slices.Collect over places, tree.Within. Conditions: none. -/
import Derived.Test.YtjobjooccgledaaGreatDoorU
set_option linter.unusedVariables false
set_option linter.unusedSimpArgs false
set_option linter.unusedSectionVars false
set_option linter.unnecessarySimpa false
namespace Go.Proofs.YtjobjooccgledaaGreatDoor.Ghost
open Go
def U0 (e:Ty) (args:List SV) (res:List Sh):Option (Xc res×Zz):=match args with
  | [.dat τ x []]=>(match Jc τ (.sl e) x with
    | some l=>if List.length (l:List (den e))≤1048576 then (match Tz res [.dat (.sl e) l []] with | some y=>some (y,[(0,[])]) | none=>none) else none
    | none=>none)
  | _=>none
def Fz (args:List SV) (res:List Sh):Option (Xc res×Zz):=match args with
  | [.clo g [.ref τ w,.ref σ i]]=>(match Nat.beq g 112,Jc τ Za w,Jc σ (.int .i64) i with
    | true,some w,some i=>if (0:Int)≤i∧(i:Int)<(List.length (w.2.2.2.1:List (den Zb)):Int) then (match upL w.2.2.2.1 60 (List.getD (w.2.2.2.1:List (den Zb)) (Int.toNat i) (dft Zb)) with
      | some xs=>(match Tz res [.dat (.sl Zb) xs []] with | some y=>some (y,[(0,[])]) | none=>none)
      | none=>none) else none
    | _,_,_=>none)
  | _=>none
def Cg (w:den Za) (i b:Int):Option Bool:=if i=b then some true else if (0:Int)≤i∧i<(List.length (w.2.2.2.1:List (den Zb)):Int) then (match upL w.2.2.2.1 60 (List.getD (w.2.2.2.1:List (den Zb)) (Int.toNat i) (dft Zb)) with
      | some xs=>some (xs.any (fun x=>eqT Zb x (Qd b)))
      | none=>none) else none
def Ax (args:List SV) (res:List Sh):Option (Xc res×Zz):=match args with
  | [.dat τ w [],.dat σ i [],.dat σ' b []]=>(match Jc τ Za w,Jc σ (.int .i64) i,Jc σ' (.int .i64) b with
    | some w,some i,some b=>(match Cg w i b with
      | some r=>(match Tz res [.dat .bool r []] with | some y=>some (y,[]) | none=>none)
      | none=>none)
    | _,_,_=>none)
  | _=>none
def AMg (args:List SV) (res:List Sh):Option (Xc res×Zz):=match args with
  | [.dat τ x []]=>(match Jc τ (.sl (.sl (.int .i64))) x with
    | some [a,b]=>if List.length (a:List Int)≤524288∧List.length (b:List Int)≤524288 then (match Tz res [.dat (.sl (.int .i64)) ((a:List Int) ++ (b:List Int)) []] with | some y=>some (y,[(0,[])]) | none=>none) else none
    | _=>none)
  | _=>none
def AHl {α:Type} (l:List α) (i:Int) (x:α):Option (List α):=if 0≤i∧i<((List.length l:Nat):Int) then some (List.set l i.toNat x) else none
def wrW (w:den Za) (x:den Zi):Option (den Za) :=
  bif decide (x.1=(0:Int)) then (match AHl (w.2.1:List Int) x.2.1 x.2.2.1 with | some l=>some (w.1,l,w.2.2.1,w.2.2.2.1,()) | none=>none)
  else bif decide (x.1=(1:Int)) then (match AHl (w.2.2.1:List Int) x.2.1 x.2.2.1 with | some l=>some (w.1,w.2.1,l,w.2.2.2.1,()) | none=>none)
  else bif decide (x.1=(2:Int)) then (match AHl (w.2.2.2.1:List (den Zb)) x.2.1 x.2.2.2.1 with | some l=>some (w.1,w.2.1,w.2.2.1,l,()) | none=>none)
  else some w
def T5:den Za→List (den Zi)→Option (den Za)
  | w,[]=>some w
  | w,x :: r=>match wrW w x with | some w'=>T5 w' r | none=>none
def AK9 (args:List SV) (res:List Sh):Option (Xc res×Zz):=match args with
  | [.dat τ x [],.dat σ y []]=>(match Jc τ Za x,Jc σ (.sl Zi) y with
    | some w,some l=>if List.length (w.2.1:List Int)≤1048576∧List.length (w.2.2.1:List Int)≤1048576∧List.length (w.2.2.2.1:List (den Zb))≤1048576∧List.length (l:List (den Zi))≤1048576 then (match T5 w l with
      | some w'=>(match Tz res [.dat Za w' []] with | some y=>some (y,[(0,[1]),(0,[2]),(0,[3])]) | none=>none)
      | none=>none) else none
    | _,_=>none)
  | _=>none
def sp0:Calls:=fun f args res=>match f with
  | 57=>U0 (.int .i64) args res
  | 58=>U0 Zb args res
  | _=>none
def ACl:List (Int×FuncId×FuncId):=[(1,(64,38)),(2,(64,40)),(3,(69,43)),(4,(69,45)),(5,(69,47)),(6,(69,49)),(7,(69,51)),(8,(69,53)),(9,(100,55)),(10,(100,56))]
def ACm (args:List SV) (res:List Sh):Option (Xc res×Zz):=match args with
  | []=>(match Tz res [.fmap (ACl.map (·.1)) (ACl.map fun p=>.clo p.2.1 [.refv (.clo p.2.2 [])])] with | some y=>some (y,[]) | none=>none)
  | _=>none
def sp:Calls:=fun f args res=>match f with
  | 57=>U0 (.int .i64) args res
  | 58=>U0 Zb args res
  | 108=>Fz args res
  | 79=>Ax args res
  | 94=>AMg args res
  | 27=>ACm args res
  | 12=>AK9 args res
  | _=>none
end Go.Proofs.YtjobjooccgledaaGreatDoor.Ghost
