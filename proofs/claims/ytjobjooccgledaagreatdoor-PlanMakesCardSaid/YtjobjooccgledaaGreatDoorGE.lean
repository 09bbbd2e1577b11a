/- What each function and each loop comes to, one step. Conditions: none. -/
import Derived.Test.YtjobjooccgledaaGreatDoorGSp
import Derived.KernelRfl
set_option linter.unusedVariables false
set_option linter.unusedSimpArgs false
set_option linter.unusedSectionVars false
set_option linter.unnecessarySimpa false
namespace Go.Proofs.YtjobjooccgledaaGreatDoor.Ghost
open Go
abbrev gc (n:Nat):Calls:=Vy prog sp n
abbrev lpN {R:Type} (n:Nat) (c:Cd) (m:Nat) (K:Kt R) (s:Xk) (h:Yj):Option R:=Lf (fun Kn K s h=>run (gc n) n c Kn K s h) m K s h
@[reducible] def J1.R:Type:=Xc [.d Za]×Zz
def J1 (n:Nat) (a0:(den Z0)):Option J1.R:=gc n 15 [.dat Z0 a0 []] [.d Za]
@[reducible] def Qc.R:Type:=Xc [.d Za]×Zz
def Qc (n:Nat) (a0:(den Za)):Option Qc.R:=gc n 16 [.dat Za a0 []] [.d Za]
def Z3.res:List Sh:=[.d (.sl Zi)]
@[reducible] def Z3.R:Type:=Xc [.d (.sl Zi)]×Zz
def Z3 (n:Nat) (a0:(den Za)) (a1:(den Za)):Option Z3.R:=gc n 10 [.dat Za a0 [],.dat Za a1 []] [.d (.sl Zi)]
def Z3.l0 (n m0:Nat) (t0:(den Za)) (t1:(den Za)) (t4:(List (den Zi))) (t13:(List Int)) (t14:Int) (t15:Int) (o0:(den Za)) (o1:(den Za)) (o9:(List (den Zi))):Option Z3.R :=
  lpN n ARj m0 (Ja 0 (Qh (run (gc n) n) ARi (Xa Z3.fn Z3.res) (Xa Z3.fn Z3.res)) (Xa Z3.fn Z3.res))
    [(0,.dat Za t0 []),(1,.dat Za t1 []),(2,.ptr 0 []),(3,.ptr 1 []),(4,.dat (.sl Zi) t4 []),(5,.dat (.sl Zi) ([]:List (den Zi)) [([],some 9)]),(13,.dat (.sl (.int .i64)) t13 []),(14,.dat (.int .i64) t14 []),(15,.dat (.int .i64) t15 [])]
    [.box Za o0 [],.box Za o1 [],.none,.none,.none,.none,.none,.none,.none,.arr Zi o9]
def Z3.l1 (n m0:Nat) (t0_1:(den Za)) (t1_1:(den Za)) (t4_1:(List (den Zi))) (t13_1:(List Int)) (t14_1:Int) (t15_1:Int) (t35_1:(List Int)) (t36_1:Int) (t37_1:Int) (o0_1:(den Za)) (o1_1:(den Za)) (o9_1:(List (den Zi))):Option Z3.R :=
  lpN n ALp m0 (Ja 2 (Qh (run (gc n) n) ALo (Xa Z3.fn Z3.res) (Xa Z3.fn Z3.res)) (Xa Z3.fn Z3.res))
    [(0,.dat Za t0_1 []),(1,.dat Za t1_1 []),(2,.ptr 0 []),(3,.ptr 1 []),(4,.dat (.sl Zi) t4_1 []),(5,.dat (.sl Zi) ([]:List (den Zi)) [([],some 9)]),(13,.dat (.sl (.int .i64)) t13_1 []),(14,.dat (.int .i64) t14_1 []),(15,.dat (.int .i64) t15_1 []),(35,.dat (.sl (.int .i64)) t35_1 []),(36,.dat (.int .i64) t36_1 []),(37,.dat (.int .i64) t37_1 [])]
    [.box Za o0_1 [],.box Za o1_1 [],.none,.none,.none,.none,.none,.none,.none,.arr Zi o9_1]
def Z3.l2 (n m0:Nat) (t0_2:(den Za)) (t1_2:(den Za)) (t4_2:(List (den Zi))) (t13_2:(List Int)) (t14_2:Int) (t15_2:Int) (t35_2:(List Int)) (t36_2:Int) (t37_2:Int) (t57_2:(List (den Zb))) (t58_2:Int) (t59_2:Int) (o0_2:(den Za)) (o1_2:(den Za)) (o9_2:(List (den Zi))):Option Z3.R :=
  lpN n ALr m0 (Ja 4 (Qh (run (gc n) n) ALq (Xa Z3.fn Z3.res) (Xa Z3.fn Z3.res)) (Xa Z3.fn Z3.res))
    [(0,.dat Za t0_2 []),(1,.dat Za t1_2 []),(2,.ptr 0 []),(3,.ptr 1 []),(4,.dat (.sl Zi) t4_2 []),(5,.dat (.sl Zi) ([]:List (den Zi)) [([],some 9)]),(13,.dat (.sl (.int .i64)) t13_2 []),(14,.dat (.int .i64) t14_2 []),(15,.dat (.int .i64) t15_2 []),(35,.dat (.sl (.int .i64)) t35_2 []),(36,.dat (.int .i64) t36_2 []),(37,.dat (.int .i64) t37_2 []),(57,.dat (.sl Zb) t57_2 []),(58,.dat (.int .i64) t58_2 []),(59,.dat (.int .i64) t59_2 [])]
    [.box Za o0_2 [],.box Za o1_2 [],.none,.none,.none,.none,.none,.none,.none,.arr Zi o9_2]
theorem Z3.l0_eq (n m0:Nat) (t0:(den Za)) (t1:(den Za)) (t4:(List (den Zi))) (t13:(List Int)) (t14:Int) (t15:Int) (o0:(den Za)) (o1:(den Za)) (o9:(List (den Zi))):Z3.l0 n (m0+1) t0 t1 t4 t13 t14 t15 o0 o1 o9 =
  bif (decide (t15<t14)) then
    if (0:Int)≤t15∧t15<(((List.length t13):Nat):Int) then
    if (0:Int)≤t15∧t15<(((List.length (o0.2.1:(List Int))):Nat):Int) then
    bif (!(decide ((List.getD (o0.2.1:(List Int)) (Int.toNat t15) (0:Int):Int)=(List.getD t13 (Int.toNat t15) (0:Int):Int)))) then
      if (List.length o9)+1≤1048576 then
      Z3.l0 n m0 t0 t1 t4 t13 t14 (IntKind.wrap .i64 (t15+1)) o0 o1 (o9 ++ ([(0,t15,(List.getD t13 (Int.toNat t15) (0:Int):Int),(0,0,()),())]:List (den Zi)))
      else none
    else
      Z3.l0 n m0 t0 t1 t4 t13 t14 (IntKind.wrap .i64 (t15+1)) o0 o1 o9
    else none
    else none
  else
    Z3.l1 n n t0 t1 t4 t13 t14 t15 (o1.2.2.1:(List Int)) ((List.length (o1.2.2.1:(List Int))):Int) 0 o0 o1 o9:=by kernel_rfl
theorem Z3.l1_eq (n m0:Nat) (t0_1:(den Za)) (t1_1:(den Za)) (t4_1:(List (den Zi))) (t13_1:(List Int)) (t14_1:Int) (t15_1:Int) (t35_1:(List Int)) (t36_1:Int) (t37_1:Int) (o0_1:(den Za)) (o1_1:(den Za)) (o9_1:(List (den Zi))):Z3.l1 n (m0+1) t0_1 t1_1 t4_1 t13_1 t14_1 t15_1 t35_1 t36_1 t37_1 o0_1 o1_1 o9_1 =
  bif (decide (t37_1<t36_1)) then
    if (0:Int)≤t37_1∧t37_1<(((List.length t35_1):Nat):Int) then
    if (0:Int)≤t37_1∧t37_1<(((List.length (o0_1.2.2.1:(List Int))):Nat):Int) then
    bif (!(decide ((List.getD (o0_1.2.2.1:(List Int)) (Int.toNat t37_1) (0:Int):Int)=(List.getD t35_1 (Int.toNat t37_1) (0:Int):Int)))) then
      if (List.length o9_1)+1≤1048576 then
      Z3.l1 n m0 t0_1 t1_1 t4_1 t13_1 t14_1 t15_1 t35_1 t36_1 (IntKind.wrap .i64 (t37_1+1)) o0_1 o1_1 (o9_1 ++ ([(1,t37_1,(List.getD t35_1 (Int.toNat t37_1) (0:Int):Int),(0,0,()),())]:List (den Zi)))
      else none
    else
      Z3.l1 n m0 t0_1 t1_1 t4_1 t13_1 t14_1 t15_1 t35_1 t36_1 (IntKind.wrap .i64 (t37_1+1)) o0_1 o1_1 o9_1
    else none
    else none
  else
    Z3.l2 n n t0_1 t1_1 t4_1 t13_1 t14_1 t15_1 t35_1 t36_1 t37_1 (o1_1.2.2.2.1:(List (den Zb))) ((List.length (o1_1.2.2.2.1:(List (den Zb)))):Int) 0 o0_1 o1_1 o9_1:=by kernel_rfl
theorem Z3.l2_eq (n m0:Nat) (t0_2:(den Za)) (t1_2:(den Za)) (t4_2:(List (den Zi))) (t13_2:(List Int)) (t14_2:Int) (t15_2:Int) (t35_2:(List Int)) (t36_2:Int) (t37_2:Int) (t57_2:(List (den Zb))) (t58_2:Int) (t59_2:Int) (o0_2:(den Za)) (o1_2:(den Za)) (o9_2:(List (den Zi))):Z3.l2 n (m0+1) t0_2 t1_2 t4_2 t13_2 t14_2 t15_2 t35_2 t36_2 t37_2 t57_2 t58_2 t59_2 o0_2 o1_2 o9_2 =
  bif (decide (t59_2<t58_2)) then
    if (0:Int)≤t59_2∧t59_2<(((List.length t57_2):Nat):Int) then
    if (0:Int)≤t59_2∧t59_2<(((List.length (o0_2.2.2.2.1:(List (den Zb)))):Nat):Int) then
    bif (!(eqT Zb (List.getD (o0_2.2.2.2.1:(List (den Zb))) (Int.toNat t59_2) (dft Zb):(den Zb)) (List.getD t57_2 (Int.toNat t59_2) (dft Zb):(den Zb)))) then
      if (List.length o9_2)+1≤1048576 then
      Z3.l2 n m0 t0_2 t1_2 t4_2 t13_2 t14_2 t15_2 t35_2 t36_2 t37_2 t57_2 t58_2 (IntKind.wrap .i64 (t59_2+1)) o0_2 o1_2 (o9_2 ++ ([(2,t59_2,0,(List.getD t57_2 (Int.toNat t59_2) (dft Zb):(den Zb)),())]:List (den Zi)))
      else none
    else
      Z3.l2 n m0 t0_2 t1_2 t4_2 t13_2 t14_2 t15_2 t35_2 t36_2 t37_2 t57_2 t58_2 (IntKind.wrap .i64 (t59_2+1)) o0_2 o1_2 o9_2
    else none
    else none
  else
    some ((o9_2,()),[(0,[])]):=by kernel_rfl
theorem Z3.eq (n:Nat) (a0:(den Za)) (a1:(den Za)):Z3 (n+1) a0 a1 =
  Z3.l0 n n a0 a1 ([]:List (den Zi)) (a1.2.1:(List Int)) ((List.length (a1.2.1:(List Int))):Int) 0 a0 a1 ([]:List (den Zi)):=by kernel_rfl
@[reducible] def Jw.R:Type:=Xc [.d (.sl (.int .i64))]×Zz
def Jw (n:Nat) (a0:(List Int)):Option Jw.R:=gc n 57 [.dat (.sl (.int .i64)) a0 []] [.d (.sl (.int .i64))]
@[reducible] def Yu.R:Type:=Xc [.d (.sl Zb)]×Zz
def Yu (n:Nat) (a0:(List (den Zb))):Option Yu.R:=gc n 58 [.dat (.sl Zb) a0 []] [.d (.sl Zb)]
@[reducible] def Jh.R:Type:=Xc [.d Za]×Zz
def Jh (n:Nat) (a0:(den Za)):Option Jh.R:=gc n 30 [.dat Za a0 []] [.d Za]
theorem Jh.eq (n:Nat) (a0:(den Za)):Jh (n+1) a0 =
  Option.bind (Jw n (a0.2.1:(List Int))) fun r1 =>
  bif (Zq r1.2 [((0,[]),2)]) then
    Option.bind (Jw n (a0.2.2.1:(List Int))) fun r2 =>
    bif (Zq r2.2 [((0,[]),3)]) then
      Option.bind (Yu n (a0.2.2.2.1:(List (den Zb)))) fun r3 =>
      bif (Zq r3.2 [((0,[]),4)]) then
        some (((a0.1,(r1.1.1:(List Int)),(r2.1.1:(List Int)),(r3.1.1:(List (den Zb))),()),()),[(0,[1]),(0,[2]),(0,[3])])
      else
        none
    else
      none
  else
    none:=by kernel_rfl
@[reducible] def Uj.R:Type:=Xc [.d Za]×Zz
def Uj (n:Nat) (a0:(den Za)) (a1:(List (den Zi))):Option Uj.R:=gc n 12 [.dat Za a0 [],.dat (.sl Zi) a1 []] [.d Za]
@[reducible] def Ha.R:Type:=Xc [.d Za]×Zz
def Ha (n:Nat) (a0:(den Za)) (a1:(List (den O7))):Option Ha.R:=gc n 17 [.dat Za a0 [],.dat (.sl O7) a1 []] [.d Za]
def Z1.res:List Sh:=[.d .bool]
@[reducible] def Z1.R:Type:=Xc [.d .bool]×Zz
def Z1 (n:Nat) (a0:(List (den Zi))) (a1:(List (den Zi))):Option Z1.R:=gc n 13 [.dat (.sl Zi) a0 [],.dat (.sl Zi) a1 []] [.d .bool]
def Z1.l0 (n m0:Nat) (t0:(List (den Zi))) (t1:(List (den Zi))) (t4:Bool) (t5:Int):Option Z1.R :=
  lpN n ARl m0 (Ja 0 (Qh (run (gc n) n) ARk (Xa Z1.fn Z1.res) (Xa Z1.fn Z1.res)) (Xa Z1.fn Z1.res))
    [(0,.dat (.sl Zi) t0 []),(1,.dat (.sl Zi) t1 []),(4,.dat .bool t4 []),(5,.dat (.int .i64) t5 [])]
    []
theorem Z1.l0_eq (n m0:Nat) (t0:(List (den Zi))) (t1:(List (den Zi))) (t4:Bool) (t5:Int):Z1.l0 n (m0+1) t0 t1 t4 t5 =
  bif (decide (t5<((List.length t0):Int))) then
    if (0:Int)≤t5∧t5<(((List.length t0):Nat):Int) then
    if (0:Int)≤t5∧t5<(((List.length t1):Nat):Int) then
    bif (!(eqT Zi (List.getD t0 (Int.toNat t5) (dft Zi):(den Zi)) (List.getD t1 (Int.toNat t5) (dft Zi):(den Zi)))) then
      some ((false,()),[])
    else
      Z1.l0 n m0 t0 t1 t4 (IntKind.wrap .i64 (t5+1))
    else none
    else none
  else
    some ((true,()),[]):=by kernel_rfl
theorem Z1.eq (n:Nat) (a0:(List (den Zi))) (a1:(List (den Zi))):Z1 (n+1) a0 a1 =
  bif (!(decide (((List.length a0):Int)=((List.length a1):Int)))) then
    some ((false,()),[])
  else
    Z1.l0 n n a0 a1 false 0:=by kernel_rfl
def Zx.res:List Sh:=[.d .bool]
@[reducible] def Zx.R:Type:=Xc [.d .bool]×Zz
def Zx (n:Nat) (a0:(List Int)) (a1:(List Int)):Option Zx.R:=gc n 28 [.dat (.sl (.int .i64)) a0 [],.dat (.sl (.int .i64)) a1 []] [.d .bool]
def Zx.l0 (n m0:Nat) (t0:(List Int)) (t1:(List Int)) (t4:Bool) (t5:Int):Option Zx.R :=
  lpN n ARs m0 (Ja 0 (Qh (run (gc n) n) ARr (Xa Zx.fn Zx.res) (Xa Zx.fn Zx.res)) (Xa Zx.fn Zx.res))
    [(0,.dat (.sl (.int .i64)) t0 []),(1,.dat (.sl (.int .i64)) t1 []),(4,.dat .bool t4 []),(5,.dat (.int .i64) t5 [])]
    []
theorem Zx.l0_eq (n m0:Nat) (t0:(List Int)) (t1:(List Int)) (t4:Bool) (t5:Int):Zx.l0 n (m0+1) t0 t1 t4 t5 =
  bif (decide (t5<((List.length t0):Int))) then
    if (0:Int)≤t5∧t5<(((List.length t0):Nat):Int) then
    if (0:Int)≤t5∧t5<(((List.length t1):Nat):Int) then
    bif (!(decide ((List.getD t0 (Int.toNat t5) (0:Int):Int)=(List.getD t1 (Int.toNat t5) (0:Int):Int)))) then
      some ((false,()),[])
    else
      Zx.l0 n m0 t0 t1 t4 (IntKind.wrap .i64 (t5+1))
    else none
    else none
  else
    some ((true,()),[]):=by kernel_rfl
theorem Zx.eq (n:Nat) (a0:(List Int)) (a1:(List Int)):Zx (n+1) a0 a1 =
  bif (!(decide (((List.length a0):Int)=((List.length a1):Int)))) then
    some ((false,()),[])
  else
    Zx.l0 n n a0 a1 false 0:=by kernel_rfl
def Zy.res:List Sh:=[.d .bool]
@[reducible] def Zy.R:Type:=Xc [.d .bool]×Zz
def Zy (n:Nat) (a0:(List (den Zb))) (a1:(List (den Zb))):Option Zy.R:=gc n 29 [.dat (.sl Zb) a0 [],.dat (.sl Zb) a1 []] [.d .bool]
def Zy.l0 (n m0:Nat) (t0:(List (den Zb))) (t1:(List (den Zb))) (t4:Bool) (t5:Int):Option Zy.R :=
  lpN n ARu m0 (Ja 0 (Qh (run (gc n) n) ARt (Xa Zy.fn Zy.res) (Xa Zy.fn Zy.res)) (Xa Zy.fn Zy.res))
    [(0,.dat (.sl Zb) t0 []),(1,.dat (.sl Zb) t1 []),(4,.dat .bool t4 []),(5,.dat (.int .i64) t5 [])]
    []
theorem Zy.l0_eq (n m0:Nat) (t0:(List (den Zb))) (t1:(List (den Zb))) (t4:Bool) (t5:Int):Zy.l0 n (m0+1) t0 t1 t4 t5 =
  bif (decide (t5<((List.length t0):Int))) then
    if (0:Int)≤t5∧t5<(((List.length t0):Nat):Int) then
    if (0:Int)≤t5∧t5<(((List.length t1):Nat):Int) then
    bif (!(eqT Zb (List.getD t0 (Int.toNat t5) (dft Zb):(den Zb)) (List.getD t1 (Int.toNat t5) (dft Zb):(den Zb)))) then
      some ((false,()),[])
    else
      Zy.l0 n m0 t0 t1 t4 (IntKind.wrap .i64 (t5+1))
    else none
    else none
  else
    some ((true,()),[]):=by kernel_rfl
theorem Zy.eq (n:Nat) (a0:(List (den Zb))) (a1:(List (den Zb))):Zy (n+1) a0 a1 =
  bif (!(decide (((List.length a0):Int)=((List.length a1):Int)))) then
    some ((false,()),[])
  else
    Zy.l0 n n a0 a1 false 0:=by kernel_rfl
def Zn.res:List Sh:=[.d .bool]
@[reducible] def Zn.R:Type:=Xc [.d .bool]×Zz
def Zn (n:Nat) (a0:(den Za)) (a1:(den Za)):Option Zn.R:=gc n 11 [.dat Za a0 [],.dat Za a1 []] [.d .bool]
def Zn.l0 (n m0:Nat) (t0:(den Za)) (t1:(den Za)) (t4:Bool) (t7:Int) (o0:(den Za)) (o1:(den Za)) (o2:(den Z0)) (o3:(den Z0)):Option Zn.R :=
  lpN n ALt m0 (Ja 0 (Qh (run (gc n) n) ALs (Xa Zn.fn Zn.res) (Xa Zn.fn Zn.res)) (Xa Zn.fn Zn.res))
    [(0,.dat Za t0 []),(1,.dat Za t1 []),(2,.ptr 0 []),(3,.ptr 1 []),(4,.dat .bool t4 []),(5,.ptr 2 []),(6,.ptr 3 []),(7,.dat (.int .i64) t7 [])]
    [.box Za o0 [],.box Za o1 [],.box Z0 o2 [],.box Z0 o3 []]
def Zn.l1 (n m0:Nat) (t0_1:(den Za)) (t1_1:(den Za)) (t4_1:Bool) (t7_1:Int) (t8_1:Int) (o0_1:(den Za)) (o1_1:(den Za)) (o2_1:(den Z0)) (o3_1:(den Z0)):Option Zn.R :=
  lpN n ALv m0 (Ja 2 (Qh (run (gc n) n) ALu (Xa Zn.fn Zn.res) (Xa Zn.fn Zn.res)) (Xa Zn.fn Zn.res))
    [(0,.dat Za t0_1 []),(1,.dat Za t1_1 []),(2,.ptr 0 []),(3,.ptr 1 []),(4,.dat .bool t4_1 []),(5,.ptr 2 []),(6,.ptr 3 []),(7,.dat (.int .i64) t7_1 []),(8,.dat (.int .i64) t8_1 [])]
    [.box Za o0_1 [],.box Za o1_1 [],.box Z0 o2_1 [],.box Z0 o3_1 []]
theorem Zn.l0_eq (n m0:Nat) (t0:(den Za)) (t1:(den Za)) (t4:Bool) (t7:Int) (o0:(den Za)) (o1:(den Za)) (o2:(den Z0)) (o3:(den Z0)):Zn.l0 n (m0+1) t0 t1 t4 t7 o0 o1 o2 o3 =
  bif (decide (t7<((List.length (o2.1:(List (List Int)))):Int))) then
    if (0:Int)≤t7∧t7<(((List.length (o2.1:(List (List Int)))):Nat):Int) then
    if (0:Int)≤t7∧t7<(((List.length (o3.1:(List (List Int)))):Nat):Int) then
    bif (!(eqT (.arr 4 (.int .i64)) (List.getD (o2.1:(List (List Int))) (Int.toNat t7) (dft (.arr 4 (.int .i64))):(List Int)) (List.getD (o3.1:(List (List Int))) (Int.toNat t7) (dft (.arr 4 (.int .i64))):(List Int)))) then
      some ((false,()),[])
    else
      Zn.l0 n m0 t0 t1 t4 (IntKind.wrap .i64 (t7+1)) o0 o1 o2 o3
    else none
    else none
  else
    Zn.l1 n n t0 t1 t4 t7 0 o0 o1 o2 o3:=by kernel_rfl
theorem Zn.l1_eq (n m0:Nat) (t0_1:(den Za)) (t1_1:(den Za)) (t4_1:Bool) (t7_1:Int) (t8_1:Int) (o0_1:(den Za)) (o1_1:(den Za)) (o2_1:(den Z0)) (o3_1:(den Z0)):Zn.l1 n (m0+1) t0_1 t1_1 t4_1 t7_1 t8_1 o0_1 o1_1 o2_1 o3_1 =
  bif (decide (t8_1<((List.length (o2_1.2.2.2.2.1:(List Bool))):Int))) then
    if (0:Int)≤t8_1∧t8_1<(((List.length (o2_1.2.2.2.2.1:(List Bool))):Nat):Int) then
    if (0:Int)≤t8_1∧t8_1<(((List.length (o3_1.2.2.2.2.1:(List Bool))):Nat):Int) then
    bif (!(eqT .bool (List.getD (o2_1.2.2.2.2.1:(List Bool)) (Int.toNat t8_1) false:Bool) (List.getD (o3_1.2.2.2.2.1:(List Bool)) (Int.toNat t8_1) false:Bool))) then
      some ((false,()),[])
    else
      Zn.l1 n m0 t0_1 t1_1 t4_1 t7_1 (IntKind.wrap .i64 (t8_1+1)) o0_1 o1_1 o2_1 o3_1
    else none
    else none
  else
    Option.bind (Zx n (o2_1.2.1:(List Int)) (o3_1.2.1:(List Int))) fun r1 =>
    bif (r1.1.1:Bool) then
      Option.bind (Zx n (o2_1.2.2.1:(List Int)) (o3_1.2.2.1:(List Int))) fun r2 =>
      bif (r2.1.1:Bool) then
        Option.bind (Zx n (o2_1.2.2.2.1:(List Int)) (o3_1.2.2.2.1:(List Int))) fun r3 =>
        bif (r3.1.1:Bool) then
          Option.bind (Zx n (o0_1.2.1:(List Int)) (o1_1.2.1:(List Int))) fun r4 =>
          bif (r4.1.1:Bool) then
            Option.bind (Zx n (o0_1.2.2.1:(List Int)) (o1_1.2.2.1:(List Int))) fun r5 =>
            bif (r5.1.1:Bool) then
              Option.bind (Zy n (o0_1.2.2.2.1:(List (den Zb))) (o1_1.2.2.2.1:(List (den Zb)))) fun r6 =>
              some (((r6.1.1:Bool),()),[])
            else
              some ((false,()),[])
          else
            some ((false,()),[])
        else
          some ((false,()),[])
      else
        some ((false,()),[])
    else
      some ((false,()),[]):=by kernel_rfl
theorem Zn.eq (n:Nat) (a0:(den Za)) (a1:(den Za)):Zn (n+1) a0 a1 =
  bif (!(decide ((a0.1.2.2.2.2.2.1:Int)=(a1.1.2.2.2.2.2.1:Int)))) then
    some ((false,()),[])
  else
    bif (!(decide ((a0.1.2.2.2.2.2.2.1:Int)=(a1.1.2.2.2.2.2.2.1:Int)))) then
      some ((false,()),[])
    else
      bif (!(decide ((a0.1.2.2.2.2.2.2.2.1:Int)=(a1.1.2.2.2.2.2.2.2.1:Int)))) then
        some ((false,()),[])
      else
        bif (!(decide (((List.length (a0.1.1:(List (List Int)))):Int)=((List.length (a1.1.1:(List (List Int)))):Int)))) then
          some ((false,()),[])
        else
          bif (!(decide (((List.length (a0.1.2.2.2.2.1:(List Bool))):Int)=((List.length (a1.1.2.2.2.2.1:(List Bool))):Int)))) then
            some ((false,()),[])
          else
            Zn.l0 n n a0 a1 false 0 a0 a1 a0.1 a1.1:=by kernel_rfl
@[reducible] def Gn.R:Type:=Xc [.d Za]×Zz
def Gn (n:Nat) (a0:(den Za)) (a1:(den Zi)):Option Gn.R:=gc n 14 [.dat Za a0 [],.dat Zi a1 []] [.d Za]
theorem Gn.eq (n:Nat) (a0:(den Za)) (a1:(den Zi)):Gn (n+1) a0 a1 =
  Option.bind (Uj n a0 ([a1]:List (den Zi))) fun r1 =>
  some ((r1.1.1,()),[]):=by kernel_rfl
@[reducible] def Xy.R:Type:=Xc [.d .bool]×Zz
def Xy (n:Nat):Option Xy.R:=gc n 4 [] [.d .bool]
@[reducible] def X3.R:Type:=Xc [.d .bool]×Zz
def X3 (n:Nat) (a0:(den Za)):Option X3.R:=gc n 5 [.dat Za a0 []] [.d .bool]
theorem X3.eq (n:Nat) (a0:(den Za)):X3 (n+1) a0 =
  bif (decide (((List.length (a0.1.1:(List (List Int)))):Int)≤20)) then
    bif (decide (((List.length (a0.1.2.1:(List Int))):Int)≤20)) then
      bif (decide (((List.length (a0.1.2.2.1:(List Int))):Int)≤20)) then
        bif (decide (((List.length (a0.1.2.2.2.1:(List Int))):Int)≤40)) then
          bif (decide (((List.length (a0.1.2.2.2.2.1:(List Bool))):Int)≤40)) then
            bif (decide (((List.length (a0.2.1:(List Int))):Int)≤40)) then
              bif (decide (((List.length (a0.2.2.1:(List Int))):Int)≤40)) then
                some (((decide (((List.length (a0.2.2.2.1:(List (den Zb)))):Int)≤40)),()),[])
              else
                some ((false,()),[])
            else
              some ((false,()),[])
          else
            some ((false,()),[])
        else
          some ((false,()),[])
      else
        some ((false,()),[])
    else
      some ((false,()),[])
  else
    some ((false,()),[]):=by kernel_rfl
@[reducible] def Z9.R:Type:=Xc [.d .bool]×Zz
def Z9 (n:Nat) (a0:Int) (a1:Int):Option Z9.R:=gc n 19 [.dat (.int .i64) a0 [],.dat (.int .i64) a1 []] [.d .bool]
theorem Z9.eq (n:Nat) (a0:Int) (a1:Int):Z9 (n+1) a0 a1 =
  bif (decide (0≤a0)) then
    some (((decide (a0<a1)),()),[])
  else
    some ((false,()),[]):=by kernel_rfl
@[reducible] def Yd.R:Type:=Xc [.d .bool]×Zz
def Yd (n:Nat) (a0:Int):Option Yd.R:=gc n 20 [.dat (.int .i64) a0 []] [.d .bool]
theorem Yd.eq (n:Nat) (a0:Int):Yd (n+1) a0 =
  bif (decide (0≤a0)) then
    some (((decide (a0≤1073741824)),()),[])
  else
    some ((false,()),[]):=by kernel_rfl
def Zc.res:List Sh:=[.d .bool]
@[reducible] def Zc.R:Type:=Xc [.d .bool]×Zz
def Zc (n:Nat) (a0:(den Z0)):Option Zc.R:=gc n 18 [.dat Z0 a0 []] [.d .bool]
def Zc.l0 (n m0:Nat) (t0:(den Z0)) (t2:Bool) (t3:Int) (t4:Int) (o0:(den Z0)):Option Zc.R :=
  lpN n Nj m0 (Ja 0 (Qh (run (gc n) n) Vo (Xa Zc.fn Zc.res) (Xa Zc.fn Zc.res)) (Xa Zc.fn Zc.res))
    [(0,.dat Z0 t0 []),(1,.ptr 0 []),(2,.dat .bool t2 []),(3,.dat (.int .i64) t3 []),(4,.dat (.int .i64) t4 [])]
    [.box Z0 o0 []]
def Zc.l1 (n m0 m1:Nat) (t0_1:(den Z0)) (t2_1:Bool) (t3_1:Int) (t4_1:Int) (t5_1:Int) (o0_1:(den Z0)):Option Zc.R :=
  lpN n ALx m1 (Ja 2 (Qh (run (gc n) n) ALw (Qh (run (gc n) n) Lo (Qh (run (gc n) n) Lm (fun _ s h=>lpN n Nj m0 (Ja 0 (Qh (run (gc n) n) Vo (Xa Zc.fn Zc.res) (Xa Zc.fn Zc.res)) (Xa Zc.fn Zc.res)) s h) (Ja 0 (Qh (run (gc n) n) Vo (Xa Zc.fn Zc.res) (Xa Zc.fn Zc.res)) (Xa Zc.fn Zc.res))) (Ja 0 (Qh (run (gc n) n) Vo (Xa Zc.fn Zc.res) (Xa Zc.fn Zc.res)) (Xa Zc.fn Zc.res))) (Ja 1 (Qh (run (gc n) n) Lo (Qh (run (gc n) n) Lm (fun _ s h=>lpN n Nj m0 (Ja 0 (Qh (run (gc n) n) Vo (Xa Zc.fn Zc.res) (Xa Zc.fn Zc.res)) (Xa Zc.fn Zc.res)) s h) (Ja 0 (Qh (run (gc n) n) Vo (Xa Zc.fn Zc.res) (Xa Zc.fn Zc.res)) (Xa Zc.fn Zc.res))) (Ja 0 (Qh (run (gc n) n) Vo (Xa Zc.fn Zc.res) (Xa Zc.fn Zc.res)) (Xa Zc.fn Zc.res))) (Ja 0 (Qh (run (gc n) n) Vo (Xa Zc.fn Zc.res) (Xa Zc.fn Zc.res)) (Xa Zc.fn Zc.res)))) (Ja 1 (Qh (run (gc n) n) Lo (Qh (run (gc n) n) Lm (fun _ s h=>lpN n Nj m0 (Ja 0 (Qh (run (gc n) n) Vo (Xa Zc.fn Zc.res) (Xa Zc.fn Zc.res)) (Xa Zc.fn Zc.res)) s h) (Ja 0 (Qh (run (gc n) n) Vo (Xa Zc.fn Zc.res) (Xa Zc.fn Zc.res)) (Xa Zc.fn Zc.res))) (Ja 0 (Qh (run (gc n) n) Vo (Xa Zc.fn Zc.res) (Xa Zc.fn Zc.res)) (Xa Zc.fn Zc.res))) (Ja 0 (Qh (run (gc n) n) Vo (Xa Zc.fn Zc.res) (Xa Zc.fn Zc.res)) (Xa Zc.fn Zc.res))))
    [(0,.dat Z0 t0_1 []),(1,.ptr 0 []),(2,.dat .bool t2_1 []),(3,.dat (.int .i64) t3_1 []),(4,.dat (.int .i64) t4_1 []),(5,.dat (.int .i64) t5_1 [])]
    [.box Z0 o0_1 []]
def Zc.l2 (n m0 m1:Nat) (t0_2:(den Z0)) (t2_2:Bool) (t3_2:Int) (t4_2:Int) (t5_2:Int) (t6_2:Int) (t7_2:Int) (o0_2:(den Z0)):Option Zc.R :=
  lpN n ALz m1 (Ja 4 (Qh (run (gc n) n) ALy (Qh (run (gc n) n) Lo (Qh (run (gc n) n) Lm (fun _ s h=>lpN n Nj m0 (Ja 0 (Qh (run (gc n) n) Vo (Xa Zc.fn Zc.res) (Xa Zc.fn Zc.res)) (Xa Zc.fn Zc.res)) s h) (Ja 0 (Qh (run (gc n) n) Vo (Xa Zc.fn Zc.res) (Xa Zc.fn Zc.res)) (Xa Zc.fn Zc.res))) (Ja 0 (Qh (run (gc n) n) Vo (Xa Zc.fn Zc.res) (Xa Zc.fn Zc.res)) (Xa Zc.fn Zc.res))) (Ja 1 (Qh (run (gc n) n) Lo (Qh (run (gc n) n) Lm (fun _ s h=>lpN n Nj m0 (Ja 0 (Qh (run (gc n) n) Vo (Xa Zc.fn Zc.res) (Xa Zc.fn Zc.res)) (Xa Zc.fn Zc.res)) s h) (Ja 0 (Qh (run (gc n) n) Vo (Xa Zc.fn Zc.res) (Xa Zc.fn Zc.res)) (Xa Zc.fn Zc.res))) (Ja 0 (Qh (run (gc n) n) Vo (Xa Zc.fn Zc.res) (Xa Zc.fn Zc.res)) (Xa Zc.fn Zc.res))) (Ja 0 (Qh (run (gc n) n) Vo (Xa Zc.fn Zc.res) (Xa Zc.fn Zc.res)) (Xa Zc.fn Zc.res)))) (Ja 1 (Qh (run (gc n) n) Lo (Qh (run (gc n) n) Lm (fun _ s h=>lpN n Nj m0 (Ja 0 (Qh (run (gc n) n) Vo (Xa Zc.fn Zc.res) (Xa Zc.fn Zc.res)) (Xa Zc.fn Zc.res)) s h) (Ja 0 (Qh (run (gc n) n) Vo (Xa Zc.fn Zc.res) (Xa Zc.fn Zc.res)) (Xa Zc.fn Zc.res))) (Ja 0 (Qh (run (gc n) n) Vo (Xa Zc.fn Zc.res) (Xa Zc.fn Zc.res)) (Xa Zc.fn Zc.res))) (Ja 0 (Qh (run (gc n) n) Vo (Xa Zc.fn Zc.res) (Xa Zc.fn Zc.res)) (Xa Zc.fn Zc.res))))
    [(0,.dat Z0 t0_2 []),(1,.ptr 0 []),(2,.dat .bool t2_2 []),(3,.dat (.int .i64) t3_2 []),(4,.dat (.int .i64) t4_2 []),(5,.dat (.int .i64) t5_2 []),(6,.dat (.int .i64) t6_2 []),(7,.dat (.int .i64) t7_2 [])]
    [.box Z0 o0_2 []]
def Zc.l3 (n m0:Nat) (t0_3:(den Z0)) (t2_3:Bool) (t3_3:Int) (t4_3:Int) (t8_3:Int) (o0_3:(den Z0)):Option Zc.R :=
  lpN n AL1 m0 (Ja 6 (Qh (run (gc n) n) AL0 (Xa Zc.fn Zc.res) (Xa Zc.fn Zc.res)) (Xa Zc.fn Zc.res))
    [(0,.dat Z0 t0_3 []),(1,.ptr 0 []),(2,.dat .bool t2_3 []),(3,.dat (.int .i64) t3_3 []),(4,.dat (.int .i64) t4_3 []),(8,.dat (.int .i64) t8_3 [])]
    [.box Z0 o0_3 []]
def Zc.l4 (n m0:Nat) (t0_4:(den Z0)) (t2_4:Bool) (t3_4:Int) (t4_4:Int) (t8_4:Int) (t9_4:Int) (o0_4:(den Z0)):Option Zc.R :=
  lpN n AL3 m0 (Ja 8 (Qh (run (gc n) n) AL2 (Xa Zc.fn Zc.res) (Xa Zc.fn Zc.res)) (Xa Zc.fn Zc.res))
    [(0,.dat Z0 t0_4 []),(1,.ptr 0 []),(2,.dat .bool t2_4 []),(3,.dat (.int .i64) t3_4 []),(4,.dat (.int .i64) t4_4 []),(8,.dat (.int .i64) t8_4 []),(9,.dat (.int .i64) t9_4 [])]
    [.box Z0 o0_4 []]
theorem Zc.l0_eq (n m0:Nat) (t0:(den Z0)) (t2:Bool) (t3:Int) (t4:Int) (o0:(den Z0)):Zc.l0 n (m0+1) t0 t2 t3 t4 o0 =
  bif (decide (t4<t3)) then
    Zc.l1 n m0 n t0 t2 t3 t4 0 o0
  else
    Zc.l3 n n t0 t2 t3 t4 0 o0:=by kernel_rfl
theorem Zc.l1_eq (n m0 m1:Nat) (t0_1:(den Z0)) (t2_1:Bool) (t3_1:Int) (t4_1:Int) (t5_1:Int) (o0_1:(den Z0)):Zc.l1 n m0 (m1+1) t0_1 t2_1 t3_1 t4_1 t5_1 o0_1 =
  bif (decide (t5_1<4)) then
    if (0:Int)≤t4_1∧t4_1<(((List.length (o0_1.1:(List (List Int)))):Nat):Int) then
    if (0:Int)≤t5_1∧t5_1<((4:Nat):Int) then
    bif (!(decide ((List.getD (List.getD (o0_1.1:(List (List Int))) (Int.toNat t4_1) (dft (.arr 4 (.int .i64))):(List Int)) (Int.toNat t5_1) (0:Int):Int)=(-1)))) then
      if (0:Int)≤t4_1∧t4_1<(((List.length (o0_1.1:(List (List Int)))):Nat):Int) then
      if (0:Int)≤t5_1∧t5_1<((4:Nat):Int) then
      Option.bind (Z9 n (List.getD (List.getD (o0_1.1:(List (List Int))) (Int.toNat t4_1) (dft (.arr 4 (.int .i64))):(List Int)) (Int.toNat t5_1) (0:Int):Int) t3_1) fun r4 =>
      bif (!(r4.1.1:Bool)) then
        some ((false,()),[])
      else
        Zc.l1 n m0 m1 t0_1 t2_1 t3_1 t4_1 (IntKind.wrap .i64 (t5_1+1)) o0_1
      else none
      else none
    else
      Zc.l1 n m0 m1 t0_1 t2_1 t3_1 t4_1 (IntKind.wrap .i64 (t5_1+1)) o0_1
    else none
    else none
  else
    Zc.l2 n m0 n t0_1 t2_1 t3_1 t4_1 t5_1 0 0 o0_1:=by kernel_rfl
theorem Zc.l2_eq (n m0 m1:Nat) (t0_2:(den Z0)) (t2_2:Bool) (t3_2:Int) (t4_2:Int) (t5_2:Int) (t6_2:Int) (t7_2:Int) (o0_2:(den Z0)):Zc.l2 n m0 (m1+1) t0_2 t2_2 t3_2 t4_2 t5_2 t6_2 t7_2 o0_2 =
  bif (decide (t7_2<((List.length (o0_2.2.2.2.1:(List Int))):Int))) then
    if (0:Int)≤t7_2∧t7_2<(((List.length (o0_2.2.2.2.1:(List Int))):Nat):Int) then
    bif (decide ((List.getD (o0_2.2.2.2.1:(List Int)) (Int.toNat t7_2) (0:Int):Int)=t4_2)) then
      Zc.l2 n m0 m1 t0_2 t2_2 t3_2 t4_2 t5_2 (IntKind.wrap .i64 (t6_2+1)) (IntKind.wrap .i64 (t7_2+1)) o0_2
    else
      Zc.l2 n m0 m1 t0_2 t2_2 t3_2 t4_2 t5_2 t6_2 (IntKind.wrap .i64 (t7_2+1)) o0_2
    else none
  else
    bif (decide ((o0_2.2.2.2.2.2.1:Int)<t6_2)) then
      some ((false,()),[])
    else
      Zc.l0 n m0 t0_2 t2_2 t3_2 (IntKind.wrap .i64 (t4_2+1)) o0_2:=by kernel_rfl
theorem Zc.l3_eq (n m0:Nat) (t0_3:(den Z0)) (t2_3:Bool) (t3_3:Int) (t4_3:Int) (t8_3:Int) (o0_3:(den Z0)):Zc.l3 n (m0+1) t0_3 t2_3 t3_3 t4_3 t8_3 o0_3 =
  bif (decide (t8_3<((List.length (o0_3.2.1:(List Int))):Int))) then
    if (0:Int)≤t8_3∧t8_3<(((List.length (o0_3.2.1:(List Int))):Nat):Int) then
    Option.bind (Z9 n (List.getD (o0_3.2.1:(List Int)) (Int.toNat t8_3) (0:Int):Int) t3_3) fun r5 =>
    bif (!(r5.1.1:Bool)) then
      some ((false,()),[])
    else
      if (0:Int)≤t8_3∧t8_3<(((List.length (o0_3.2.2.1:(List Int))):Nat):Int) then
      Option.bind (Yd n (List.getD (o0_3.2.2.1:(List Int)) (Int.toNat t8_3) (0:Int):Int)) fun r6 =>
      bif (!(r6.1.1:Bool)) then
        some ((false,()),[])
      else
        Zc.l3 n m0 t0_3 t2_3 t3_3 t4_3 (IntKind.wrap .i64 (t8_3+1)) o0_3
      else none
    else none
  else
    Zc.l4 n n t0_3 t2_3 t3_3 t4_3 t8_3 0 o0_3:=by kernel_rfl
theorem Zc.l4_eq (n m0:Nat) (t0_4:(den Z0)) (t2_4:Bool) (t3_4:Int) (t4_4:Int) (t8_4:Int) (t9_4:Int) (o0_4:(den Z0)):Zc.l4 n (m0+1) t0_4 t2_4 t3_4 t4_4 t8_4 t9_4 o0_4 =
  bif (decide (t9_4<((List.length (o0_4.2.2.2.1:(List Int))):Int))) then
    if (0:Int)≤t9_4∧t9_4<(((List.length (o0_4.2.2.2.1:(List Int))):Nat):Int) then
    Option.bind (Z9 n (List.getD (o0_4.2.2.2.1:(List Int)) (Int.toNat t9_4) (0:Int):Int) t3_4) fun r7 =>
    bif (!(r7.1.1:Bool)) then
      some ((false,()),[])
    else
      Zc.l4 n m0 t0_4 t2_4 t3_4 t4_4 t8_4 (IntKind.wrap .i64 (t9_4+1)) o0_4
    else none
  else
    some ((true,()),[]):=by kernel_rfl
theorem Zc.eq (n:Nat) (a0:(den Z0)):Zc (n+1) a0 =
  bif (decide (((List.length (a0.1:(List (List Int)))):Int)<1)) then
    some ((false,()),[])
  else
    bif (decide (8<((List.length (a0.1:(List (List Int)))):Int))) then
      some ((false,()),[])
    else
      bif (decide (((List.length (a0.2.1:(List Int))):Int)<1)) then
        some ((false,()),[])
      else
        bif (decide (6<((List.length (a0.2.1:(List Int))):Int))) then
          some ((false,()),[])
        else
          bif (!(decide (((List.length (a0.2.2.1:(List Int))):Int)=((List.length (a0.2.1:(List Int))):Int)))) then
            some ((false,()),[])
          else
            bif (decide (16<((List.length (a0.2.2.2.1:(List Int))):Int))) then
              some ((false,()),[])
            else
              bif (!(decide (((List.length (a0.2.2.2.2.1:(List Bool))):Int)=((List.length (a0.2.2.2.1:(List Int))):Int)))) then
                some ((false,()),[])
              else
                Option.bind (Z9 n (a0.2.2.2.2.2.1:Int) 65) fun r1 =>
                bif (!(r1.1.1:Bool)) then
                  some ((false,()),[])
                else
                  Option.bind (Z9 n (a0.2.2.2.2.2.2.1:Int) 65) fun r2 =>
                  bif (!(r2.1.1:Bool)) then
                    some ((false,()),[])
                  else
                    Option.bind (Z9 n (a0.2.2.2.2.2.2.2.1:Int) 65) fun r3 =>
                    bif (!(r3.1.1:Bool)) then
                      some ((false,()),[])
                    else
                      Zc.l0 n n a0 false ((List.length (a0.1:(List (List Int)))):Int) 0 a0:=by kernel_rfl
def Z2.res:List Sh:=[.d (.int .i64)]
@[reducible] def Z2.R:Type:=Xc [.d (.int .i64)]×Zz
def Z2 (n:Nat) (a0:(den Za)) (a1:(den Zb)):Option Z2.R:=gc n 21 [.dat Za a0 [],.dat Zb a1 []] [.d (.int .i64)]
def Z2.l0 (n m0:Nat) (t0:(den Za)) (t1:(den Zb)) (t4:Int) (t5:Int) (o0:(den Za)) (o1:(den Zb)):Option Z2.R :=
  lpN n ARn m0 (Ja 0 (Qh (run (gc n) n) ARm (Xa Z2.fn Z2.res) (Xa Z2.fn Z2.res)) (Xa Z2.fn Z2.res))
    [(0,.dat Za t0 []),(1,.dat Zb t1 []),(2,.ptr 0 []),(3,.ptr 1 []),(4,.dat (.int .i64) t4 []),(5,.dat (.int .i64) t5 [])]
    [.box Za o0 [],.box Zb o1 []]
theorem Z2.l0_eq (n m0:Nat) (t0:(den Za)) (t1:(den Zb)) (t4:Int) (t5:Int) (o0:(den Za)) (o1:(den Zb)):Z2.l0 n (m0+1) t0 t1 t4 t5 o0 o1 =
  bif (decide ((o1.1:Int)=2)) then
    bif (decide (50<(IntKind.wrap .i64 (t5+1)))) then
      some ((99,()),[])
    else
      if (0:Int)≤(o1.2.1:Int)∧(o1.2.1:Int)<(((List.length (o0.2.2.2.1:(List (den Zb)))):Nat):Int) then
      Z2.l0 n m0 t0 t1 t4 (IntKind.wrap .i64 (t5+1)) o0 (List.getD (o0.2.2.2.1:(List (den Zb))) (Int.toNat (o1.2.1:Int)) (dft Zb):(den Zb))
      else none
  else
    some ((t5,()),[]):=by kernel_rfl
theorem Z2.eq (n:Nat) (a0:(den Za)) (a1:(den Zb)):Z2 (n+1) a0 a1 =
  Z2.l0 n n a0 a1 0 0 a0 a1:=by kernel_rfl
def Z4.res:List Sh:=[.d (.int .i64)]
@[reducible] def Z4.R:Type:=Xc [.d (.int .i64)]×Zz
def Z4 (n:Nat) (a0:(den Za)) (a1:(den Zb)):Option Z4.R:=gc n 22 [.dat Za a0 [],.dat Zb a1 []] [.d (.int .i64)]
def Z4.l0 (n m0:Nat) (t0:(den Za)) (t1:(den Zb)) (t4:Int) (t5:Int) (t6:Int) (o0:(den Za)) (o1:(den Zb)):Option Z4.R :=
  lpN n ARp m0 (Ja 0 (Qh (run (gc n) n) ARo (Xa Z4.fn Z4.res) (Xa Z4.fn Z4.res)) (Xa Z4.fn Z4.res))
    [(0,.dat Za t0 []),(1,.dat Zb t1 []),(2,.ptr 0 []),(3,.ptr 1 []),(4,.dat (.int .i64) t4 []),(5,.dat (.int .i64) t5 []),(6,.dat (.int .i64) t6 [])]
    [.box Za o0 [],.box Zb o1 []]
theorem Z4.l0_eq (n m0:Nat) (t0:(den Za)) (t1:(den Zb)) (t4:Int) (t5:Int) (t6:Int) (o0:(den Za)) (o1:(den Zb)):Z4.l0 n (m0+1) t0 t1 t4 t5 t6 o0 o1 =
  bif (decide (t6<((List.length (o0.2.2.2.1:(List (den Zb)))):Int))) then
    if (0:Int)≤t6∧t6<(((List.length (o0.2.2.2.1:(List (den Zb)))):Nat):Int) then
    bif (eqT Zb (List.getD (o0.2.2.2.1:(List (den Zb))) (Int.toNat t6) (dft Zb):(den Zb)) o1) then
      Z4.l0 n m0 t0 t1 t4 (IntKind.wrap .i64 (t5+1)) (IntKind.wrap .i64 (t6+1)) o0 o1
    else
      Z4.l0 n m0 t0 t1 t4 t5 (IntKind.wrap .i64 (t6+1)) o0 o1
    else none
  else
    some ((t5,()),[]):=by kernel_rfl
theorem Z4.eq (n:Nat) (a0:(den Za)) (a1:(den Zb)):Z4 (n+1) a0 a1 =
  Z4.l0 n n a0 a1 0 0 0 a0 a1:=by kernel_rfl
@[reducible] def Yf.R:Type:=Xc [.d (.int .i64)]×Zz
def Yf (n:Nat) (a0:(den Za)) (a1:(den Zb)):Option Yf.R:=gc n 23 [.dat Za a0 [],.dat Zb a1 []] [.d (.int .i64)]
theorem Yf.eq (n:Nat) (a0:(den Za)) (a1:(den Zb)):Yf (n+1) a0 a1 =
  if (0:Int)≤(a1.1:Int)∧(a1.1:Int)<((3:Nat):Int) then
  some (((List.getD ([(a0.1.2.2.2.2.2.1:Int),(a0.1.2.2.2.2.2.2.1:Int),(a0.1.2.2.2.2.2.2.2.1:Int)]:List Int) (Int.toNat (a1.1:Int)) (0:Int):Int),()),[])
  else none:=by kernel_rfl
def Zg.res:List Sh:=[.d .bool]
@[reducible] def Zg.R:Type:=Xc [.d .bool]×Zz
def Zg (n:Nat) (a0:(den Za)):Option Zg.R:=gc n 6 [.dat Za a0 []] [.d .bool]
def Zg.l0 (n m0:Nat) (t0:(den Za)) (t2:Bool) (t4:Int) (o0:(den Za)) (o1:(den Z0)):Option Zg.R :=
  lpN n ARy m0 (Ja 0 (Qh (run (gc n) n) BTx (Xa Zg.fn Zg.res) (Xa Zg.fn Zg.res)) (Xa Zg.fn Zg.res))
    [(0,.dat Za t0 []),(1,.ptr 0 []),(2,.dat .bool t2 []),(3,.ptr 1 []),(4,.dat (.int .i64) t4 [])]
    [.box Za o0 [],.box Z0 o1 []]
def Zg.l1 (n m0:Nat) (t0_1:(den Za)) (t2_1:Bool) (t4_1:Int) (t5_1:Int) (o0_1:(den Za)) (o1_1:(den Z0)):Option Zg.R :=
  lpN n AR0 m0 (Ja 2 (Qh (run (gc n) n) ARz (Xa Zg.fn Zg.res) (Xa Zg.fn Zg.res)) (Xa Zg.fn Zg.res))
    [(0,.dat Za t0_1 []),(1,.ptr 0 []),(2,.dat .bool t2_1 []),(3,.ptr 1 []),(4,.dat (.int .i64) t4_1 []),(5,.dat (.int .i64) t5_1 [])]
    [.box Za o0_1 [],.box Z0 o1_1 []]
def Zg.l2 (n m0:Nat) (t0_2:(den Za)) (t2_2:Bool) (t4_2:Int) (t5_2:Int) (t8_2:Int) (o0_2:(den Za)) (o1_2:(den Z0)):Option Zg.R :=
  lpN n AR2 m0 (Ja 4 (Qh (run (gc n) n) AR1 (Xa Zg.fn Zg.res) (Xa Zg.fn Zg.res)) (Xa Zg.fn Zg.res))
    [(0,.dat Za t0_2 []),(1,.ptr 0 []),(2,.dat .bool t2_2 []),(3,.ptr 1 []),(4,.dat (.int .i64) t4_2 []),(5,.dat (.int .i64) t5_2 []),(8,.dat (.int .i64) t8_2 [])]
    [.box Za o0_2 [],.box Z0 o1_2 []]
theorem Zg.l0_eq (n m0:Nat) (t0:(den Za)) (t2:Bool) (t4:Int) (o0:(den Za)) (o1:(den Z0)):Zg.l0 n (m0+1) t0 t2 t4 o0 o1 =
  bif (decide (t4<((List.length (o0.2.1:(List Int))):Int))) then
    if (0:Int)≤t4∧t4<(((List.length (o0.2.1:(List Int))):Nat):Int) then
    Option.bind (Z9 n (List.getD (o0.2.1:(List Int)) (Int.toNat t4) (0:Int):Int) ((List.length (o1.1:(List (List Int)))):Int)) fun r2 =>
    bif (!(r2.1.1:Bool)) then
      some ((false,()),[])
    else
      if (0:Int)≤t4∧t4<(((List.length (o0.2.2.1:(List Int))):Nat):Int) then
      Option.bind (Yd n (List.getD (o0.2.2.1:(List Int)) (Int.toNat t4) (0:Int):Int)) fun r3 =>
      bif (!(r3.1.1:Bool)) then
        some ((false,()),[])
      else
        Zg.l0 n m0 t0 t2 (IntKind.wrap .i64 (t4+1)) o0 o1
      else none
    else none
  else
    Zg.l1 n n t0 t2 t4 0 o0 o1:=by kernel_rfl
theorem Zg.l1_eq (n m0:Nat) (t0_1:(den Za)) (t2_1:Bool) (t4_1:Int) (t5_1:Int) (o0_1:(den Za)) (o1_1:(den Z0)):Zg.l1 n (m0+1) t0_1 t2_1 t4_1 t5_1 o0_1 o1_1 =
  bif (decide (t5_1<((List.length (o0_1.2.2.2.1:(List (den Zb)))):Int))) then
    if (0:Int)≤t5_1∧t5_1<(((List.length (o0_1.2.2.2.1:(List (den Zb)))):Nat):Int) then
    bif (decide (((List.getD (o0_1.2.2.2.1:(List (den Zb))) (Int.toNat t5_1) (dft Zb):(den Zb)).1:Int)=0)) then
      Option.bind (Z9 n ((List.getD (o0_1.2.2.2.1:(List (den Zb))) (Int.toNat t5_1) (dft Zb):(den Zb)).2.1:Int) ((List.length (o1_1.1:(List (List Int)))):Int)) fun r4 =>
      bif (r4.1.1:Bool) then
        Zg.l1 n m0 t0_1 t2_1 t4_1 (IntKind.wrap .i64 (t5_1+1)) o0_1 o1_1
      else
        bif (decide (((List.getD (o0_1.2.2.2.1:(List (den Zb))) (Int.toNat t5_1) (dft Zb):(den Zb)).1:Int)=1)) then
          Option.bind (Z9 n ((List.getD (o0_1.2.2.2.1:(List (den Zb))) (Int.toNat t5_1) (dft Zb):(den Zb)).2.1:Int) ((List.length (o1_1.2.1:(List Int))):Int)) fun r5 =>
          bif (r5.1.1:Bool) then
            Zg.l1 n m0 t0_1 t2_1 t4_1 (IntKind.wrap .i64 (t5_1+1)) o0_1 o1_1
          else
            bif (decide (((List.getD (o0_1.2.2.2.1:(List (den Zb))) (Int.toNat t5_1) (dft Zb):(den Zb)).1:Int)=2)) then
              Option.bind (Z9 n ((List.getD (o0_1.2.2.2.1:(List (den Zb))) (Int.toNat t5_1) (dft Zb):(den Zb)).2.1:Int) ((List.length (o1_1.2.2.2.1:(List Int))):Int)) fun r6 =>
              bif (r6.1.1:Bool) then
                if (0:Int)≤((List.getD (o0_1.2.2.2.1:(List (den Zb))) (Int.toNat t5_1) (dft Zb):(den Zb)).2.1:Int)∧((List.getD (o0_1.2.2.2.1:(List (den Zb))) (Int.toNat t5_1) (dft Zb):(den Zb)).2.1:Int)<(((List.length (o1_1.2.2.2.2.1:(List Bool))):Nat):Int) then
                bif (!(List.getD (o1_1.2.2.2.2.1:(List Bool)) (Int.toNat ((List.getD (o0_1.2.2.2.1:(List (den Zb))) (Int.toNat t5_1) (dft Zb):(den Zb)).2.1:Int)) false:Bool)) then
                  some ((false,()),[])
                else
                  Zg.l1 n m0 t0_1 t2_1 t4_1 (IntKind.wrap .i64 (t5_1+1)) o0_1 o1_1
                else none
              else
                some ((false,()),[])
            else
              some ((false,()),[])
        else
          bif (decide (((List.getD (o0_1.2.2.2.1:(List (den Zb))) (Int.toNat t5_1) (dft Zb):(den Zb)).1:Int)=2)) then
            Option.bind (Z9 n ((List.getD (o0_1.2.2.2.1:(List (den Zb))) (Int.toNat t5_1) (dft Zb):(den Zb)).2.1:Int) ((List.length (o1_1.2.2.2.1:(List Int))):Int)) fun r7 =>
            bif (r7.1.1:Bool) then
              if (0:Int)≤((List.getD (o0_1.2.2.2.1:(List (den Zb))) (Int.toNat t5_1) (dft Zb):(den Zb)).2.1:Int)∧((List.getD (o0_1.2.2.2.1:(List (den Zb))) (Int.toNat t5_1) (dft Zb):(den Zb)).2.1:Int)<(((List.length (o1_1.2.2.2.2.1:(List Bool))):Nat):Int) then
              bif (!(List.getD (o1_1.2.2.2.2.1:(List Bool)) (Int.toNat ((List.getD (o0_1.2.2.2.1:(List (den Zb))) (Int.toNat t5_1) (dft Zb):(den Zb)).2.1:Int)) false:Bool)) then
                some ((false,()),[])
              else
                Zg.l1 n m0 t0_1 t2_1 t4_1 (IntKind.wrap .i64 (t5_1+1)) o0_1 o1_1
              else none
            else
              some ((false,()),[])
          else
            some ((false,()),[])
    else
      bif (decide (((List.getD (o0_1.2.2.2.1:(List (den Zb))) (Int.toNat t5_1) (dft Zb):(den Zb)).1:Int)=1)) then
        Option.bind (Z9 n ((List.getD (o0_1.2.2.2.1:(List (den Zb))) (Int.toNat t5_1) (dft Zb):(den Zb)).2.1:Int) ((List.length (o1_1.2.1:(List Int))):Int)) fun r8 =>
        bif (r8.1.1:Bool) then
          Zg.l1 n m0 t0_1 t2_1 t4_1 (IntKind.wrap .i64 (t5_1+1)) o0_1 o1_1
        else
          bif (decide (((List.getD (o0_1.2.2.2.1:(List (den Zb))) (Int.toNat t5_1) (dft Zb):(den Zb)).1:Int)=2)) then
            Option.bind (Z9 n ((List.getD (o0_1.2.2.2.1:(List (den Zb))) (Int.toNat t5_1) (dft Zb):(den Zb)).2.1:Int) ((List.length (o1_1.2.2.2.1:(List Int))):Int)) fun r9 =>
            bif (r9.1.1:Bool) then
              if (0:Int)≤((List.getD (o0_1.2.2.2.1:(List (den Zb))) (Int.toNat t5_1) (dft Zb):(den Zb)).2.1:Int)∧((List.getD (o0_1.2.2.2.1:(List (den Zb))) (Int.toNat t5_1) (dft Zb):(den Zb)).2.1:Int)<(((List.length (o1_1.2.2.2.2.1:(List Bool))):Nat):Int) then
              bif (!(List.getD (o1_1.2.2.2.2.1:(List Bool)) (Int.toNat ((List.getD (o0_1.2.2.2.1:(List (den Zb))) (Int.toNat t5_1) (dft Zb):(den Zb)).2.1:Int)) false:Bool)) then
                some ((false,()),[])
              else
                Zg.l1 n m0 t0_1 t2_1 t4_1 (IntKind.wrap .i64 (t5_1+1)) o0_1 o1_1
              else none
            else
              some ((false,()),[])
          else
            some ((false,()),[])
      else
        bif (decide (((List.getD (o0_1.2.2.2.1:(List (den Zb))) (Int.toNat t5_1) (dft Zb):(den Zb)).1:Int)=2)) then
          Option.bind (Z9 n ((List.getD (o0_1.2.2.2.1:(List (den Zb))) (Int.toNat t5_1) (dft Zb):(den Zb)).2.1:Int) ((List.length (o1_1.2.2.2.1:(List Int))):Int)) fun r10 =>
          bif (r10.1.1:Bool) then
            if (0:Int)≤((List.getD (o0_1.2.2.2.1:(List (den Zb))) (Int.toNat t5_1) (dft Zb):(den Zb)).2.1:Int)∧((List.getD (o0_1.2.2.2.1:(List (den Zb))) (Int.toNat t5_1) (dft Zb):(den Zb)).2.1:Int)<(((List.length (o1_1.2.2.2.2.1:(List Bool))):Nat):Int) then
            bif (!(List.getD (o1_1.2.2.2.2.1:(List Bool)) (Int.toNat ((List.getD (o0_1.2.2.2.1:(List (den Zb))) (Int.toNat t5_1) (dft Zb):(den Zb)).2.1:Int)) false:Bool)) then
              some ((false,()),[])
            else
              Zg.l1 n m0 t0_1 t2_1 t4_1 (IntKind.wrap .i64 (t5_1+1)) o0_1 o1_1
            else none
          else
            some ((false,()),[])
        else
          some ((false,()),[])
    else none
  else
    Zg.l2 n n t0_1 t2_1 t4_1 t5_1 0 o0_1 o1_1:=by kernel_rfl
theorem Zg.l2_eq (n m0:Nat) (t0_2:(den Za)) (t2_2:Bool) (t4_2:Int) (t5_2:Int) (t8_2:Int) (o0_2:(den Za)) (o1_2:(den Z0)):Zg.l2 n (m0+1) t0_2 t2_2 t4_2 t5_2 t8_2 o0_2 o1_2 =
  bif (decide (t8_2<((List.length (o0_2.2.2.2.1:(List (den Zb)))):Int))) then
    if (0:Int)≤t8_2∧t8_2<(((List.length (o0_2.2.2.2.1:(List (den Zb)))):Nat):Int) then
    Option.bind (Z2 n o0_2 (List.getD (o0_2.2.2.2.1:(List (den Zb))) (Int.toNat t8_2) (dft Zb):(den Zb))) fun r11 =>
    bif (decide (4<(r11.1.1:Int))) then
      some ((false,()),[])
    else
      if (0:Int)≤t8_2∧t8_2<(((List.length (o0_2.2.2.2.1:(List (den Zb)))):Nat):Int) then
      Option.bind (Z4 n o0_2 (List.getD (o0_2.2.2.2.1:(List (den Zb))) (Int.toNat t8_2) (dft Zb):(den Zb))) fun r12 =>
      if (0:Int)≤t8_2∧t8_2<(((List.length (o0_2.2.2.2.1:(List (den Zb)))):Nat):Int) then
      Option.bind (Yf n o0_2 (List.getD (o0_2.2.2.2.1:(List (den Zb))) (Int.toNat t8_2) (dft Zb):(den Zb))) fun r13 =>
      bif (decide ((r13.1.1:Int)<(r12.1.1:Int))) then
        some ((false,()),[])
      else
        Zg.l2 n m0 t0_2 t2_2 t4_2 t5_2 (IntKind.wrap .i64 (t8_2+1)) o0_2 o1_2
      else none
      else none
    else none
  else
    some ((true,()),[]):=by kernel_rfl
theorem Zg.eq (n:Nat) (a0:(den Za)):Zg (n+1) a0 =
  Option.bind (Zc n a0.1) fun r1 =>
  bif (!(r1.1.1:Bool)) then
    some ((false,()),[])
  else
    bif (!(decide (((List.length (a0.2.1:(List Int))):Int)=((List.length (a0.1.2.1:(List Int))):Int)))) then
      some ((false,()),[])
    else
      bif (!(decide (((List.length (a0.2.2.1:(List Int))):Int)=((List.length (a0.1.2.1:(List Int))):Int)))) then
        some ((false,()),[])
      else
        bif (!(decide (((List.length (a0.2.2.2.1:(List (den Zb)))):Int)=((List.length (a0.1.2.2.2.1:(List Int))):Int)))) then
          some ((false,()),[])
        else
          Zg.l0 n n a0 false 0 a0 a0.1:=by kernel_rfl
@[reducible] def Ye.R:Type:=Xc [.d .bool]×Zz
def Ye (n:Nat) (a0:(den Z6)):Option Ye.R:=gc n 7 [.dat Z6 a0 []] [.d .bool]
theorem Ye.eq (n:Nat) (a0:(den Z6)):Ye (n+1) a0 =
  bif (decide (((List.length (a0.2.2.2.2.2.1:(List Int))):Int)≤40)) then
    some (((decide (((List.length (a0.2.2.2.2.2.2.2.1:(List Int))):Int)≤40)),()),[])
  else
    some ((false,()),[]):=by kernel_rfl
@[reducible] def Zf.R:Type:=Xc [.d .bool]×Zz
def Zf (n:Nat) (a0:Int) (a1:Bool):Option Zf.R:=gc n 24 [.dat (.int .i64) a0 [],.dat .bool a1 []] [.d .bool]
theorem Zf.eq (n:Nat) (a0:Int) (a1:Bool):Zf (n+1) a0 a1 =
  bif (!a1) then
    some (((decide (a0=0)),()),[])
  else
    bif (decide (0≤a0)) then
      some (((decide (a0≤1073741824)),()),[])
    else
      some ((false,()),[]):=by kernel_rfl
def Zh.res:List Sh:=[.d .bool]
@[reducible] def Zh.R:Type:=Xc [.d .bool]×Zz
def Zh (n:Nat) (a0:(List Int)) (a1:Bool):Option Zh.R:=gc n 25 [.dat (.sl (.int .i64)) a0 [],.dat .bool a1 []] [.d .bool]
def Zh.l0 (n m0:Nat) (t0:(List Int)) (t1:Bool) (t4:Bool) (t5:Int):Option Zh.R :=
  lpN n AL4 m0 (Ja 0 (Qh (run (gc n) n) ARq (Xa Zh.fn Zh.res) (Xa Zh.fn Zh.res)) (Xa Zh.fn Zh.res))
    [(0,.dat (.sl (.int .i64)) t0 []),(1,.dat .bool t1 []),(4,.dat .bool t4 []),(5,.dat (.int .i64) t5 [])]
    []
theorem Zh.l0_eq (n m0:Nat) (t0:(List Int)) (t1:Bool) (t4:Bool) (t5:Int):Zh.l0 n (m0+1) t0 t1 t4 t5 =
  bif (decide (t5<((List.length t0):Int))) then
    if (0:Int)≤t5∧t5<(((List.length t0):Nat):Int) then
    Option.bind (Zf n (List.getD t0 (Int.toNat t5) (0:Int):Int) true) fun r1 =>
    bif (!(r1.1.1:Bool)) then
      some ((false,()),[])
    else
      Zh.l0 n m0 t0 t1 t4 (IntKind.wrap .i64 (t5+1))
    else none
  else
    some (((decide (((List.length t0):Int)≤16)),()),[]):=by kernel_rfl
theorem Zh.eq (n:Nat) (a0:(List Int)) (a1:Bool):Zh (n+1) a0 a1 =
  bif (!a1) then
    some (((decide (((List.length a0):Int)=0)),()),[])
  else
    Zh.l0 n n a0 a1 false 0:=by kernel_rfl
@[reducible] def X6.R:Type:=Xc [.d .bool]×Zz
def X6 (n:Nat) (a0:(den Z6)):Option X6.R:=gc n 8 [.dat Z6 a0 []] [.d .bool]
theorem X6.eq (n:Nat) (a0:(den Z6)):X6 (n+1) a0 =
  bif (decide ((a0.1:Int)<1)) then
    some ((false,()),[])
  else
    bif (decide (10<(a0.1:Int))) then
      some ((false,()),[])
    else
      bif (decide ((a0.2.1:Int)<0)) then
        some ((false,()),[])
      else
        bif (decide (3<(a0.2.1:Int))) then
          some ((false,()),[])
        else
          bif (!(decide ((a0.2.1:Int)=0))) then
            bif (decide (2<(a0.1:Int))) then
              some ((false,()),[])
            else
              bif (decide (3≤(a0.1:Int))) then
                Option.bind (Zf n (a0.2.2.1:Int) (decide ((a0.1:Int)≤7))) fun r1 =>
                bif (r1.1.1:Bool) then
                  bif (decide ((a0.1:Int)=5)) then
                    Option.bind (Zf n (a0.2.2.2.1:Int) true) fun r2 =>
                    bif (r2.1.1:Bool) then
                      bif (decide ((a0.1:Int)=2)) then
                        Option.bind (Zf n (a0.2.2.2.2.1:Int) true) fun r3 =>
                        bif (r3.1.1:Bool) then
                          Option.bind (Zf n (a0.2.2.2.2.2.2.1:Int) (decide ((a0.1:Int)=8))) fun r4 =>
                          bif (r4.1.1:Bool) then
                            Option.bind (Zf n (a0.2.2.2.2.2.2.2.2.1:Int) (decide ((a0.1:Int)=8))) fun r5 =>
                            bif (r5.1.1:Bool) then
                              Option.bind (Zh n (a0.2.2.2.2.2.1:(List Int)) (decide ((a0.1:Int)=8))) fun r6 =>
                              bif (r6.1.1:Bool) then
                                Option.bind (Zh n (a0.2.2.2.2.2.2.2.1:(List Int)) (decide ((a0.1:Int)=8))) fun r7 =>
                                some (((r7.1.1:Bool),()),[])
                              else
                                some ((false,()),[])
                            else
                              some ((false,()),[])
                          else
                            some ((false,()),[])
                        else
                          some ((false,()),[])
                      else
                        bif (decide ((a0.1:Int)=7)) then
                          Option.bind (Zf n (a0.2.2.2.2.1:Int) true) fun r8 =>
                          bif (r8.1.1:Bool) then
                            Option.bind (Zf n (a0.2.2.2.2.2.2.1:Int) (decide ((a0.1:Int)=8))) fun r9 =>
                            bif (r9.1.1:Bool) then
                              Option.bind (Zf n (a0.2.2.2.2.2.2.2.2.1:Int) (decide ((a0.1:Int)=8))) fun r10 =>
                              bif (r10.1.1:Bool) then
                                Option.bind (Zh n (a0.2.2.2.2.2.1:(List Int)) (decide ((a0.1:Int)=8))) fun r11 =>
                                bif (r11.1.1:Bool) then
                                  Option.bind (Zh n (a0.2.2.2.2.2.2.2.1:(List Int)) (decide ((a0.1:Int)=8))) fun r12 =>
                                  some (((r12.1.1:Bool),()),[])
                                else
                                  some ((false,()),[])
                              else
                                some ((false,()),[])
                            else
                              some ((false,()),[])
                          else
                            some ((false,()),[])
                        else
                          Option.bind (Zf n (a0.2.2.2.2.1:Int) (decide ((a0.1:Int)=8))) fun r13 =>
                          bif (r13.1.1:Bool) then
                            Option.bind (Zf n (a0.2.2.2.2.2.2.1:Int) (decide ((a0.1:Int)=8))) fun r14 =>
                            bif (r14.1.1:Bool) then
                              Option.bind (Zf n (a0.2.2.2.2.2.2.2.2.1:Int) (decide ((a0.1:Int)=8))) fun r15 =>
                              bif (r15.1.1:Bool) then
                                Option.bind (Zh n (a0.2.2.2.2.2.1:(List Int)) (decide ((a0.1:Int)=8))) fun r16 =>
                                bif (r16.1.1:Bool) then
                                  Option.bind (Zh n (a0.2.2.2.2.2.2.2.1:(List Int)) (decide ((a0.1:Int)=8))) fun r17 =>
                                  some (((r17.1.1:Bool),()),[])
                                else
                                  some ((false,()),[])
                              else
                                some ((false,()),[])
                            else
                              some ((false,()),[])
                          else
                            some ((false,()),[])
                    else
                      some ((false,()),[])
                  else
                    Option.bind (Zf n (a0.2.2.2.1:Int) (decide ((a0.1:Int)=6))) fun r18 =>
                    bif (r18.1.1:Bool) then
                      bif (decide ((a0.1:Int)=2)) then
                        Option.bind (Zf n (a0.2.2.2.2.1:Int) true) fun r19 =>
                        bif (r19.1.1:Bool) then
                          Option.bind (Zf n (a0.2.2.2.2.2.2.1:Int) (decide ((a0.1:Int)=8))) fun r20 =>
                          bif (r20.1.1:Bool) then
                            Option.bind (Zf n (a0.2.2.2.2.2.2.2.2.1:Int) (decide ((a0.1:Int)=8))) fun r21 =>
                            bif (r21.1.1:Bool) then
                              Option.bind (Zh n (a0.2.2.2.2.2.1:(List Int)) (decide ((a0.1:Int)=8))) fun r22 =>
                              bif (r22.1.1:Bool) then
                                Option.bind (Zh n (a0.2.2.2.2.2.2.2.1:(List Int)) (decide ((a0.1:Int)=8))) fun r23 =>
                                some (((r23.1.1:Bool),()),[])
                              else
                                some ((false,()),[])
                            else
                              some ((false,()),[])
                          else
                            some ((false,()),[])
                        else
                          some ((false,()),[])
                      else
                        bif (decide ((a0.1:Int)=7)) then
                          Option.bind (Zf n (a0.2.2.2.2.1:Int) true) fun r24 =>
                          bif (r24.1.1:Bool) then
                            Option.bind (Zf n (a0.2.2.2.2.2.2.1:Int) (decide ((a0.1:Int)=8))) fun r25 =>
                            bif (r25.1.1:Bool) then
                              Option.bind (Zf n (a0.2.2.2.2.2.2.2.2.1:Int) (decide ((a0.1:Int)=8))) fun r26 =>
                              bif (r26.1.1:Bool) then
                                Option.bind (Zh n (a0.2.2.2.2.2.1:(List Int)) (decide ((a0.1:Int)=8))) fun r27 =>
                                bif (r27.1.1:Bool) then
                                  Option.bind (Zh n (a0.2.2.2.2.2.2.2.1:(List Int)) (decide ((a0.1:Int)=8))) fun r28 =>
                                  some (((r28.1.1:Bool),()),[])
                                else
                                  some ((false,()),[])
                              else
                                some ((false,()),[])
                            else
                              some ((false,()),[])
                          else
                            some ((false,()),[])
                        else
                          Option.bind (Zf n (a0.2.2.2.2.1:Int) (decide ((a0.1:Int)=8))) fun r29 =>
                          bif (r29.1.1:Bool) then
                            Option.bind (Zf n (a0.2.2.2.2.2.2.1:Int) (decide ((a0.1:Int)=8))) fun r30 =>
                            bif (r30.1.1:Bool) then
                              Option.bind (Zf n (a0.2.2.2.2.2.2.2.2.1:Int) (decide ((a0.1:Int)=8))) fun r31 =>
                              bif (r31.1.1:Bool) then
                                Option.bind (Zh n (a0.2.2.2.2.2.1:(List Int)) (decide ((a0.1:Int)=8))) fun r32 =>
                                bif (r32.1.1:Bool) then
                                  Option.bind (Zh n (a0.2.2.2.2.2.2.2.1:(List Int)) (decide ((a0.1:Int)=8))) fun r33 =>
                                  some (((r33.1.1:Bool),()),[])
                                else
                                  some ((false,()),[])
                              else
                                some ((false,()),[])
                            else
                              some ((false,()),[])
                          else
                            some ((false,()),[])
                    else
                      some ((false,()),[])
                else
                  some ((false,()),[])
              else
                Option.bind (Zf n (a0.2.2.1:Int) false) fun r34 =>
                bif (r34.1.1:Bool) then
                  bif (decide ((a0.1:Int)=5)) then
                    Option.bind (Zf n (a0.2.2.2.1:Int) true) fun r35 =>
                    bif (r35.1.1:Bool) then
                      bif (decide ((a0.1:Int)=2)) then
                        Option.bind (Zf n (a0.2.2.2.2.1:Int) true) fun r36 =>
                        bif (r36.1.1:Bool) then
                          Option.bind (Zf n (a0.2.2.2.2.2.2.1:Int) (decide ((a0.1:Int)=8))) fun r37 =>
                          bif (r37.1.1:Bool) then
                            Option.bind (Zf n (a0.2.2.2.2.2.2.2.2.1:Int) (decide ((a0.1:Int)=8))) fun r38 =>
                            bif (r38.1.1:Bool) then
                              Option.bind (Zh n (a0.2.2.2.2.2.1:(List Int)) (decide ((a0.1:Int)=8))) fun r39 =>
                              bif (r39.1.1:Bool) then
                                Option.bind (Zh n (a0.2.2.2.2.2.2.2.1:(List Int)) (decide ((a0.1:Int)=8))) fun r40 =>
                                some (((r40.1.1:Bool),()),[])
                              else
                                some ((false,()),[])
                            else
                              some ((false,()),[])
                          else
                            some ((false,()),[])
                        else
                          some ((false,()),[])
                      else
                        bif (decide ((a0.1:Int)=7)) then
                          Option.bind (Zf n (a0.2.2.2.2.1:Int) true) fun r41 =>
                          bif (r41.1.1:Bool) then
                            Option.bind (Zf n (a0.2.2.2.2.2.2.1:Int) (decide ((a0.1:Int)=8))) fun r42 =>
                            bif (r42.1.1:Bool) then
                              Option.bind (Zf n (a0.2.2.2.2.2.2.2.2.1:Int) (decide ((a0.1:Int)=8))) fun r43 =>
                              bif (r43.1.1:Bool) then
                                Option.bind (Zh n (a0.2.2.2.2.2.1:(List Int)) (decide ((a0.1:Int)=8))) fun r44 =>
                                bif (r44.1.1:Bool) then
                                  Option.bind (Zh n (a0.2.2.2.2.2.2.2.1:(List Int)) (decide ((a0.1:Int)=8))) fun r45 =>
                                  some (((r45.1.1:Bool),()),[])
                                else
                                  some ((false,()),[])
                              else
                                some ((false,()),[])
                            else
                              some ((false,()),[])
                          else
                            some ((false,()),[])
                        else
                          Option.bind (Zf n (a0.2.2.2.2.1:Int) (decide ((a0.1:Int)=8))) fun r46 =>
                          bif (r46.1.1:Bool) then
                            Option.bind (Zf n (a0.2.2.2.2.2.2.1:Int) (decide ((a0.1:Int)=8))) fun r47 =>
                            bif (r47.1.1:Bool) then
                              Option.bind (Zf n (a0.2.2.2.2.2.2.2.2.1:Int) (decide ((a0.1:Int)=8))) fun r48 =>
                              bif (r48.1.1:Bool) then
                                Option.bind (Zh n (a0.2.2.2.2.2.1:(List Int)) (decide ((a0.1:Int)=8))) fun r49 =>
                                bif (r49.1.1:Bool) then
                                  Option.bind (Zh n (a0.2.2.2.2.2.2.2.1:(List Int)) (decide ((a0.1:Int)=8))) fun r50 =>
                                  some (((r50.1.1:Bool),()),[])
                                else
                                  some ((false,()),[])
                              else
                                some ((false,()),[])
                            else
                              some ((false,()),[])
                          else
                            some ((false,()),[])
                    else
                      some ((false,()),[])
                  else
                    Option.bind (Zf n (a0.2.2.2.1:Int) (decide ((a0.1:Int)=6))) fun r51 =>
                    bif (r51.1.1:Bool) then
                      bif (decide ((a0.1:Int)=2)) then
                        Option.bind (Zf n (a0.2.2.2.2.1:Int) true) fun r52 =>
                        bif (r52.1.1:Bool) then
                          Option.bind (Zf n (a0.2.2.2.2.2.2.1:Int) (decide ((a0.1:Int)=8))) fun r53 =>
                          bif (r53.1.1:Bool) then
                            Option.bind (Zf n (a0.2.2.2.2.2.2.2.2.1:Int) (decide ((a0.1:Int)=8))) fun r54 =>
                            bif (r54.1.1:Bool) then
                              Option.bind (Zh n (a0.2.2.2.2.2.1:(List Int)) (decide ((a0.1:Int)=8))) fun r55 =>
                              bif (r55.1.1:Bool) then
                                Option.bind (Zh n (a0.2.2.2.2.2.2.2.1:(List Int)) (decide ((a0.1:Int)=8))) fun r56 =>
                                some (((r56.1.1:Bool),()),[])
                              else
                                some ((false,()),[])
                            else
                              some ((false,()),[])
                          else
                            some ((false,()),[])
                        else
                          some ((false,()),[])
                      else
                        bif (decide ((a0.1:Int)=7)) then
                          Option.bind (Zf n (a0.2.2.2.2.1:Int) true) fun r57 =>
                          bif (r57.1.1:Bool) then
                            Option.bind (Zf n (a0.2.2.2.2.2.2.1:Int) (decide ((a0.1:Int)=8))) fun r58 =>
                            bif (r58.1.1:Bool) then
                              Option.bind (Zf n (a0.2.2.2.2.2.2.2.2.1:Int) (decide ((a0.1:Int)=8))) fun r59 =>
                              bif (r59.1.1:Bool) then
                                Option.bind (Zh n (a0.2.2.2.2.2.1:(List Int)) (decide ((a0.1:Int)=8))) fun r60 =>
                                bif (r60.1.1:Bool) then
                                  Option.bind (Zh n (a0.2.2.2.2.2.2.2.1:(List Int)) (decide ((a0.1:Int)=8))) fun r61 =>
                                  some (((r61.1.1:Bool),()),[])
                                else
                                  some ((false,()),[])
                              else
                                some ((false,()),[])
                            else
                              some ((false,()),[])
                          else
                            some ((false,()),[])
                        else
                          Option.bind (Zf n (a0.2.2.2.2.1:Int) (decide ((a0.1:Int)=8))) fun r62 =>
                          bif (r62.1.1:Bool) then
                            Option.bind (Zf n (a0.2.2.2.2.2.2.1:Int) (decide ((a0.1:Int)=8))) fun r63 =>
                            bif (r63.1.1:Bool) then
                              Option.bind (Zf n (a0.2.2.2.2.2.2.2.2.1:Int) (decide ((a0.1:Int)=8))) fun r64 =>
                              bif (r64.1.1:Bool) then
                                Option.bind (Zh n (a0.2.2.2.2.2.1:(List Int)) (decide ((a0.1:Int)=8))) fun r65 =>
                                bif (r65.1.1:Bool) then
                                  Option.bind (Zh n (a0.2.2.2.2.2.2.2.1:(List Int)) (decide ((a0.1:Int)=8))) fun r66 =>
                                  some (((r66.1.1:Bool),()),[])
                                else
                                  some ((false,()),[])
                              else
                                some ((false,()),[])
                            else
                              some ((false,()),[])
                          else
                            some ((false,()),[])
                    else
                      some ((false,()),[])
                else
                  some ((false,()),[])
          else
            bif (decide (3≤(a0.1:Int))) then
              Option.bind (Zf n (a0.2.2.1:Int) (decide ((a0.1:Int)≤7))) fun r67 =>
              bif (r67.1.1:Bool) then
                bif (decide ((a0.1:Int)=5)) then
                  Option.bind (Zf n (a0.2.2.2.1:Int) true) fun r68 =>
                  bif (r68.1.1:Bool) then
                    bif (decide ((a0.1:Int)=2)) then
                      Option.bind (Zf n (a0.2.2.2.2.1:Int) true) fun r69 =>
                      bif (r69.1.1:Bool) then
                        Option.bind (Zf n (a0.2.2.2.2.2.2.1:Int) (decide ((a0.1:Int)=8))) fun r70 =>
                        bif (r70.1.1:Bool) then
                          Option.bind (Zf n (a0.2.2.2.2.2.2.2.2.1:Int) (decide ((a0.1:Int)=8))) fun r71 =>
                          bif (r71.1.1:Bool) then
                            Option.bind (Zh n (a0.2.2.2.2.2.1:(List Int)) (decide ((a0.1:Int)=8))) fun r72 =>
                            bif (r72.1.1:Bool) then
                              Option.bind (Zh n (a0.2.2.2.2.2.2.2.1:(List Int)) (decide ((a0.1:Int)=8))) fun r73 =>
                              some (((r73.1.1:Bool),()),[])
                            else
                              some ((false,()),[])
                          else
                            some ((false,()),[])
                        else
                          some ((false,()),[])
                      else
                        some ((false,()),[])
                    else
                      bif (decide ((a0.1:Int)=7)) then
                        Option.bind (Zf n (a0.2.2.2.2.1:Int) true) fun r74 =>
                        bif (r74.1.1:Bool) then
                          Option.bind (Zf n (a0.2.2.2.2.2.2.1:Int) (decide ((a0.1:Int)=8))) fun r75 =>
                          bif (r75.1.1:Bool) then
                            Option.bind (Zf n (a0.2.2.2.2.2.2.2.2.1:Int) (decide ((a0.1:Int)=8))) fun r76 =>
                            bif (r76.1.1:Bool) then
                              Option.bind (Zh n (a0.2.2.2.2.2.1:(List Int)) (decide ((a0.1:Int)=8))) fun r77 =>
                              bif (r77.1.1:Bool) then
                                Option.bind (Zh n (a0.2.2.2.2.2.2.2.1:(List Int)) (decide ((a0.1:Int)=8))) fun r78 =>
                                some (((r78.1.1:Bool),()),[])
                              else
                                some ((false,()),[])
                            else
                              some ((false,()),[])
                          else
                            some ((false,()),[])
                        else
                          some ((false,()),[])
                      else
                        Option.bind (Zf n (a0.2.2.2.2.1:Int) (decide ((a0.1:Int)=8))) fun r79 =>
                        bif (r79.1.1:Bool) then
                          Option.bind (Zf n (a0.2.2.2.2.2.2.1:Int) (decide ((a0.1:Int)=8))) fun r80 =>
                          bif (r80.1.1:Bool) then
                            Option.bind (Zf n (a0.2.2.2.2.2.2.2.2.1:Int) (decide ((a0.1:Int)=8))) fun r81 =>
                            bif (r81.1.1:Bool) then
                              Option.bind (Zh n (a0.2.2.2.2.2.1:(List Int)) (decide ((a0.1:Int)=8))) fun r82 =>
                              bif (r82.1.1:Bool) then
                                Option.bind (Zh n (a0.2.2.2.2.2.2.2.1:(List Int)) (decide ((a0.1:Int)=8))) fun r83 =>
                                some (((r83.1.1:Bool),()),[])
                              else
                                some ((false,()),[])
                            else
                              some ((false,()),[])
                          else
                            some ((false,()),[])
                        else
                          some ((false,()),[])
                  else
                    some ((false,()),[])
                else
                  Option.bind (Zf n (a0.2.2.2.1:Int) (decide ((a0.1:Int)=6))) fun r84 =>
                  bif (r84.1.1:Bool) then
                    bif (decide ((a0.1:Int)=2)) then
                      Option.bind (Zf n (a0.2.2.2.2.1:Int) true) fun r85 =>
                      bif (r85.1.1:Bool) then
                        Option.bind (Zf n (a0.2.2.2.2.2.2.1:Int) (decide ((a0.1:Int)=8))) fun r86 =>
                        bif (r86.1.1:Bool) then
                          Option.bind (Zf n (a0.2.2.2.2.2.2.2.2.1:Int) (decide ((a0.1:Int)=8))) fun r87 =>
                          bif (r87.1.1:Bool) then
                            Option.bind (Zh n (a0.2.2.2.2.2.1:(List Int)) (decide ((a0.1:Int)=8))) fun r88 =>
                            bif (r88.1.1:Bool) then
                              Option.bind (Zh n (a0.2.2.2.2.2.2.2.1:(List Int)) (decide ((a0.1:Int)=8))) fun r89 =>
                              some (((r89.1.1:Bool),()),[])
                            else
                              some ((false,()),[])
                          else
                            some ((false,()),[])
                        else
                          some ((false,()),[])
                      else
                        some ((false,()),[])
                    else
                      bif (decide ((a0.1:Int)=7)) then
                        Option.bind (Zf n (a0.2.2.2.2.1:Int) true) fun r90 =>
                        bif (r90.1.1:Bool) then
                          Option.bind (Zf n (a0.2.2.2.2.2.2.1:Int) (decide ((a0.1:Int)=8))) fun r91 =>
                          bif (r91.1.1:Bool) then
                            Option.bind (Zf n (a0.2.2.2.2.2.2.2.2.1:Int) (decide ((a0.1:Int)=8))) fun r92 =>
                            bif (r92.1.1:Bool) then
                              Option.bind (Zh n (a0.2.2.2.2.2.1:(List Int)) (decide ((a0.1:Int)=8))) fun r93 =>
                              bif (r93.1.1:Bool) then
                                Option.bind (Zh n (a0.2.2.2.2.2.2.2.1:(List Int)) (decide ((a0.1:Int)=8))) fun r94 =>
                                some (((r94.1.1:Bool),()),[])
                              else
                                some ((false,()),[])
                            else
                              some ((false,()),[])
                          else
                            some ((false,()),[])
                        else
                          some ((false,()),[])
                      else
                        Option.bind (Zf n (a0.2.2.2.2.1:Int) (decide ((a0.1:Int)=8))) fun r95 =>
                        bif (r95.1.1:Bool) then
                          Option.bind (Zf n (a0.2.2.2.2.2.2.1:Int) (decide ((a0.1:Int)=8))) fun r96 =>
                          bif (r96.1.1:Bool) then
                            Option.bind (Zf n (a0.2.2.2.2.2.2.2.2.1:Int) (decide ((a0.1:Int)=8))) fun r97 =>
                            bif (r97.1.1:Bool) then
                              Option.bind (Zh n (a0.2.2.2.2.2.1:(List Int)) (decide ((a0.1:Int)=8))) fun r98 =>
                              bif (r98.1.1:Bool) then
                                Option.bind (Zh n (a0.2.2.2.2.2.2.2.1:(List Int)) (decide ((a0.1:Int)=8))) fun r99 =>
                                some (((r99.1.1:Bool),()),[])
                              else
                                some ((false,()),[])
                            else
                              some ((false,()),[])
                          else
                            some ((false,()),[])
                        else
                          some ((false,()),[])
                  else
                    some ((false,()),[])
              else
                some ((false,()),[])
            else
              Option.bind (Zf n (a0.2.2.1:Int) false) fun r100 =>
              bif (r100.1.1:Bool) then
                bif (decide ((a0.1:Int)=5)) then
                  Option.bind (Zf n (a0.2.2.2.1:Int) true) fun r101 =>
                  bif (r101.1.1:Bool) then
                    bif (decide ((a0.1:Int)=2)) then
                      Option.bind (Zf n (a0.2.2.2.2.1:Int) true) fun r102 =>
                      bif (r102.1.1:Bool) then
                        Option.bind (Zf n (a0.2.2.2.2.2.2.1:Int) (decide ((a0.1:Int)=8))) fun r103 =>
                        bif (r103.1.1:Bool) then
                          Option.bind (Zf n (a0.2.2.2.2.2.2.2.2.1:Int) (decide ((a0.1:Int)=8))) fun r104 =>
                          bif (r104.1.1:Bool) then
                            Option.bind (Zh n (a0.2.2.2.2.2.1:(List Int)) (decide ((a0.1:Int)=8))) fun r105 =>
                            bif (r105.1.1:Bool) then
                              Option.bind (Zh n (a0.2.2.2.2.2.2.2.1:(List Int)) (decide ((a0.1:Int)=8))) fun r106 =>
                              some (((r106.1.1:Bool),()),[])
                            else
                              some ((false,()),[])
                          else
                            some ((false,()),[])
                        else
                          some ((false,()),[])
                      else
                        some ((false,()),[])
                    else
                      bif (decide ((a0.1:Int)=7)) then
                        Option.bind (Zf n (a0.2.2.2.2.1:Int) true) fun r107 =>
                        bif (r107.1.1:Bool) then
                          Option.bind (Zf n (a0.2.2.2.2.2.2.1:Int) (decide ((a0.1:Int)=8))) fun r108 =>
                          bif (r108.1.1:Bool) then
                            Option.bind (Zf n (a0.2.2.2.2.2.2.2.2.1:Int) (decide ((a0.1:Int)=8))) fun r109 =>
                            bif (r109.1.1:Bool) then
                              Option.bind (Zh n (a0.2.2.2.2.2.1:(List Int)) (decide ((a0.1:Int)=8))) fun r110 =>
                              bif (r110.1.1:Bool) then
                                Option.bind (Zh n (a0.2.2.2.2.2.2.2.1:(List Int)) (decide ((a0.1:Int)=8))) fun r111 =>
                                some (((r111.1.1:Bool),()),[])
                              else
                                some ((false,()),[])
                            else
                              some ((false,()),[])
                          else
                            some ((false,()),[])
                        else
                          some ((false,()),[])
                      else
                        Option.bind (Zf n (a0.2.2.2.2.1:Int) (decide ((a0.1:Int)=8))) fun r112 =>
                        bif (r112.1.1:Bool) then
                          Option.bind (Zf n (a0.2.2.2.2.2.2.1:Int) (decide ((a0.1:Int)=8))) fun r113 =>
                          bif (r113.1.1:Bool) then
                            Option.bind (Zf n (a0.2.2.2.2.2.2.2.2.1:Int) (decide ((a0.1:Int)=8))) fun r114 =>
                            bif (r114.1.1:Bool) then
                              Option.bind (Zh n (a0.2.2.2.2.2.1:(List Int)) (decide ((a0.1:Int)=8))) fun r115 =>
                              bif (r115.1.1:Bool) then
                                Option.bind (Zh n (a0.2.2.2.2.2.2.2.1:(List Int)) (decide ((a0.1:Int)=8))) fun r116 =>
                                some (((r116.1.1:Bool),()),[])
                              else
                                some ((false,()),[])
                            else
                              some ((false,()),[])
                          else
                            some ((false,()),[])
                        else
                          some ((false,()),[])
                  else
                    some ((false,()),[])
                else
                  Option.bind (Zf n (a0.2.2.2.1:Int) (decide ((a0.1:Int)=6))) fun r117 =>
                  bif (r117.1.1:Bool) then
                    bif (decide ((a0.1:Int)=2)) then
                      Option.bind (Zf n (a0.2.2.2.2.1:Int) true) fun r118 =>
                      bif (r118.1.1:Bool) then
                        Option.bind (Zf n (a0.2.2.2.2.2.2.1:Int) (decide ((a0.1:Int)=8))) fun r119 =>
                        bif (r119.1.1:Bool) then
                          Option.bind (Zf n (a0.2.2.2.2.2.2.2.2.1:Int) (decide ((a0.1:Int)=8))) fun r120 =>
                          bif (r120.1.1:Bool) then
                            Option.bind (Zh n (a0.2.2.2.2.2.1:(List Int)) (decide ((a0.1:Int)=8))) fun r121 =>
                            bif (r121.1.1:Bool) then
                              Option.bind (Zh n (a0.2.2.2.2.2.2.2.1:(List Int)) (decide ((a0.1:Int)=8))) fun r122 =>
                              some (((r122.1.1:Bool),()),[])
                            else
                              some ((false,()),[])
                          else
                            some ((false,()),[])
                        else
                          some ((false,()),[])
                      else
                        some ((false,()),[])
                    else
                      bif (decide ((a0.1:Int)=7)) then
                        Option.bind (Zf n (a0.2.2.2.2.1:Int) true) fun r123 =>
                        bif (r123.1.1:Bool) then
                          Option.bind (Zf n (a0.2.2.2.2.2.2.1:Int) (decide ((a0.1:Int)=8))) fun r124 =>
                          bif (r124.1.1:Bool) then
                            Option.bind (Zf n (a0.2.2.2.2.2.2.2.2.1:Int) (decide ((a0.1:Int)=8))) fun r125 =>
                            bif (r125.1.1:Bool) then
                              Option.bind (Zh n (a0.2.2.2.2.2.1:(List Int)) (decide ((a0.1:Int)=8))) fun r126 =>
                              bif (r126.1.1:Bool) then
                                Option.bind (Zh n (a0.2.2.2.2.2.2.2.1:(List Int)) (decide ((a0.1:Int)=8))) fun r127 =>
                                some (((r127.1.1:Bool),()),[])
                              else
                                some ((false,()),[])
                            else
                              some ((false,()),[])
                          else
                            some ((false,()),[])
                        else
                          some ((false,()),[])
                      else
                        Option.bind (Zf n (a0.2.2.2.2.1:Int) (decide ((a0.1:Int)=8))) fun r128 =>
                        bif (r128.1.1:Bool) then
                          Option.bind (Zf n (a0.2.2.2.2.2.2.1:Int) (decide ((a0.1:Int)=8))) fun r129 =>
                          bif (r129.1.1:Bool) then
                            Option.bind (Zf n (a0.2.2.2.2.2.2.2.2.1:Int) (decide ((a0.1:Int)=8))) fun r130 =>
                            bif (r130.1.1:Bool) then
                              Option.bind (Zh n (a0.2.2.2.2.2.1:(List Int)) (decide ((a0.1:Int)=8))) fun r131 =>
                              bif (r131.1.1:Bool) then
                                Option.bind (Zh n (a0.2.2.2.2.2.2.2.1:(List Int)) (decide ((a0.1:Int)=8))) fun r132 =>
                                some (((r132.1.1:Bool),()),[])
                              else
                                some ((false,()),[])
                            else
                              some ((false,()),[])
                          else
                            some ((false,()),[])
                        else
                          some ((false,()),[])
                  else
                    some ((false,()),[])
              else
                some ((false,()),[]):=by kernel_rfl
@[reducible] def Kx.R:Type:=Xc [.d .str]×Zz
def Kx (n:Nat) (a0:(List ByteArray)) (a1:Int):Option Kx.R:=gc n 59 [.dat (.sl .str) a0 [],.dat (.int .i64) a1 []] [.d .str]
theorem Kx.eq (n:Nat) (a0:(List ByteArray)) (a1:Int):Kx (n+1) a0 a1 =
  bif (decide (a1<0)) then
    some (((⟨#[]⟩:ByteArray),()),[])
  else
    bif (decide (((List.length a0):Int)≤a1)) then
      some (((⟨#[]⟩:ByteArray),()),[])
    else
      if (0:Int)≤a1∧a1<(((List.length a0):Nat):Int) then
      some (((List.getD a0 (Int.toNat a1) (dft .str):ByteArray),()),[])
      else none:=by kernel_rfl
@[reducible] def He.R:Type:=Xc [.d .str]×Zz
def He (n:Nat) (a0:Int):Option He.R:=gc n 31 [.dat (.int .i64) a0 []] [.d .str]
theorem He.eq (n:Nat) (a0:Int):He (n+1) a0 =
  Option.bind (Kx n (Iw:(List ByteArray)) a0) fun r1 =>
  some (((r1.1.1:ByteArray),()),[]):=by kernel_rfl
@[reducible] def Qg.R:Type:=Xc [.d Z6]×Zz
def Qg (n:Nat) (a0:(den Z6)):Option Qg.R:=gc n 33 [.dat Z6 a0 []] [.d Z6]
theorem Qg.eq (n:Nat) (a0:(den Z6)):Qg (n+1) a0 =
  bif (decide ((a0.1:Int)=1)) then
    some ((((a0.1:Int),(a0.2.1:Int),0,0,0,([]:List Int),0,([]:List Int),0,()),()),[])
  else
    bif (decide ((a0.1:Int)=2)) then
      some ((((a0.1:Int),(a0.2.1:Int),0,0,(a0.2.2.2.2.1:Int),([]:List Int),0,([]:List Int),0,()),()),[])
    else
      bif (decide ((a0.1:Int)=3)) then
        bif (decide ((a0.1:Int)=3)) then
          some ((((a0.1:Int),0,(a0.2.2.1:Int),0,0,([]:List Int),0,([]:List Int),0,()),()),[])
        else
          bif (decide ((a0.1:Int)=5)) then
            bif (decide ((a0.1:Int)=5)) then
              some ((((a0.1:Int),0,(a0.2.2.1:Int),(a0.2.2.2.1:Int),0,([]:List Int),0,([]:List Int),0,()),()),[])
            else
              bif (decide ((a0.1:Int)=7)) then
                some ((((a0.1:Int),0,(a0.2.2.1:Int),0,(a0.2.2.2.2.1:Int),([]:List Int),0,([]:List Int),0,()),()),[])
              else
                bif (decide ((a0.1:Int)=8)) then
                  some ((((a0.1:Int),0,0,0,(a0.2.2.2.2.1:Int),(a0.2.2.2.2.2.1:(List Int)),(a0.2.2.2.2.2.2.1:Int),(a0.2.2.2.2.2.2.2.1:(List Int)),(a0.2.2.2.2.2.2.2.2.1:Int),()),()),[])
                else
                  some ((((a0.1:Int),0,0,0,0,([]:List Int),0,([]:List Int),0,()),()),[])
          else
            bif (decide ((a0.1:Int)=6)) then
              some ((((a0.1:Int),0,(a0.2.2.1:Int),(a0.2.2.2.1:Int),0,([]:List Int),0,([]:List Int),0,()),()),[])
            else
              bif (decide ((a0.1:Int)=7)) then
                some ((((a0.1:Int),0,(a0.2.2.1:Int),0,(a0.2.2.2.2.1:Int),([]:List Int),0,([]:List Int),0,()),()),[])
              else
                bif (decide ((a0.1:Int)=8)) then
                  some ((((a0.1:Int),0,0,0,(a0.2.2.2.2.1:Int),(a0.2.2.2.2.2.1:(List Int)),(a0.2.2.2.2.2.2.1:Int),(a0.2.2.2.2.2.2.2.1:(List Int)),(a0.2.2.2.2.2.2.2.2.1:Int),()),()),[])
                else
                  some ((((a0.1:Int),0,0,0,0,([]:List Int),0,([]:List Int),0,()),()),[])
      else
        bif (decide ((a0.1:Int)=4)) then
          some ((((a0.1:Int),0,(a0.2.2.1:Int),0,0,([]:List Int),0,([]:List Int),0,()),()),[])
        else
          bif (decide ((a0.1:Int)=5)) then
            bif (decide ((a0.1:Int)=5)) then
              some ((((a0.1:Int),0,(a0.2.2.1:Int),(a0.2.2.2.1:Int),0,([]:List Int),0,([]:List Int),0,()),()),[])
            else
              bif (decide ((a0.1:Int)=7)) then
                some ((((a0.1:Int),0,(a0.2.2.1:Int),0,(a0.2.2.2.2.1:Int),([]:List Int),0,([]:List Int),0,()),()),[])
              else
                bif (decide ((a0.1:Int)=8)) then
                  some ((((a0.1:Int),0,0,0,(a0.2.2.2.2.1:Int),(a0.2.2.2.2.2.1:(List Int)),(a0.2.2.2.2.2.2.1:Int),(a0.2.2.2.2.2.2.2.1:(List Int)),(a0.2.2.2.2.2.2.2.2.1:Int),()),()),[])
                else
                  some ((((a0.1:Int),0,0,0,0,([]:List Int),0,([]:List Int),0,()),()),[])
          else
            bif (decide ((a0.1:Int)=6)) then
              some ((((a0.1:Int),0,(a0.2.2.1:Int),(a0.2.2.2.1:Int),0,([]:List Int),0,([]:List Int),0,()),()),[])
            else
              bif (decide ((a0.1:Int)=7)) then
                some ((((a0.1:Int),0,(a0.2.2.1:Int),0,(a0.2.2.2.2.1:Int),([]:List Int),0,([]:List Int),0,()),()),[])
              else
                bif (decide ((a0.1:Int)=8)) then
                  some ((((a0.1:Int),0,0,0,(a0.2.2.2.2.1:Int),(a0.2.2.2.2.2.1:(List Int)),(a0.2.2.2.2.2.2.1:Int),(a0.2.2.2.2.2.2.2.1:(List Int)),(a0.2.2.2.2.2.2.2.2.1:Int),()),()),[])
                else
                  some ((((a0.1:Int),0,0,0,0,([]:List Int),0,([]:List Int),0,()),()),[]):=by kernel_rfl
@[reducible] def Ut.R:Type:=Xc [.d Un]×Zz
def Ut (n:Nat) (a0:(den Z6)):Option Ut.R:=gc n 60 [.dat Z6 a0 []] [.d Un]
theorem Ut.eq (n:Nat) (a0:(den Z6)):Ut (n+1) a0 =
  some ((((a0.1:Int),(a0.2.1:Int),(a0.2.2.1:Int),(a0.2.2.2.1:Int),(a0.2.2.2.2.1:Int),(a0.2.2.2.2.2.2.1:Int),(a0.2.2.2.2.2.2.2.2.1:Int),()),()),[]):=by kernel_rfl
def Zo.res:List Sh:=[.d .bool]
@[reducible] def Zo.R:Type:=Xc [.d .bool]×Zz
def Zo (n:Nat) (a0:(List Int)) (a1:(List Int)):Option Zo.R:=gc n 61 [.dat (.sl (.int .i64)) a0 [],.dat (.sl (.int .i64)) a1 []] [.d .bool]
def Zo.l0 (n m0:Nat) (t0:(List Int)) (t1:(List Int)) (t4:Bool) (t12:Int) (t13:Int):Option Zo.R :=
  lpN n AL9 m0 (Ja 0 (Qh (run (gc n) n) ARx (Xa Zo.fn Zo.res) (Xa Zo.fn Zo.res)) (Xa Zo.fn Zo.res))
    [(0,.dat (.sl (.int .i64)) t0 []),(1,.dat (.sl (.int .i64)) t1 []),(4,.dat .bool t4 []),(12,.dat (.int .i64) t12 []),(13,.dat (.int .i64) t13 [])]
    []
theorem Zo.l0_eq (n m0:Nat) (t0:(List Int)) (t1:(List Int)) (t4:Bool) (t12:Int) (t13:Int):Zo.l0 n (m0+1) t0 t1 t4 t12 t13 =
  bif (decide (t13<t12)) then
    if (0:Int)≤t13∧t13<(((List.length t0):Nat):Int) then
    if (0:Int)≤t13∧t13<(((List.length t1):Nat):Int) then
    bif (!(decide ((List.getD t0 (Int.toNat t13) (0:Int):Int)=(List.getD t1 (Int.toNat t13) (0:Int):Int)))) then
      some ((false,()),[])
    else
      Zo.l0 n m0 t0 t1 t4 t12 (IntKind.wrap .i64 (t13+1))
    else none
    else none
  else
    some ((true,()),[]):=by kernel_rfl
theorem Zo.eq (n:Nat) (a0:(List Int)) (a1:(List Int)):Zo (n+1) a0 a1 =
  bif (!(decide (((List.length a0):Int)=((List.length a1):Int)))) then
    some ((false,()),[])
  else
    Zo.l0 n n a0 a1 false ((List.length a0):Int) 0:=by kernel_rfl
@[reducible] def Hf.R:Type:=Xc [.d .bool]×Zz
def Hf (n:Nat) (a0:(den Z6)) (a1:(den Z6)):Option Hf.R:=gc n 32 [.dat Z6 a0 [],.dat Z6 a1 []] [.d .bool]
theorem Hf.eq (n:Nat) (a0:(den Z6)) (a1:(den Z6)):Hf (n+1) a0 a1 =
  Option.bind (Ut n a0) fun r1 =>
  Option.bind (Ut n a1) fun r2 =>
  bif (eqT Un r1.1.1 r2.1.1) then
    Option.bind (Zo n (a0.2.2.2.2.2.1:(List Int)) (a1.2.2.2.2.2.1:(List Int))) fun r3 =>
    bif (r3.1.1:Bool) then
      Option.bind (Zo n (a0.2.2.2.2.2.2.2.1:(List Int)) (a1.2.2.2.2.2.2.2.1:(List Int))) fun r4 =>
      some (((r4.1.1:Bool),()),[])
    else
      some ((false,()),[])
  else
    some ((false,()),[]):=by kernel_rfl
@[reducible] def Gm.R:Type:=Xc [.d .str]×Zz
def Gm (n:Nat) (a0:Int):Option Gm.R:=gc n 34 [.dat (.int .i64) a0 []] [.d .str]
theorem Gm.eq (n:Nat) (a0:Int):Gm (n+1) a0 =
  Option.bind (Kx n (Ix:(List ByteArray)) a0) fun r1 =>
  some (((r1.1.1:ByteArray),()),[]):=by kernel_rfl
@[reducible] def Ki.R:Type:=Xc [.d .bool]×Zz
def Ki (n:Nat) (a0:Int):Option Ki.R:=gc n 35 [.dat (.int .i64) a0 []] [.d .bool]
theorem Ki.eq (n:Nat) (a0:Int):Ki (n+1) a0 =
  bif (decide (0≤a0)) then
    some (((decide (a0≤1073741824)),()),[])
  else
    some ((false,()),[]):=by kernel_rfl
@[reducible] def Ka.R:Type:=Xc [.d .bool]×Zz
def Ka (n:Nat) (a0:Int):Option Ka.R:=gc n 63 [.dat (.int .i64) a0 []] [.d .bool]
theorem Ka.eq (n:Nat) (a0:Int):Ka (n+1) a0 =
  Option.bind (Ki n a0) fun r1 =>
  some (((!(r1.1.1:Bool)),()),[]):=by kernel_rfl
def Zv.res:List Sh:=[.d (.int .i64)]
@[reducible] def Zv.R:Type:=Xc [.d (.int .i64)]×Zz
def Zv (n:Nat) (a0:(List Int)):Option Zv.R:=gc n 103 [.dat (.sl (.int .i64)) a0 [],.clo 63 []] [.d (.int .i64)]
def Zv.l0 (n m0:Nat) (t0:(List Int)) (t4:Int) (t7:Int) (t8:Int):Option Zv.R :=
  lpN n AB6 m0 (Ja 0 (Qh (run (gc n) n) AB5 (Xa Zk.fn Zv.res) (Xa Zk.fn Zv.res)) (Xa Zk.fn Zv.res))
    [(0,.dat (.sl (.int .i64)) t0 []),(1,.clo 63 []),(4,.dat (.int .i64) t4 []),(7,.dat (.int .i64) t7 []),(8,.dat (.int .i64) t8 [])]
    []
theorem Zv.l0_eq (n m0:Nat) (t0:(List Int)) (t4:Int) (t7:Int) (t8:Int):Zv.l0 n (m0+1) t0 t4 t7 t8 =
  bif (decide (t8<t7)) then
    if (0:Int)≤t8∧t8<(((List.length t0):Nat):Int) then
    Option.bind (Ka n (List.getD t0 (Int.toNat t8) (0:Int):Int)) fun r1 =>
    bif (r1.1.1:Bool) then
      some ((t8,()),[])
    else
      Zv.l0 n m0 t0 t4 t7 (IntKind.wrap .i64 (t8+1))
    else none
  else
    some (((-1),()),[]):=by kernel_rfl
theorem Zv.eq (n:Nat) (a0:(List Int)):Zv (n+1) a0 =
  Zv.l0 n n a0 0 ((List.length a0):Int) 0:=by kernel_rfl
@[reducible] def X0.R:Type:=Xc [.d .bool]×Zz
def X0 (n:Nat) (a0:(List Int)):Option X0.R:=gc n 62 [.dat (.sl (.int .i64)) a0 [],.clo 63 []] [.d .bool]
theorem X0.eq (n:Nat) (a0:(List Int)):X0 (n+1) a0 =
  Option.bind (Zv n a0) fun r1 =>
  some (((decide (0≤(r1.1.1:Int))),()),[]):=by kernel_rfl
@[reducible] def H4.R:Type:=Xc [.d .bool]×Zz
def H4 (n:Nat) (a0:(List Int)):Option H4.R:=gc n 36 [.dat (.sl (.int .i64)) a0 []] [.d .bool]
theorem H4.eq (n:Nat) (a0:(List Int)):H4 (n+1) a0 =
  bif (decide (((List.length a0):Int)≤16)) then
    Option.bind (X0 n a0) fun r1 =>
    some (((!(r1.1.1:Bool)),()),[])
  else
    some ((false,()),[]):=by kernel_rfl
@[reducible] def K6.R:Type:=Xc [.d .bool]×Zz
def K6 (n:Nat) (a0:(den Z6)):Option K6.R:=gc n 26 [.dat Z6 a0 []] [.d .bool]
theorem K6.eq (n:Nat) (a0:(den Z6)):K6 (n+1) a0 =
  Option.bind (He n (a0.1:Int)) fun r1 =>
  bif (!(eqT .str (r1.1.1:ByteArray) (⟨#[]⟩:ByteArray))) then
    Option.bind (Qg n a0) fun r2 =>
    Option.bind (Hf n a0 r2.1.1) fun r3 =>
    bif (r3.1.1:Bool) then
      Option.bind (Gm n (a0.2.1:Int)) fun r4 =>
      bif (!(eqT .str (r4.1.1:ByteArray) (⟨#[]⟩:ByteArray))) then
        Option.bind (Ki n (a0.2.2.1:Int)) fun r5 =>
        bif (r5.1.1:Bool) then
          Option.bind (Ki n (a0.2.2.2.1:Int)) fun r6 =>
          bif (r6.1.1:Bool) then
            Option.bind (Ki n (a0.2.2.2.2.1:Int)) fun r7 =>
            bif (r7.1.1:Bool) then
              Option.bind (Ki n (a0.2.2.2.2.2.2.1:Int)) fun r8 =>
              bif (r8.1.1:Bool) then
                Option.bind (Ki n (a0.2.2.2.2.2.2.2.2.1:Int)) fun r9 =>
                bif (r9.1.1:Bool) then
                  Option.bind (H4 n (a0.2.2.2.2.2.1:(List Int))) fun r10 =>
                  bif (r10.1.1:Bool) then
                    Option.bind (H4 n (a0.2.2.2.2.2.2.2.1:(List Int))) fun r11 =>
                    some (((r11.1.1:Bool),()),[])
                  else
                    some ((false,()),[])
                else
                  some ((false,()),[])
              else
                some ((false,()),[])
            else
              some ((false,()),[])
          else
            some ((false,()),[])
        else
          some ((false,()),[])
      else
        some ((false,()),[])
    else
      some ((false,()),[])
  else
    some ((false,()),[]):=by kernel_rfl
@[reducible] def Tl.R:Type:=Xc [.fmap [1,2,3,4,5,6,7,8,9,10] [.clo 64 [.refv (.clo 38 [])],.clo 64 [.refv (.clo 40 [])],.clo 69 [.refv (.clo 43 [])],.clo 69 [.refv (.clo 45 [])],.clo 69 [.refv (.clo 47 [])],.clo 69 [.refv (.clo 49 [])],.clo 69 [.refv (.clo 51 [])],.clo 69 [.refv (.clo 53 [])],.clo 100 [.refv (.clo 55 [])],.clo 100 [.refv (.clo 56 [])]]]×Zz
def Tl (n:Nat):Option Tl.R:=gc n 27 [] [.fmap [1,2,3,4,5,6,7,8,9,10] [.clo 64 [.refv (.clo 38 [])],.clo 64 [.refv (.clo 40 [])],.clo 69 [.refv (.clo 43 [])],.clo 69 [.refv (.clo 45 [])],.clo 69 [.refv (.clo 47 [])],.clo 69 [.refv (.clo 49 [])],.clo 69 [.refv (.clo 51 [])],.clo 69 [.refv (.clo 53 [])],.clo 100 [.refv (.clo 55 [])],.clo 100 [.refv (.clo 56 [])]]]
@[reducible] def Gb.R:Type:=Xc [.clo 112 [.ref Za,.ref (.int .i64)]]×Zz
def Gb (n:Nat) (a0:(den Za)) (a1:Int):Option Gb.R:=gc n 107 [.dat Za a0 [],.dat (.int .i64) a1 []] [.clo 112 [.ref Za,.ref (.int .i64)]]
theorem Gb.eq (n:Nat) (a0:(den Za)) (a1:Int):Gb (n+1) a0 a1 =
  some (((a0,a1,()),()),[]):=by kernel_rfl
@[reducible] def Qi.R:Type:=Xc [.d (.sl Zb)]×Zz
def Qi (n:Nat) (a0:(den Za)) (a1:Int):Option Qi.R:=gc n 108 [.clo 112 [.ref Za a0,.ref (.int .i64) a1]] [.d (.sl Zb)]
@[reducible] def Vv.R:Type:=Xc [.d Zb]×Zz
def Vv (n:Nat) (a0:(den Za)) (a1:Int):Option Vv.R:=gc n 106 [.dat Za a0 [],.dat (.int .i64) a1 []] [.d Zb]
theorem Vv.eq (n:Nat) (a0:(den Za)) (a1:Int):Vv (n+1) a0 a1 =
  Option.bind (Gb n a0 a1) fun r1 =>
  Option.bind (Qi n r1.1.1.1 (r1.1.1.2.1:Int)) fun r2 =>
  if (0:Int)≤(IntKind.wrap .i64 (((List.length (r2.1.1:(List (den Zb)))):Int) - 1))∧(IntKind.wrap .i64 (((List.length (r2.1.1:(List (den Zb)))):Int) - 1))<(((List.length (r2.1.1:(List (den Zb)))):Nat):Int) then
  some (((List.getD (r2.1.1:(List (den Zb))) (Int.toNat (IntKind.wrap .i64 (((List.length (r2.1.1:(List (den Zb)))):Int) - 1))) (dft Zb):(den Zb)),()),[])
  else none:=by kernel_rfl
def Xw.res:List Sh:=[.d (.sl Kq)]
@[reducible] def Xw.R:Type:=Xc [.d (.sl Kq)]×Zz
def Xw (n:Nat) (a0:(den Za)) (a1:(den Zb)):Option Xw.R:=gc n 102 [.dat Za a0 [],.dat Zb a1 []] [.d (.sl Kq)]
def Xw.l0 (n m0:Nat) (t0:(den Za)) (t1:(den Zb)) (t4:(List (den Kq))) (t9:(List (den Zb))) (t10:Int) (t11:Int) (o0:(den Za)) (o1:(den Zb)) (o5:(List (den Kq))):Option Xw.R :=
  lpN n ALl m0 (Ja 0 (Qh (run (gc n) n) ALk (Xa Xw.fn Xw.res) (Xa Xw.fn Xw.res)) (Xa Xw.fn Xw.res))
    [(0,.dat Za t0 []),(1,.dat Zb t1 []),(2,.ptr 0 []),(3,.ptr 1 []),(4,.dat (.sl Kq) t4 []),(5,.dat (.sl Kq) ([]:List (den Kq)) [([],some 5)]),(9,.dat (.sl Zb) t9 []),(10,.dat (.int .i64) t10 []),(11,.dat (.int .i64) t11 [])]
    [.box Za o0 [],.box Zb o1 [],.none,.none,.none,.arr Kq o5]
theorem Xw.l0_eq (n m0:Nat) (t0:(den Za)) (t1:(den Zb)) (t4:(List (den Kq))) (t9:(List (den Zb))) (t10:Int) (t11:Int) (o0:(den Za)) (o1:(den Zb)) (o5:(List (den Kq))):Xw.l0 n (m0+1) t0 t1 t4 t9 t10 t11 o0 o1 o5 =
  bif (decide (t11<t10)) then
    if (0:Int)≤t11∧t11<(((List.length t9):Nat):Int) then
    Option.bind (Vv n o0 t11) fun r1 =>
    bif (eqT Zb r1.1.1 o1) then
      if (List.length o5)+1≤1048576 then
      Xw.l0 n m0 t0 t1 t4 t9 t10 (IntKind.wrap .i64 (t11+1)) o0 o1 (o5 ++ ([(t11,(List.getD t9 (Int.toNat t11) (dft Zb):(den Zb)),())]:List (den Kq)))
      else none
    else
      Xw.l0 n m0 t0 t1 t4 t9 t10 (IntKind.wrap .i64 (t11+1)) o0 o1 o5
    else none
  else
    some ((o5,()),[(0,[])]):=by kernel_rfl
theorem Xw.eq (n:Nat) (a0:(den Za)) (a1:(den Zb)):Xw (n+1) a0 a1 =
  Xw.l0 n n a0 a1 ([]:List (den Kq)) (a0.2.2.2.1:(List (den Zb))) ((List.length (a0.2.2.2.1:(List (den Zb)))):Int) 0 a0 a1 ([]:List (den Kq)):=by kernel_rfl
@[reducible] def Ke.R:Type:=Xc [.d Xg]×Zz
def Ke (n:Nat) (a0:(den Za)) (a1:Int):Option Ke.R:=gc n 56 [.dat Za a0 [],.dat (.int .i64) a1 []] [.d Xg]
theorem Ke.eq (n:Nat) (a0:(den Za)) (a1:Int):Ke (n+1) a0 a1 =
  if (0:Int)≤a1∧a1<(((List.length (a0.2.2.1:(List Int))):Nat):Int) then
  Option.bind (Xw n a0 (1,a1,())) fun r1 =>
  some (((0,10,0,([]:List Int),(r1.1.1:(List (den Kq))),(List.getD (a0.2.2.1:(List Int)) (Int.toNat a1) (0:Int):Int),()),()),[])
  else none:=by kernel_rfl
@[reducible] def Y4.R:Type:=Xc [.d Za,.d Xg]×Zz
def Y4 (n:Nat) (a0:(den Za)) (a1:Int) (a2:(den Z6)):Option Y4.R:=gc n 100 [.dat Za a0 [],.dat (.int .i64) a1 [],.dat Z6 a2 [],.refv (.clo 56 [])] [.d Za,.d Xg]
theorem Y4.eq (n:Nat) (a0:(den Za)) (a1:Int) (a2:(den Z6)):Y4 (n+1) a0 a1 a2 =
  Option.bind (Ke n a0 a1) fun r1 =>
  some ((a0,r1.1.1,()),[]):=by kernel_rfl
def Xd.res:List Sh:=[.d (.sl (.int .i64))]
@[reducible] def Xd.R:Type:=Xc [.d (.sl (.int .i64))]×Zz
def Xd (n:Nat) (a0:(den Za)) (a1:Int):Option Xd.R:=gc n 101 [.dat Za a0 [],.dat (.int .i64) a1 []] [.d (.sl (.int .i64))]
def Xd.l0 (n m0:Nat) (t0:(den Za)) (t1:Int) (t4:(List Int)) (t9:Int) (t10:Int) (o0:(den Za)) (o3:(List Int)):Option Xd.R :=
  lpN n ALj m0 (Ja 0 (Qh (run (gc n) n) ALi (Xa Xd.fn Xd.res) (Xa Xd.fn Xd.res)) (Xa Xd.fn Xd.res))
    [(0,.dat Za t0 []),(1,.dat (.int .i64) t1 []),(2,.ptr 0 []),(4,.dat (.sl (.int .i64)) t4 []),(5,.dat (.sl (.int .i64)) ([]:List Int) [([],some 3)]),(9,.dat (.int .i64) t9 []),(10,.dat (.int .i64) t10 [])]
    [.box Za o0 [],.none,.none,.arr (.int .i64) o3]
theorem Xd.l0_eq (n m0:Nat) (t0:(den Za)) (t1:Int) (t4:(List Int)) (t9:Int) (t10:Int) (o0:(den Za)) (o3:(List Int)):Xd.l0 n (m0+1) t0 t1 t4 t9 t10 o0 o3 =
  bif (decide (t10<t9)) then
    if (0:Int)≤t10∧t10<(((List.length (o0.2.1:(List Int))):Nat):Int) then
    bif (decide ((List.getD (o0.2.1:(List Int)) (Int.toNat t10) (0:Int):Int)=t1)) then
      if (List.length o3)+1≤1048576 then
      Xd.l0 n m0 t0 t1 t4 t9 (IntKind.wrap .i64 (t10+1)) o0 (o3 ++ ([t10]:List Int))
      else none
    else
      Xd.l0 n m0 t0 t1 t4 t9 (IntKind.wrap .i64 (t10+1)) o0 o3
    else none
  else
    some ((o3,()),[(0,[])]):=by kernel_rfl
theorem Xd.eq (n:Nat) (a0:(den Za)) (a1:Int):Xd (n+1) a0 a1 =
  Xd.l0 n n a0 a1 ([]:List Int) ((List.length (a0.2.1:(List Int))):Int) 0 a0 ([]:List Int):=by kernel_rfl
@[reducible] def Vl.R:Type:=Xc [.d Xg]×Zz
def Vl (n:Nat) (a0:(den Za)) (a1:Int):Option Vl.R:=gc n 55 [.dat Za a0 [],.dat (.int .i64) a1 []] [.d Xg]
theorem Vl.eq (n:Nat) (a0:(den Za)) (a1:Int):Vl (n+1) a0 a1 =
  if (0:Int)≤a1∧a1<(((List.length (a0.2.1:(List Int))):Nat):Int) then
  Option.bind (Xd n a0 (List.getD (a0.2.1:(List Int)) (Int.toNat a1) (0:Int):Int)) fun r1 =>
  Option.bind (Xw n a0 (0,(List.getD (a0.2.1:(List Int)) (Int.toNat a1) (0:Int):Int),())) fun r2 =>
  some (((0,9,(List.getD (a0.2.1:(List Int)) (Int.toNat a1) (0:Int):Int),(r1.1.1:(List Int)),(r2.1.1:(List (den Kq))),0,()),()),[])
  else none:=by kernel_rfl
@[reducible] def Jy.R:Type:=Xc [.d Za,.d Xg]×Zz
def Jy (n:Nat) (a0:(den Za)) (a1:Int) (a2:(den Z6)):Option Jy.R:=gc n 100 [.dat Za a0 [],.dat (.int .i64) a1 [],.dat Z6 a2 [],.refv (.clo 55 [])] [.d Za,.d Xg]
theorem Jy.eq (n:Nat) (a0:(den Za)) (a1:Int) (a2:(den Z6)):Jy (n+1) a0 a1 a2 =
  Option.bind (Vl n a0 a1) fun r1 =>
  some ((a0,r1.1.1,()),[]):=by kernel_rfl
@[reducible] def Vp.R:Type:=Xc [.d (.sl (.int .i64))]×Zz
def Vp (n:Nat) (a0:(List (List Int))):Option Vp.R:=gc n 94 [.dat (.sl (.sl (.int .i64))) a0 []] [.d (.sl (.int .i64))]
@[reducible] def Y9.R:Type:=Xc [.d .bool]×Zz
def Y9 (n:Nat) (a0:(den Za)) (a1:Int):Option Y9.R:=gc n 92 [.dat Za a0 [],.dat (.int .i64) a1 []] [.d .bool]
theorem Y9.eq (n:Nat) (a0:(den Za)) (a1:Int):Y9 (n+1) a0 a1 =
  bif (decide (0≤a1)) then
    some (((decide (a1<((List.length (a0.2.1:(List Int))):Int))),()),[])
  else
    some ((false,()),[]):=by kernel_rfl
@[reducible] def Ky.R:Type:=Xc [.d .bool]×Zz
def Ky (n:Nat) (a0:(den Za)) (a1:Int):Option Ky.R:=gc n 91 [.dat Za a0 [],.dat (.int .i64) a1 []] [.d .bool]
theorem Ky.eq (n:Nat) (a0:(den Za)) (a1:Int):Ky (n+1) a0 a1 =
  bif (decide (0≤a1)) then
    some (((decide (a1<((List.length (a0.2.2.2.1:(List (den Zb)))):Int))),()),[])
  else
    some ((false,()),[]):=by kernel_rfl
@[reducible] def Y5.R:Type:=Xc [.d .bool]×Zz
def Y5 (n:Nat) (a0:Int) (a1:(den Za)):Option Y5.R:=gc n 97 [.dat (.int .i64) a0 [],.ref Za a1] [.d .bool]
theorem Y5.eq (n:Nat) (a0:Int) (a1:(den Za)):Y5 (n+1) a0 a1 =
  Option.bind (Ky n a1 a0) fun r1 =>
  some (((!(r1.1.1:Bool)),()),[]):=by kernel_rfl
def Zk.res:List Sh:=[.d (.int .i64)]
@[reducible] def Zk.R:Type:=Xc [.d (.int .i64)]×Zz
def Zk (n:Nat) (a0:(List Int)) (a1:(den Za)):Option Zk.R:=gc n 103 [.dat (.sl (.int .i64)) a0 [],.clo 97 [.ref Za a1]] [.d (.int .i64)]
def Zk.l0 (n m0:Nat) (t0:(List Int)) (t1:(den Za)) (t4:Int) (t7:Int) (t8:Int):Option Zk.R :=
  lpN n AB6 m0 (Ja 0 (Qh (run (gc n) n) AB5 (Xa Zk.fn Zk.res) (Xa Zk.fn Zk.res)) (Xa Zk.fn Zk.res))
    [(0,.dat (.sl (.int .i64)) t0 []),(1,.clo 97 [.ref Za t1]),(4,.dat (.int .i64) t4 []),(7,.dat (.int .i64) t7 []),(8,.dat (.int .i64) t8 [])]
    []
theorem Zk.l0_eq (n m0:Nat) (t0:(List Int)) (t1:(den Za)) (t4:Int) (t7:Int) (t8:Int):Zk.l0 n (m0+1) t0 t1 t4 t7 t8 =
  bif (decide (t8<t7)) then
    if (0:Int)≤t8∧t8<(((List.length t0):Nat):Int) then
    Option.bind (Y5 n (List.getD t0 (Int.toNat t8) (0:Int):Int) t1) fun r1 =>
    bif (r1.1.1:Bool) then
      some ((t8,()),[])
    else
      Zk.l0 n m0 t0 t1 t4 t7 (IntKind.wrap .i64 (t8+1))
    else none
  else
    some (((-1),()),[]):=by kernel_rfl
theorem Zk.eq (n:Nat) (a0:(List Int)) (a1:(den Za)):Zk (n+1) a0 a1 =
  Zk.l0 n n a0 a1 0 ((List.length a0):Int) 0:=by kernel_rfl
@[reducible] def Xb.R:Type:=Xc [.d .bool]×Zz
def Xb (n:Nat) (a0:(List Int)) (a1:(den Za)):Option Xb.R:=gc n 62 [.dat (.sl (.int .i64)) a0 [],.clo 97 [.ref Za a1]] [.d .bool]
theorem Xb.eq (n:Nat) (a0:(List Int)) (a1:(den Za)):Xb (n+1) a0 a1 =
  Option.bind (Zk n a0 a1) fun r1 =>
  some (((decide (0≤(r1.1.1:Int))),()),[]):=by kernel_rfl
def Xt.res:List Sh:=[.d .bool]
@[reducible] def Xt.R:Type:=Xc [.d .bool]×Zz
def Xt (n:Nat) (a0:(List Int)):Option Xt.R:=gc n 98 [.dat (.sl (.int .i64)) a0 []] [.d .bool]
def Xt.l0 (n m0:Nat) (t0:(List Int)) (t2:Bool) (t7:(List Int)) (t8:Int) (t9:Int) (o0:(List (Int×Bool))):Option Xt.R :=
  lpN n AR6 m0 (Ja 0 (Qh (run (gc n) n) AR5 (Xa Xt.fn Xt.res) (Xa Xt.fn Xt.res)) (Xa Xt.fn Xt.res))
    [(0,.dat (.sl (.int .i64)) t0 []),(2,.dat .bool t2 []),(3,.ptr 0 []),(7,.dat (.sl (.int .i64)) t7 []),(8,.dat (.int .i64) t8 []),(9,.dat (.int .i64) t9 [])]
    [.map (.int .i64) .bool o0]
theorem Xt.l0_eq (n m0:Nat) (t0:(List Int)) (t2:Bool) (t7:(List Int)) (t8:Int) (t9:Int) (o0:(List (Int×Bool))):Xt.l0 n (m0+1) t0 t2 t7 t8 t9 o0 =
  bif (decide (t9<t8)) then
    if (0:Int)≤t9∧t9<(((List.length t7):Nat):Int) then
    bif ((Option.getD (Yo (.int .i64) .bool (List.getD t7 (Int.toNat t9) (0:Int):Int) o0) false):Bool) then
      some ((true,()),[])
    else
      Xt.l0 n m0 t0 t2 t7 t8 (IntKind.wrap .i64 (t9+1)) (Gu (.int .i64) .bool (List.getD t7 (Int.toNat t9) (0:Int):Int) true o0)
    else none
  else
    some ((false,()),[]):=by kernel_rfl
theorem Xt.eq (n:Nat) (a0:(List Int)):Xt (n+1) a0 =
  Xt.l0 n n a0 false a0 ((List.length a0):Int) 0 []:=by kernel_rfl
@[reducible] def Ys.R:Type:=Xc [.d Zb]×Zz
def Ys (n:Nat) (a0:Int):Option Ys.R:=gc n 93 [.dat (.int .i64) a0 []] [.d Zb]
theorem Ys.eq (n:Nat) (a0:Int):Ys (n+1) a0 =
  some (((1,a0,()),()),[]):=by kernel_rfl
@[reducible] def Ym.R:Type:=Xc [.d .bool]×Zz
def Ym (n:Nat) (a0:Int) (a1:(den Za)) (a2:Int):Option Ym.R:=gc n 96 [.dat (.int .i64) a0 [],.ref Za a1,.ref (.int .i64) a2] [.d .bool]
theorem Ym.eq (n:Nat) (a0:Int) (a1:(den Za)) (a2:Int):Ym (n+1) a0 a1 a2 =
  if (0:Int)≤a0∧a0<(((List.length (a1.2.2.2.1:(List (den Zb)))):Nat):Int) then
  Option.bind (Ys n a2) fun r1 =>
  some (((!(eqT Zb (List.getD (a1.2.2.2.1:(List (den Zb))) (Int.toNat a0) (dft Zb):(den Zb)) r1.1.1)),()),[])
  else none:=by kernel_rfl
def Zu.res:List Sh:=[.d (.int .i64)]
@[reducible] def Zu.R:Type:=Xc [.d (.int .i64)]×Zz
def Zu (n:Nat) (a0:(List Int)) (a1:(den Za)) (a2:Int):Option Zu.R:=gc n 103 [.dat (.sl (.int .i64)) a0 [],.clo 96 [.ref Za a1,.ref (.int .i64) a2]] [.d (.int .i64)]
def Zu.l0 (n m0:Nat) (t0:(List Int)) (t1:(den Za)) (t1':Int) (t4:Int) (t7:Int) (t8:Int):Option Zu.R :=
  lpN n AB6 m0 (Ja 0 (Qh (run (gc n) n) AB5 (Xa Zk.fn Zu.res) (Xa Zk.fn Zu.res)) (Xa Zk.fn Zu.res))
    [(0,.dat (.sl (.int .i64)) t0 []),(1,.clo 96 [.ref Za t1,.ref (.int .i64) t1']),(4,.dat (.int .i64) t4 []),(7,.dat (.int .i64) t7 []),(8,.dat (.int .i64) t8 [])]
    []
theorem Zu.l0_eq (n m0:Nat) (t0:(List Int)) (t1:(den Za)) (t1':Int) (t4:Int) (t7:Int) (t8:Int):Zu.l0 n (m0+1) t0 t1 t1' t4 t7 t8 =
  bif (decide (t8<t7)) then
    if (0:Int)≤t8∧t8<(((List.length t0):Nat):Int) then
    Option.bind (Ym n (List.getD t0 (Int.toNat t8) (0:Int):Int) t1 t1') fun r1 =>
    bif (r1.1.1:Bool) then
      some ((t8,()),[])
    else
      Zu.l0 n m0 t0 t1 t1' t4 t7 (IntKind.wrap .i64 (t8+1))
    else none
  else
    some (((-1),()),[]):=by kernel_rfl
theorem Zu.eq (n:Nat) (a0:(List Int)) (a1:(den Za)) (a2:Int):Zu (n+1) a0 a1 a2 =
  Zu.l0 n n a0 a1 a2 0 ((List.length a0):Int) 0:=by kernel_rfl
@[reducible] def Xz.R:Type:=Xc [.d .bool]×Zz
def Xz (n:Nat) (a0:(List Int)) (a1:(den Za)) (a2:Int):Option Xz.R:=gc n 62 [.dat (.sl (.int .i64)) a0 [],.clo 96 [.ref Za a1,.ref (.int .i64) a2]] [.d .bool]
theorem Xz.eq (n:Nat) (a0:(List Int)) (a1:(den Za)) (a2:Int):Xz (n+1) a0 a1 a2 =
  Option.bind (Zu n a0 a1 a2) fun r1 =>
  some (((decide (0≤(r1.1.1:Int))),()),[]):=by kernel_rfl
@[reducible] def Yw.R:Type:=Xc [.d .bool]×Zz
def Yw (n:Nat) (a0:(List Int)) (a1:Int) (a2:(den Za)):Option Yw.R:=gc n 95 [.dat (.sl (.int .i64)) a0 [],.dat (.int .i64) a1 [],.ref Za a2] [.d .bool]
theorem Yw.eq (n:Nat) (a0:(List Int)) (a1:Int) (a2:(den Za)):Yw (n+1) a0 a1 a2 =
  Option.bind (Xz n a0 a2 a1) fun r1 =>
  some (((r1.1.1:Bool),()),[]):=by kernel_rfl
def Yv.res:List Sh:=[.d (.sl (.int .i64))]
@[reducible] def Yv.R:Type:=Xc [.d (.sl (.int .i64))]×Zz
def Yv (n:Nat) (a0:(den Za)) (a1:(den Zb)):Option Yv.R:=gc n 109 [.dat Za a0 [],.dat Zb a1 []] [.d (.sl (.int .i64))]
def Yv.l0 (n m0:Nat) (t0:(den Za)) (t1:(den Zb)) (t4:(List Int)) (t9:(List (den Zb))) (t10:Int) (t11:Int) (o0:(den Za)) (o1:(den Zb)) (o5:(List Int)):Option Yv.R :=
  lpN n ALn m0 (Ja 0 (Qh (run (gc n) n) ALm (Xa Yv.fn Yv.res) (Xa Yv.fn Yv.res)) (Xa Yv.fn Yv.res))
    [(0,.dat Za t0 []),(1,.dat Zb t1 []),(2,.ptr 0 []),(3,.ptr 1 []),(4,.dat (.sl (.int .i64)) t4 []),(5,.dat (.sl (.int .i64)) ([]:List Int) [([],some 5)]),(9,.dat (.sl Zb) t9 []),(10,.dat (.int .i64) t10 []),(11,.dat (.int .i64) t11 [])]
    [.box Za o0 [],.box Zb o1 [],.none,.none,.none,.arr (.int .i64) o5]
theorem Yv.l0_eq (n m0:Nat) (t0:(den Za)) (t1:(den Zb)) (t4:(List Int)) (t9:(List (den Zb))) (t10:Int) (t11:Int) (o0:(den Za)) (o1:(den Zb)) (o5:(List Int)):Yv.l0 n (m0+1) t0 t1 t4 t9 t10 t11 o0 o1 o5 =
  bif (decide (t11<t10)) then
    if (0:Int)≤t11∧t11<(((List.length t9):Nat):Int) then
    bif (eqT Zb o1 (List.getD t9 (Int.toNat t11) (dft Zb):(den Zb))) then
      if (List.length o5)+1≤1048576 then
      Yv.l0 n m0 t0 t1 t4 t9 t10 (IntKind.wrap .i64 (t11+1)) o0 o1 (o5 ++ ([t11]:List Int))
      else none
    else
      Yv.l0 n m0 t0 t1 t4 t9 t10 (IntKind.wrap .i64 (t11+1)) o0 o1 o5
    else none
  else
    some ((o5,()),[(0,[])]):=by kernel_rfl
theorem Yv.eq (n:Nat) (a0:(den Za)) (a1:(den Zb)):Yv (n+1) a0 a1 =
  Yv.l0 n n a0 a1 ([]:List Int) (a0.2.2.2.1:(List (den Zb))) ((List.length (a0.2.2.2.1:(List (den Zb)))):Int) 0 a0 a1 ([]:List Int):=by kernel_rfl
@[reducible] def Q8.R:Type:=Xc [.d (.int .i64)]×Zz
def Q8 (n:Nat) (a0:(den Za)) (a1:(den Zb)):Option Q8.R:=gc n 84 [.dat Za a0 [],.dat Zb a1 []] [.d (.int .i64)]
theorem Q8.eq (n:Nat) (a0:(den Za)) (a1:(den Zb)):Q8 (n+1) a0 a1 =
  if (0:Int)≤(a1.1:Int)∧(a1.1:Int)<((3:Nat):Int) then
  Option.bind (Yv n a0 a1) fun r1 =>
  some (((IntKind.wrap .i64 ((List.getD ([(a0.1.2.2.2.2.2.1:Int),(a0.1.2.2.2.2.2.2.1:Int),(a0.1.2.2.2.2.2.2.2.1:Int)]:List Int) (Int.toNat (a1.1:Int)) (0:Int):Int) - ((List.length (r1.1.1:(List Int))):Int))),()),[])
  else none:=by kernel_rfl
@[reducible] def H5.R:Type:=Xc [.d .bool]×Zz
def H5 (n:Nat) (a0:Int):Option H5.R:=gc n 111 [.dat (.int .i64) a0 []] [.d .bool]
theorem H5.eq (n:Nat) (a0:Int):H5 (n+1) a0 =
  bif (decide (0≤a0)) then
    some (((decide (a0≤1073741824)),()),[])
  else
    some ((false,()),[]):=by kernel_rfl
@[reducible] def Kb.R:Type:=Xc [.d (.int .i64),.d (.int .i64),.d (.int .i64)]×Zz
def Kb (n:Nat) (a0:Int) (a1:Int) (a2:Int) (a3:Int):Option Kb.R:=gc n 99 [.dat (.int .i64) a0 [],.dat (.int .i64) a1 [],.dat (.int .i64) a2 [],.dat (.int .i64) a3 []] [.d (.int .i64),.d (.int .i64),.d (.int .i64)]
theorem Kb.eq (n:Nat) (a0:Int) (a1:Int) (a2:Int) (a3:Int):Kb (n+1) a0 a1 a2 a3 =
  bif (decide (a2<0)) then
    some ((a0,a1,1,()),[])
  else
    bif (decide (a3<0)) then
      some ((a0,a1,1,()),[])
    else
      bif (decide (a0<a2)) then
        some ((a0,a1,10,()),[])
      else
        bif (decide (a1<a3)) then
          some ((a0,a1,10,()),[])
        else
          Option.bind (H5 n (IntKind.wrap .i64 ((IntKind.wrap .i64 (a0 - a2))+a3))) fun r1 =>
          bif (!(r1.1.1:Bool)) then
            some ((a0,a1,11,()),[])
          else
            Option.bind (H5 n (IntKind.wrap .i64 ((IntKind.wrap .i64 (a1 - a3))+a2))) fun r2 =>
            bif (!(r2.1.1:Bool)) then
              some ((a0,a1,11,()),[])
            else
              some (((IntKind.wrap .i64 ((IntKind.wrap .i64 (a0 - a2))+a3)),(IntKind.wrap .i64 ((IntKind.wrap .i64 (a1 - a3))+a2)),0,()),[]):=by kernel_rfl
def Z7.res:List Sh:=[.d Za,.d (.int .i64)]
@[reducible] def Z7.R:Type:=Xc [.d Za,.d (.int .i64)]×Zz
def Z7 (n:Nat) (a0:(den Za)) (a1:Int) (a2:(den Z6)):Option Z7.R:=gc n 53 [.dat Za a0 [],.dat (.int .i64) a1 [],.dat Z6 a2 []] [.d Za,.d (.int .i64)]
def Z7.l0 (n m0:Nat) (t0:(den Za)) (t1:Int) (t2:(den Z6)) (t7:Int) (t8:Int) (t9:(List Int)) (t11:Int) (t12:Int) (t13:Int) (t14:Int) (t135:(List Int)) (t136:Int) (t137:Int) (o0:(den Za)) (o1:(den Z6)) (o2:(den Za)) (o3:(List (List Int))) (o4:(den Za)) (o5:(List Int)) (o6:(List (den Zb))):Option Z7.R :=
  lpN n AL6 m0 (Ja 1 (Qh (run (gc n) n) AL5 (Xa Z7.fn Z7.res) (Xa Z7.fn Z7.res)) (Xa Z7.fn Z7.res))
    [(0,.dat Za t0 []),(1,.dat (.int .i64) t1 []),(2,.dat Z6 t2 []),(3,.ptr 0 []),(5,.ptr 1 []),(6,.ptr 2 []),(7,.dat (.int .i64) t7 []),(8,.dat (.int .i64) t8 []),(9,.dat (.sl (.int .i64)) t9 []),(10,.clo 95 [.ptr 0 []]),(11,.dat (.int .i64) t11 []),(12,.dat (.int .i64) t12 []),(13,.dat (.int .i64) t13 []),(14,.dat (.int .i64) t14 []),(15,.ptr 4 []),(135,.dat (.sl (.int .i64)) t135 []),(136,.dat (.int .i64) t136 []),(137,.dat (.int .i64) t137 [])]
    [.box Za o0 [],.box Z6 o1 [],.box Za o2 [],.frz (.sl (.int .i64)) o3,.box Za o4 [([2],some 5),([3],some 6)],.arr (.int .i64) o5,.arr Zb o6]
def Z7.l1 (n m0:Nat) (t0_1:(den Za)) (t1_1:Int) (t2_1:(den Z6)) (t7_1:Int) (t8_1:Int) (t9_1:(List Int)) (t11_1:Int) (t12_1:Int) (t13_1:Int) (t14_1:Int) (t135_1:(List Int)) (t136_1:Int) (t137_1:Int) (t149_1:(List Int)) (t150_1:Int) (t151_1:Int) (o0_1:(den Za)) (o1_1:(den Z6)) (o2_1:(den Za)) (o3_1:(List (List Int))) (o4_1:(den Za)) (o5_1:(List Int)) (o6_1:(List (den Zb))):Option Z7.R :=
  lpN n AL8 m0 (Ja 3 (Qh (run (gc n) n) AL7 (Xa Z7.fn Z7.res) (Xa Z7.fn Z7.res)) (Xa Z7.fn Z7.res))
    [(0,.dat Za t0_1 []),(1,.dat (.int .i64) t1_1 []),(2,.dat Z6 t2_1 []),(3,.ptr 0 []),(5,.ptr 1 []),(6,.ptr 2 []),(7,.dat (.int .i64) t7_1 []),(8,.dat (.int .i64) t8_1 []),(9,.dat (.sl (.int .i64)) t9_1 []),(10,.clo 95 [.ptr 0 []]),(11,.dat (.int .i64) t11_1 []),(12,.dat (.int .i64) t12_1 []),(13,.dat (.int .i64) t13_1 []),(14,.dat (.int .i64) t14_1 []),(15,.ptr 4 []),(135,.dat (.sl (.int .i64)) t135_1 []),(136,.dat (.int .i64) t136_1 []),(137,.dat (.int .i64) t137_1 []),(149,.dat (.sl (.int .i64)) t149_1 []),(150,.dat (.int .i64) t150_1 []),(151,.dat (.int .i64) t151_1 [])]
    [.box Za o0_1 [],.box Z6 o1_1 [],.box Za o2_1 [],.frz (.sl (.int .i64)) o3_1,.box Za o4_1 [([2],some 5),([3],some 6)],.arr (.int .i64) o5_1,.arr Zb o6_1]
theorem Z7.l0_eq (n m0:Nat) (t0:(den Za)) (t1:Int) (t2:(den Z6)) (t7:Int) (t8:Int) (t9:(List Int)) (t11:Int) (t12:Int) (t13:Int) (t14:Int) (t135:(List Int)) (t136:Int) (t137:Int) (o0:(den Za)) (o1:(den Z6)) (o2:(den Za)) (o3:(List (List Int))) (o4:(den Za)) (o5:(List Int)) (o6:(List (den Zb))):Z7.l0 n (m0+1) t0 t1 t2 t7 t8 t9 t11 t12 t13 t14 t135 t136 t137 o0 o1 o2 o3 o4 o5 o6 =
  bif (decide (t137<t136)) then
    if (0:Int)≤t137∧t137<(((List.length t135):Nat):Int) then
    Option.bind (Ys n t8) fun r13 =>
    if (0:Int)≤(List.getD t135 (Int.toNat t137) (0:Int):Int)∧(List.getD t135 (Int.toNat t137) (0:Int):Int)<(((List.length o6):Nat):Int) then
    Z7.l0 n m0 t0 t1 t2 t7 t8 t9 t11 t12 t13 t14 t135 t136 (IntKind.wrap .i64 (t137+1)) o0 o1 o2 o3 o4 o5 (List.set o6 (Int.toNat (List.getD t135 (Int.toNat t137) (0:Int):Int)) r13.1.1:(List (den Zb)))
    else none
    else none
  else
    Z7.l1 n n t0 t1 t2 t7 t8 t9 t11 t12 t13 t14 t135 t136 t137 (o1.2.2.2.2.2.2.2.1:(List Int)) ((List.length (o1.2.2.2.2.2.2.2.1:(List Int))):Int) 0 o0 o1 o2 o3 o4 o5 o6:=by kernel_rfl
theorem Z7.l1_eq (n m0:Nat) (t0_1:(den Za)) (t1_1:Int) (t2_1:(den Z6)) (t7_1:Int) (t8_1:Int) (t9_1:(List Int)) (t11_1:Int) (t12_1:Int) (t13_1:Int) (t14_1:Int) (t135_1:(List Int)) (t136_1:Int) (t137_1:Int) (t149_1:(List Int)) (t150_1:Int) (t151_1:Int) (o0_1:(den Za)) (o1_1:(den Z6)) (o2_1:(den Za)) (o3_1:(List (List Int))) (o4_1:(den Za)) (o5_1:(List Int)) (o6_1:(List (den Zb))):Z7.l1 n (m0+1) t0_1 t1_1 t2_1 t7_1 t8_1 t9_1 t11_1 t12_1 t13_1 t14_1 t135_1 t136_1 t137_1 t149_1 t150_1 t151_1 o0_1 o1_1 o2_1 o3_1 o4_1 o5_1 o6_1 =
  bif (decide (t151_1<t150_1)) then
    if (0:Int)≤t151_1∧t151_1<(((List.length t149_1):Nat):Int) then
    Option.bind (Ys n t1_1) fun r14 =>
    if (0:Int)≤(List.getD t149_1 (Int.toNat t151_1) (0:Int):Int)∧(List.getD t149_1 (Int.toNat t151_1) (0:Int):Int)<(((List.length o6_1):Nat):Int) then
    Z7.l1 n m0 t0_1 t1_1 t2_1 t7_1 t8_1 t9_1 t11_1 t12_1 t13_1 t14_1 t135_1 t136_1 t137_1 t149_1 t150_1 (IntKind.wrap .i64 (t151_1+1)) o0_1 o1_1 o2_1 o3_1 o4_1 o5_1 (List.set o6_1 (Int.toNat (List.getD t149_1 (Int.toNat t151_1) (0:Int):Int)) r14.1.1:(List (den Zb)))
    else none
    else none
  else
    some (((o4_1.1,(o4_1.2.1:(List Int)),o5_1,o6_1,()),0,()),[(0,[2]),(0,[3])]):=by kernel_rfl
theorem Z7.eq (n:Nat) (a0:(den Za)) (a1:Int) (a2:(den Z6)):Z7 (n+1) a0 a1 a2 =
  Option.bind (Vp n ([(a2.2.2.2.2.2.1:(List Int)),(a2.2.2.2.2.2.2.2.1:(List Int))]:List (List Int))) fun r1 =>
  Option.bind (Y9 n a0 (a2.2.2.2.2.1:Int)) fun r2 =>
  bif (!(r2.1.1:Bool)) then
    some ((a0,3,()),[])
  else
    Option.bind (Xb n (r1.1.1:(List Int)) a0) fun r3 =>
    bif (r3.1.1:Bool) then
      some ((a0,3,()),[])
    else
      bif (decide ((a2.2.2.2.2.1:Int)=a1)) then
        some ((a0,12,()),[])
      else
        if (0:Int)≤(a2.2.2.2.2.1:Int)∧(a2.2.2.2.2.1:Int)<(((List.length (a0.2.1:(List Int))):Nat):Int) then
        if (0:Int)≤a1∧a1<(((List.length (a0.2.1:(List Int))):Nat):Int) then
        bif (!(decide ((List.getD (a0.2.1:(List Int)) (Int.toNat (a2.2.2.2.2.1:Int)) (0:Int):Int)=(List.getD (a0.2.1:(List Int)) (Int.toNat a1) (0:Int):Int)))) then
          some ((a0,5,()),[])
        else
          Option.bind (Xt n (r1.1.1:(List Int))) fun r4 =>
          bif (r4.1.1:Bool) then
            some ((a0,13,()),[])
          else
            Option.bind (Yw n (a2.2.2.2.2.2.1:(List Int)) a1 a0) fun r5 =>
            bif (r5.1.1:Bool) then
              some ((a0,5,()),[])
            else
              Option.bind (Yw n (a2.2.2.2.2.2.2.2.1:(List Int)) (a2.2.2.2.2.1:Int) a0) fun r6 =>
              bif (r6.1.1:Bool) then
                some ((a0,5,()),[])
              else
                Option.bind (Ys n a1) fun r7 =>
                Option.bind (Q8 n a0 r7.1.1) fun r8 =>
                bif (decide ((r8.1.1:Int)<(IntKind.wrap .i64 (((List.length (a2.2.2.2.2.2.2.2.1:(List Int))):Int) - ((List.length (a2.2.2.2.2.2.1:(List Int))):Int))))) then
                  some ((a0,9,()),[])
                else
                  Option.bind (Ys n (a2.2.2.2.2.1:Int)) fun r9 =>
                  Option.bind (Q8 n a0 r9.1.1) fun r10 =>
                  bif (decide ((r10.1.1:Int)<(IntKind.wrap .i64 (0 - (IntKind.wrap .i64 (((List.length (a2.2.2.2.2.2.2.2.1:(List Int))):Int) - ((List.length (a2.2.2.2.2.2.1:(List Int))):Int))))))) then
                    some ((a0,9,()),[])
                  else
                    if (0:Int)≤a1∧a1<(((List.length (a0.2.2.1:(List Int))):Nat):Int) then
                    if (0:Int)≤(a2.2.2.2.2.1:Int)∧(a2.2.2.2.2.1:Int)<(((List.length (a0.2.2.1:(List Int))):Nat):Int) then
                    Option.bind (Kb n (List.getD (a0.2.2.1:(List Int)) (Int.toNat a1) (0:Int):Int) (List.getD (a0.2.2.1:(List Int)) (Int.toNat (a2.2.2.2.2.1:Int)) (0:Int):Int) (a2.2.2.2.2.2.2.1:Int) (a2.2.2.2.2.2.2.2.2.1:Int)) fun r11 =>
                    bif (!(decide ((r11.1.2.2.1:Int)=0))) then
                      some ((a0,(r11.1.2.2.1:Int),()),[])
                    else
                      Option.bind (Jh n a0) fun r12 =>
                      bif (Zq r12.2 [((0,[2]),5),((0,[3]),6)]) then
                        if (0:Int)≤a1∧a1<(((List.length (r12.1.1.2.2.1:(List Int))):Nat):Int) then
                        if (0:Int)≤(a2.2.2.2.2.1:Int)∧(a2.2.2.2.2.1:Int)<(((List.length (List.set (r12.1.1.2.2.1:(List Int)) (Int.toNat a1) (r11.1.1:Int):(List Int))):Nat):Int) then
                        Z7.l0 n n a0 a1 a2 0 (a2.2.2.2.2.1:Int) (r1.1.1:(List Int)) (IntKind.wrap .i64 (((List.length (a2.2.2.2.2.2.2.2.1:(List Int))):Int) - ((List.length (a2.2.2.2.2.2.1:(List Int))):Int))) (r11.1.1:Int) (r11.1.2.1:Int) (r11.1.2.2.1:Int) (a2.2.2.2.2.2.1:(List Int)) ((List.length (a2.2.2.2.2.2.1:(List Int))):Int) 0 a0 a2 ((([]:List (List Int)),([]:List Int),([]:List Int),([]:List Int),([]:List Bool),0,0,0,()),([]:List Int),([]:List Int),([]:List (den Zb)),()) ([(a2.2.2.2.2.2.1:(List Int)),(a2.2.2.2.2.2.2.2.1:(List Int))]:List (List Int)) (r12.1.1.1,(r12.1.1.2.1:(List Int)),([]:List Int),([]:List (den Zb)),()) (List.set (List.set (r12.1.1.2.2.1:(List Int)) (Int.toNat a1) (r11.1.1:Int):(List Int)) (Int.toNat (a2.2.2.2.2.1:Int)) (r11.1.2.1:Int):(List Int)) (r12.1.1.2.2.2.1:(List (den Zb)))
                        else none
                        else none
                      else
                        none
                    else none
                    else none
        else none
        else none:=by kernel_rfl
@[reducible] def Yh.R:Type:=Xc [.d Xg]×Zz
def Yh (n:Nat) (a0:Int) (a1:Int) (a2:Int):Option Yh.R:=gc n 65 [.dat (.int .i64) a0 [],.dat (.int .i64) a1 [],.dat (.int .i64) a2 []] [.d Xg]
theorem Yh.eq (n:Nat) (a0:Int) (a1:Int) (a2:Int):Yh (n+1) a0 a1 a2 =
  bif (!(decide (a2=0))) then
    some (((a2,0,0,([]:List Int),([]:List (den Kq)),0,()),()),[])
  else
    some (((0,a0,a1,([]:List Int),([]:List (den Kq)),0,()),()),[]):=by kernel_rfl
@[reducible] def Qs.R:Type:=Xc [.d Za,.d Xg]×Zz
def Qs (n:Nat) (a0:(den Za)) (a1:Int) (a2:(den Z6)):Option Qs.R:=gc n 69 [.dat Za a0 [],.dat (.int .i64) a1 [],.dat Z6 a2 [],.refv (.clo 53 [])] [.d Za,.d Xg]
theorem Qs.eq (n:Nat) (a0:(den Za)) (a1:Int) (a2:(den Z6)):Qs (n+1) a0 a1 a2 =
  Option.bind (Z7 n a0 a1 a2) fun r1 =>
  Option.bind (Yh n (a2.1:Int) 0 (r1.1.2.1:Int)) fun r2 =>
  some ((r1.1.1,r2.1.1,()),[]):=by kernel_rfl
@[reducible] def K8.R:Type:=Xc [.d Za]×Zz
def K8 (n:Nat) (a0:(den Za)) (a1:Int) (a2:(den Zb)):Option K8.R:=gc n 85 [.dat Za a0 [],.dat (.int .i64) a1 [],.dat Zb a2 []] [.d Za]
theorem K8.eq (n:Nat) (a0:(den Za)) (a1:Int) (a2:(den Zb)):K8 (n+1) a0 a1 a2 =
  Option.bind (Jh n a0) fun r1 =>
  bif (Zq r1.2 [((0,[3]),4)]) then
    if (0:Int)≤a1∧a1<(((List.length (r1.1.1.2.2.2.1:(List (den Zb)))):Nat):Int) then
    some (((r1.1.1.1,(r1.1.1.2.1:(List Int)),(r1.1.1.2.2.1:(List Int)),(List.set (r1.1.1.2.2.2.1:(List (den Zb))) (Int.toNat a1) a2:(List (den Zb))),()),()),[(0,[3])])
    else none
  else
    none:=by kernel_rfl
@[reducible] def Vk.R:Type:=Xc [.d Za,.d (.int .i64)]×Zz
def Vk (n:Nat) (a0:(den Za)) (a1:Int) (a2:Int) (a3:Int):Option Vk.R:=gc n 52 [.dat Za a0 [],.dat (.int .i64) a1 [],.dat (.int .i64) a2 [],.dat (.int .i64) a3 []] [.d Za,.d (.int .i64)]
theorem Vk.eq (n:Nat) (a0:(den Za)) (a1:Int) (a2:Int) (a3:Int):Vk (n+1) a0 a1 a2 a3 =
  Option.bind (Ky n a0 a2) fun r1 =>
  bif (!(r1.1.1:Bool)) then
    some ((a0,3,()),[])
  else
    Option.bind (Y9 n a0 a3) fun r2 =>
    bif (!(r2.1.1:Bool)) then
      some ((a0,3,()),[])
    else
      bif (decide (a3=a1)) then
        some ((a0,12,()),[])
      else
        if (0:Int)≤a3∧a3<(((List.length (a0.2.1:(List Int))):Nat):Int) then
        if (0:Int)≤a1∧a1<(((List.length (a0.2.1:(List Int))):Nat):Int) then
        bif (!(decide ((List.getD (a0.2.1:(List Int)) (Int.toNat a3) (0:Int):Int)=(List.getD (a0.2.1:(List Int)) (Int.toNat a1) (0:Int):Int)))) then
          some ((a0,5,()),[])
        else
          if (0:Int)≤a2∧a2<(((List.length (a0.2.2.2.1:(List (den Zb)))):Nat):Int) then
          Option.bind (Ys n a1) fun r3 =>
          bif (!(eqT Zb (List.getD (a0.2.2.2.1:(List (den Zb))) (Int.toNat a2) (dft Zb):(den Zb)) r3.1.1)) then
            some ((a0,5,()),[])
          else
            Option.bind (Ys n a3) fun r4 =>
            Option.bind (Q8 n a0 r4.1.1) fun r5 =>
            bif (decide ((r5.1.1:Int)<1)) then
              some ((a0,9,()),[])
            else
              Option.bind (Ys n a3) fun r6 =>
              Option.bind (K8 n a0 a2 r6.1.1) fun r7 =>
              some ((r7.1.1,0,()),[])
          else none
        else none
        else none:=by kernel_rfl
@[reducible] def Qq.R:Type:=Xc [.d Za,.d (.int .i64)]×Zz
def Qq (n:Nat) (a0:(den Za)) (a1:Int) (a2:(den Z6)):Option Qq.R:=gc n 51 [.dat Za a0 [],.dat (.int .i64) a1 [],.dat Z6 a2 []] [.d Za,.d (.int .i64)]
theorem Qq.eq (n:Nat) (a0:(den Za)) (a1:Int) (a2:(den Z6)):Qq (n+1) a0 a1 a2 =
  Option.bind (Vk n a0 a1 (a2.2.2.1:Int) (a2.2.2.2.2.1:Int)) fun r1 =>
  some ((r1.1.1,(r1.1.2.1:Int),()),[]):=by kernel_rfl
@[reducible] def Ve.R:Type:=Xc [.d Za,.d Xg]×Zz
def Ve (n:Nat) (a0:(den Za)) (a1:Int) (a2:(den Z6)):Option Ve.R:=gc n 69 [.dat Za a0 [],.dat (.int .i64) a1 [],.dat Z6 a2 [],.refv (.clo 51 [])] [.d Za,.d Xg]
theorem Ve.eq (n:Nat) (a0:(den Za)) (a1:Int) (a2:(den Z6)):Ve (n+1) a0 a1 a2 =
  Option.bind (Qq n a0 a1 a2) fun r1 =>
  Option.bind (Yh n (a2.1:Int) 0 (r1.1.2.1:Int)) fun r2 =>
  some ((r1.1.1,r2.1.1,()),[]):=by kernel_rfl
@[reducible] def Q2.R:Type:=Xc [.d .bool]×Zz
def Q2 (n:Nat) (a0:(den Za)) (a1:Int):Option Q2.R:=gc n 74 [.dat Za a0 [],.dat (.int .i64) a1 []] [.d .bool]
theorem Q2.eq (n:Nat) (a0:(den Za)) (a1:Int):Q2 (n+1) a0 a1 =
  bif (decide (a1<0)) then
    some ((true,()),[])
  else
    some (((decide (((List.length (a0.2.2.2.1:(List (den Zb)))):Int)≤a1)),()),[]):=by kernel_rfl
@[reducible] def Yk.R:Type:=Xc [.d .bool]×Zz
def Yk (n:Nat) (a0:(den Za)) (a1:Int) (a2:Int):Option Yk.R:=gc n 86 [.ref Za a0,.ref (.int .i64) a1,.ref (.int .i64) a2] [.d .bool]
theorem Yk.eq (n:Nat) (a0:(den Za)) (a1:Int) (a2:Int):Yk (n+1) a0 a1 a2 =
  Option.bind (Q2 n a0 a1) fun r1 =>
  bif (r1.1.1:Bool) then
    some ((true,()),[])
  else
    Option.bind (Q2 n a0 a2) fun r2 =>
    some (((r2.1.1:Bool),()),[]):=by kernel_rfl
@[reducible] def Jz.R:Type:=Xc [.d .bool]×Zz
def Jz (n:Nat) (a0:(den Za)) (a1:Int) (a2:Int):Option Jz.R:=gc n 76 [.dat Za a0 [],.dat (.int .i64) a1 [],.dat (.int .i64) a2 []] [.d .bool]
theorem Jz.eq (n:Nat) (a0:(den Za)) (a1:Int) (a2:Int):Jz (n+1) a0 a1 a2 =
  Option.bind (Vv n a0 a2) fun r1 =>
  if (0:Int)≤a1∧a1<(((List.length (a0.2.1:(List Int))):Nat):Int) then
  bif (eqT Zb r1.1.1 (0,(List.getD (a0.2.1:(List Int)) (Int.toNat a1) (0:Int):Int),())) then
    some ((true,()),[])
  else
    some (((eqT Zb r1.1.1 (1,a1,())),()),[])
  else none:=by kernel_rfl
@[reducible] def Qt.R:Type:=Xc [.d .bool]×Zz
def Qt (n:Nat) (a0:(den Za)) (a1:Int) (a2:Int):Option Qt.R:=gc n 87 [.ref Za a0,.ref (.int .i64) a1,.ref (.int .i64) a2] [.d .bool]
theorem Qt.eq (n:Nat) (a0:(den Za)) (a1:Int) (a2:Int):Qt (n+1) a0 a1 a2 =
  Option.bind (Jz n a0 a1 a2) fun r1 =>
  some (((!(r1.1.1:Bool)),()),[]):=by kernel_rfl
@[reducible] def Qu.R:Type:=Xc [.d .bool]×Zz
def Qu (n:Nat) (a0:(den Za)) (a1:Int):Option Qu.R:=gc n 88 [.ref Za a0,.ref (.int .i64) a1] [.d .bool]
theorem Qu.eq (n:Nat) (a0:(den Za)) (a1:Int):Qu (n+1) a0 a1 =
  if (0:Int)≤a1∧a1<(((List.length (a0.1.2.2.2.2.1:(List Bool))):Nat):Int) then
  some (((!(List.getD (a0.1.2.2.2.2.1:(List Bool)) (Int.toNat a1) false:Bool)),()),[])
  else none:=by kernel_rfl
@[reducible] def Qv.R:Type:=Xc [.d .bool]×Zz
def Qv (n:Nat) (a0:(den Za)) (a1:Int) (a2:(den Zb)):Option Qv.R:=gc n 89 [.ref Za a0,.ref (.int .i64) a1,.ref Zb a2] [.d .bool]
theorem Qv.eq (n:Nat) (a0:(den Za)) (a1:Int) (a2:(den Zb)):Qv (n+1) a0 a1 a2 =
  if (0:Int)≤a1∧a1<(((List.length (a0.2.2.2.1:(List (den Zb)))):Nat):Int) then
  some (((!(eqT Zb (List.getD (a0.2.2.2.1:(List (den Zb))) (Int.toNat a1) (dft Zb):(den Zb)) a2)),()),[])
  else none:=by kernel_rfl
@[reducible] def Qw.R:Type:=Xc [.d .bool]×Zz
def Qw (n:Nat) (a0:(den Za)) (a1:(den Zb)):Option Qw.R:=gc n 90 [.ref Za a0,.ref Zb a1] [.d .bool]
theorem Qw.eq (n:Nat) (a0:(den Za)) (a1:(den Zb)):Qw (n+1) a0 a1 =
  Option.bind (Q8 n a0 a1) fun r1 =>
  some (((decide ((r1.1.1:Int)<1)),()),[]):=by kernel_rfl
@[reducible] def Qf.R:Type:=Xc [.d (.int .i64)]×Zz
def Qf (n:Nat) (a0:(den Za)) (a1:Int) (a2:Int) (a3:Int) (a4:(den Za)) (a5:Int) (a6:Int) (a7:Int) (a8:(den Za)) (a9:Int) (a10:Int) (a11:(den Za)) (a12:Int) (a13:(den Zb)) (a14:Int) (a15:(den Za)) (a16:(den Zb)) (a17:Int):Option Qf.R:=gc n 72 [.slv [.agv [.clo 86 [.ref Za a0,.ref (.int .i64) a1,.ref (.int .i64) a2],.dat (.int .i64) a3 []],.agv [.clo 87 [.ref Za a4,.ref (.int .i64) a5,.ref (.int .i64) a6],.dat (.int .i64) a7 []],.agv [.clo 88 [.ref Za a8,.ref (.int .i64) a9],.dat (.int .i64) a10 []],.agv [.clo 89 [.ref Za a11,.ref (.int .i64) a12,.ref Zb a13],.dat (.int .i64) a14 []],.agv [.clo 90 [.ref Za a15,.ref Zb a16],.dat (.int .i64) a17 []]]] [.d (.int .i64)]
theorem Qf.eq (n:Nat) (a0:(den Za)) (a1:Int) (a2:Int) (a3:Int) (a4:(den Za)) (a5:Int) (a6:Int) (a7:Int) (a8:(den Za)) (a9:Int) (a10:Int) (a11:(den Za)) (a12:Int) (a13:(den Zb)) (a14:Int) (a15:(den Za)) (a16:(den Zb)) (a17:Int):Qf (n+14) a0 a1 a2 a3 a4 a5 a6 a7 a8 a9 a10 a11 a12 a13 a14 a15 a16 a17 =
  Option.bind (Yk (n+13) a0 a1 a2) fun r1 =>
  bif (r1.1.1:Bool) then
    some ((a3,()),[])
  else
    Option.bind (Qt (n+13) a4 a5 a6) fun r2 =>
    bif (r2.1.1:Bool) then
      some ((a7,()),[])
    else
      Option.bind (Qu (n+13) a8 a9) fun r3 =>
      bif (r3.1.1:Bool) then
        some ((a10,()),[])
      else
        Option.bind (Qv (n+13) a11 a12 a13) fun r4 =>
        bif (r4.1.1:Bool) then
          some ((a14,()),[])
        else
          Option.bind (Qw (n+13) a15 a16) fun r5 =>
          bif (r5.1.1:Bool) then
            some ((a17,()),[])
          else
            some ((0,()),[]):=by kernel_rfl
@[reducible] def Vj.R:Type:=Xc [.d Za,.d (.int .i64)]×Zz
def Vj (n:Nat) (a0:(den Za)) (a1:Int) (a2:Int) (a3:Int):Option Vj.R:=gc n 50 [.dat Za a0 [],.dat (.int .i64) a1 [],.dat (.int .i64) a2 [],.dat (.int .i64) a3 []] [.d Za,.d (.int .i64)]
theorem Vj.eq (n:Nat) (a0:(den Za)) (a1:Int) (a2:Int) (a3:Int):Vj (n+1) a0 a1 a2 a3 =
  Option.bind (Qf n a0 a2 a3 3 a0 a1 a3 5 a0 a3 6 a0 a2 (2,a3,()) 5 a0 (1,a1,()) 9) fun r1 =>
  bif (!(decide ((r1.1.1:Int)=0))) then
    some ((a0,(r1.1.1:Int),()),[])
  else
    Option.bind (K8 n a0 a2 (1,a1,())) fun r2 =>
    some ((r2.1.1,0,()),[]):=by kernel_rfl
@[reducible] def Qp.R:Type:=Xc [.d Za,.d (.int .i64)]×Zz
def Qp (n:Nat) (a0:(den Za)) (a1:Int) (a2:(den Z6)):Option Qp.R:=gc n 49 [.dat Za a0 [],.dat (.int .i64) a1 [],.dat Z6 a2 []] [.d Za,.d (.int .i64)]
theorem Qp.eq (n:Nat) (a0:(den Za)) (a1:Int) (a2:(den Z6)):Qp (n+1) a0 a1 a2 =
  Option.bind (Vj n a0 a1 (a2.2.2.1:Int) (a2.2.2.2.1:Int)) fun r1 =>
  some ((r1.1.1,(r1.1.2.1:Int),()),[]):=by kernel_rfl
@[reducible] def Vf.R:Type:=Xc [.d Za,.d Xg]×Zz
def Vf (n:Nat) (a0:(den Za)) (a1:Int) (a2:(den Z6)):Option Vf.R:=gc n 69 [.dat Za a0 [],.dat (.int .i64) a1 [],.dat Z6 a2 [],.refv (.clo 49 [])] [.d Za,.d Xg]
theorem Vf.eq (n:Nat) (a0:(den Za)) (a1:Int) (a2:(den Z6)):Vf (n+1) a0 a1 a2 =
  Option.bind (Qp n a0 a1 a2) fun r1 =>
  Option.bind (Yh n (a2.1:Int) 0 (r1.1.2.1:Int)) fun r2 =>
  some ((r1.1.1,r2.1.1,()),[]):=by kernel_rfl
@[reducible] def Yy.R:Type:=Xc [.d .bool]×Zz
def Yy (n:Nat) (a0:(den Za)) (a1:Int) (a2:Int):Option Yy.R:=gc n 73 [.ref Za a0,.ref (.int .i64) a1,.ref (.int .i64) a2] [.d .bool]
theorem Yy.eq (n:Nat) (a0:(den Za)) (a1:Int) (a2:Int):Yy (n+1) a0 a1 a2 =
  Option.bind (Q2 n a0 a1) fun r1 =>
  bif (r1.1.1:Bool) then
    some ((true,()),[])
  else
    Option.bind (Q2 n a0 a2) fun r2 =>
    some (((r2.1.1:Bool),()),[]):=by kernel_rfl
@[reducible] def Jk.R:Type:=Xc [.d .bool]×Zz
def Jk (n:Nat) (a0:(den Za)) (a1:Int) (a2:(den Zb)) (a3:Int) (a4:Int):Option Jk.R:=gc n 75 [.ref Za a0,.ref (.int .i64) a1,.ref Zb a2,.ref (.int .i64) a3,.ref (.int .i64) a4] [.d .bool]
theorem Jk.eq (n:Nat) (a0:(den Za)) (a1:Int) (a2:(den Zb)) (a3:Int) (a4:Int):Jk (n+1) a0 a1 a2 a3 a4 =
  if (0:Int)≤a1∧a1<(((List.length (a0.2.2.2.1:(List (den Zb)))):Nat):Int) then
  bif (!(eqT Zb (List.getD (a0.2.2.2.1:(List (den Zb))) (Int.toNat a1) (dft Zb):(den Zb)) a2)) then
    some ((true,()),[])
  else
    Option.bind (Jz n a0 a3 a4) fun r1 =>
    some (((!(r1.1.1:Bool)),()),[])
  else none:=by kernel_rfl
@[reducible] def Jl.R:Type:=Xc [.d .bool]×Zz
def Jl (n:Nat) (a0:(den Za)) (a1:Int):Option Jl.R:=gc n 77 [.ref Za a0,.ref (.int .i64) a1] [.d .bool]
theorem Jl.eq (n:Nat) (a0:(den Za)) (a1:Int):Jl (n+1) a0 a1 =
  if (0:Int)≤a1∧a1<(((List.length (a0.1.2.2.2.2.1:(List Bool))):Nat):Int) then
  some (((!(List.getD (a0.1.2.2.2.2.1:(List Bool)) (Int.toNat a1) false:Bool)),()),[])
  else none:=by kernel_rfl
@[reducible] def Wk.R:Type:=Xc [.d .bool]×Zz
def Wk (n:Nat) (a0:(den Za)) (a1:Int) (a2:Int):Option Wk.R:=gc n 79 [.dat Za a0 [],.dat (.int .i64) a1 [],.dat (.int .i64) a2 []] [.d .bool]
@[reducible] def Jm.R:Type:=Xc [.d .bool]×Zz
def Jm (n:Nat) (a0:(den Za)) (a1:Int) (a2:Int):Option Jm.R:=gc n 78 [.ref Za a0,.ref (.int .i64) a1,.ref (.int .i64) a2] [.d .bool]
theorem Jm.eq (n:Nat) (a0:(den Za)) (a1:Int) (a2:Int):Jm (n+1) a0 a1 a2 =
  Option.bind (Wk n a0 a1 a2) fun r1 =>
  some (((r1.1.1:Bool),()),[]):=by kernel_rfl
@[reducible] def Jg.R:Type:=Xc [.d (.int .i64)]×Zz
def Jg (n:Nat) (a0:(den Za)) (a1:Int):Option Jg.R:=gc n 81 [.dat Za a0 [],.dat (.int .i64) a1 []] [.d (.int .i64)]
theorem Jg.eq (n:Nat) (a0:(den Za)) (a1:Int):Jg (n+1) a0 a1 =
  Option.bind (Gb n a0 a1) fun r1 =>
  Option.bind (Qi n r1.1.1.1 (r1.1.1.2.1:Int)) fun r2 =>
  some (((IntKind.wrap .i64 (((List.length (r2.1.1:(List (den Zb)))):Int) - 1)),()),[]):=by kernel_rfl
def Xq.res:List Sh:=[.d (.int .i64)]
@[reducible] def Xq.R:Type:=Xc [.d (.int .i64)]×Zz
def Xq (n:Nat) (a0:(den Za)) (a1:Int):Option Xq.R:=gc n 82 [.dat Za a0 [],.dat (.int .i64) a1 []] [.d (.int .i64)]
def Xq.l0 (n m0:Nat) (t0:(den Za)) (t1:Int) (t4:Int) (t5:Int) (t9:Int) (t10:Int) (o0:(den Za)):Option Xq.R :=
  lpN n AR4 m0 (Ja 0 (Qh (run (gc n) n) AR3 (Xa Xq.fn Xq.res) (Xa Xq.fn Xq.res)) (Xa Xq.fn Xq.res))
    [(0,.dat Za t0 []),(1,.dat (.int .i64) t1 []),(2,.ptr 0 []),(4,.dat (.int .i64) t4 []),(5,.dat (.int .i64) t5 []),(9,.dat (.int .i64) t9 []),(10,.dat (.int .i64) t10 [])]
    [.box Za o0 []]
theorem Xq.l0_eq (n m0:Nat) (t0:(den Za)) (t1:Int) (t4:Int) (t5:Int) (t9:Int) (t10:Int) (o0:(den Za)):Xq.l0 n (m0+1) t0 t1 t4 t5 t9 t10 o0 =
  bif (decide (t10<t9)) then
    Option.bind (Wk n o0 t10 t1) fun r1 =>
    bif (r1.1.1:Bool) then
      Option.bind (Jg n o0 t10) fun r2 =>
      Option.bind (Jg n o0 t1) fun r3 =>
      Xq.l0 n m0 t0 t1 t4 (if t5<(IntKind.wrap .i64 ((r2.1.1:Int) - (r3.1.1:Int))) then (IntKind.wrap .i64 ((r2.1.1:Int) - (r3.1.1:Int))) else t5) t9 (IntKind.wrap .i64 (t10+1)) o0
    else
      Xq.l0 n m0 t0 t1 t4 t5 t9 (IntKind.wrap .i64 (t10+1)) o0
  else
    some ((t5,()),[]):=by kernel_rfl
theorem Xq.eq (n:Nat) (a0:(den Za)) (a1:Int):Xq (n+1) a0 a1 =
  Xq.l0 n n a0 a1 0 0 ((List.length (a0.2.2.2.1:(List (den Zb)))):Int) 0 a0:=by kernel_rfl
@[reducible] def Jn.R:Type:=Xc [.d .bool]×Zz
def Jn (n:Nat) (a0:(den Za)) (a1:Int) (a2:Int):Option Jn.R:=gc n 80 [.ref Za a0,.ref (.int .i64) a1,.ref (.int .i64) a2] [.d .bool]
theorem Jn.eq (n:Nat) (a0:(den Za)) (a1:Int) (a2:Int):Jn (n+1) a0 a1 a2 =
  Option.bind (Jg n a0 a1) fun r1 =>
  Option.bind (Xq n a0 a2) fun r2 =>
  some (((decide (4<(IntKind.wrap .i64 ((IntKind.wrap .i64 ((r1.1.1:Int)+1))+(r2.1.1:Int))))),()),[]):=by kernel_rfl
@[reducible] def Jo.R:Type:=Xc [.d .bool]×Zz
def Jo (n:Nat) (a0:(den Za)) (a1:(den Zb)):Option Jo.R:=gc n 83 [.ref Za a0,.ref Zb a1] [.d .bool]
theorem Jo.eq (n:Nat) (a0:(den Za)) (a1:(den Zb)):Jo (n+1) a0 a1 =
  Option.bind (Q8 n a0 a1) fun r1 =>
  some (((decide ((r1.1.1:Int)<1)),()),[]):=by kernel_rfl
@[reducible] def Y1.R:Type:=Xc [.d (.int .i64)]×Zz
def Y1 (n:Nat) (a0:(den Za)) (a1:Int) (a2:Int) (a3:Int) (a4:(den Za)) (a5:Int) (a6:(den Zb)) (a7:Int) (a8:Int) (a9:Int) (a10:(den Za)) (a11:Int) (a12:Int) (a13:(den Za)) (a14:Int) (a15:Int) (a16:Int) (a17:(den Za)) (a18:Int) (a19:Int) (a20:Int) (a21:(den Za)) (a22:(den Zb)) (a23:Int):Option Y1.R:=gc n 72 [.slv [.agv [.clo 73 [.ref Za a0,.ref (.int .i64) a1,.ref (.int .i64) a2],.dat (.int .i64) a3 []],.agv [.clo 75 [.ref Za a4,.ref (.int .i64) a5,.ref Zb a6,.ref (.int .i64) a7,.ref (.int .i64) a8],.dat (.int .i64) a9 []],.agv [.clo 77 [.ref Za a10,.ref (.int .i64) a11],.dat (.int .i64) a12 []],.agv [.clo 78 [.ref Za a13,.ref (.int .i64) a14,.ref (.int .i64) a15],.dat (.int .i64) a16 []],.agv [.clo 80 [.ref Za a17,.ref (.int .i64) a18,.ref (.int .i64) a19],.dat (.int .i64) a20 []],.agv [.clo 83 [.ref Za a21,.ref Zb a22],.dat (.int .i64) a23 []]]] [.d (.int .i64)]
theorem Y1.eq (n:Nat) (a0:(den Za)) (a1:Int) (a2:Int) (a3:Int) (a4:(den Za)) (a5:Int) (a6:(den Zb)) (a7:Int) (a8:Int) (a9:Int) (a10:(den Za)) (a11:Int) (a12:Int) (a13:(den Za)) (a14:Int) (a15:Int) (a16:Int) (a17:(den Za)) (a18:Int) (a19:Int) (a20:Int) (a21:(den Za)) (a22:(den Zb)) (a23:Int):Y1 (n+14) a0 a1 a2 a3 a4 a5 a6 a7 a8 a9 a10 a11 a12 a13 a14 a15 a16 a17 a18 a19 a20 a21 a22 a23 =
  Option.bind (Yy (n+13) a0 a1 a2) fun r1 =>
  bif (r1.1.1:Bool) then
    some ((a3,()),[])
  else
    Option.bind (Jk (n+13) a4 a5 a6 a7 a8) fun r2 =>
    bif (r2.1.1:Bool) then
      some ((a9,()),[])
    else
      Option.bind (Jl (n+13) a10 a11) fun r3 =>
      bif (r3.1.1:Bool) then
        some ((a12,()),[])
      else
        Option.bind (Jm (n+13) a13 a14 a15) fun r4 =>
        bif (r4.1.1:Bool) then
          some ((a16,()),[])
        else
          Option.bind (Jn (n+13) a17 a18 a19) fun r5 =>
          bif (r5.1.1:Bool) then
            some ((a20,()),[])
          else
            Option.bind (Jo (n+13) a21 a22) fun r6 =>
            bif (r6.1.1:Bool) then
              some ((a23,()),[])
            else
              some ((0,()),[]):=by kernel_rfl
@[reducible] def V9.R:Type:=Xc [.d Za,.d (.int .i64)]×Zz
def V9 (n:Nat) (a0:(den Za)) (a1:Int) (a2:Int) (a3:Int):Option V9.R:=gc n 48 [.dat Za a0 [],.dat (.int .i64) a1 [],.dat (.int .i64) a2 [],.dat (.int .i64) a3 []] [.d Za,.d (.int .i64)]
theorem V9.eq (n:Nat) (a0:(den Za)) (a1:Int) (a2:Int) (a3:Int):V9 (n+1) a0 a1 a2 a3 =
  Option.bind (Y1 n a0 a2 a3 3 a0 a2 (1,a1,()) a1 a3 5 a0 a3 6 a0 a3 a2 7 a0 a3 a2 8 a0 (2,a3,()) 9) fun r1 =>
  bif (!(decide ((r1.1.1:Int)=0))) then
    some ((a0,(r1.1.1:Int),()),[])
  else
    Option.bind (K8 n a0 a2 (2,a3,())) fun r2 =>
    some ((r2.1.1,0,()),[]):=by kernel_rfl
@[reducible] def Qo.R:Type:=Xc [.d Za,.d (.int .i64)]×Zz
def Qo (n:Nat) (a0:(den Za)) (a1:Int) (a2:(den Z6)):Option Qo.R:=gc n 47 [.dat Za a0 [],.dat (.int .i64) a1 [],.dat Z6 a2 []] [.d Za,.d (.int .i64)]
theorem Qo.eq (n:Nat) (a0:(den Za)) (a1:Int) (a2:(den Z6)):Qo (n+1) a0 a1 a2 =
  Option.bind (V9 n a0 a1 (a2.2.2.1:Int) (a2.2.2.2.1:Int)) fun r1 =>
  some ((r1.1.1,(r1.1.2.1:Int),()),[]):=by kernel_rfl
@[reducible] def Vg.R:Type:=Xc [.d Za,.d Xg]×Zz
def Vg (n:Nat) (a0:(den Za)) (a1:Int) (a2:(den Z6)):Option Vg.R:=gc n 69 [.dat Za a0 [],.dat (.int .i64) a1 [],.dat Z6 a2 [],.refv (.clo 47 [])] [.d Za,.d Xg]
theorem Vg.eq (n:Nat) (a0:(den Za)) (a1:Int) (a2:(den Z6)):Vg (n+1) a0 a1 a2 =
  Option.bind (Qo n a0 a1 a2) fun r1 =>
  Option.bind (Yh n (a2.1:Int) 0 (r1.1.2.1:Int)) fun r2 =>
  some ((r1.1.1,r2.1.1,()),[]):=by kernel_rfl
@[reducible] def Q6.R:Type:=Xc [.d Zb,.d Zb]×Zz
def Q6 (n:Nat) (a0:(den Za)) (a1:Int):Option Q6.R:=gc n 70 [.dat Za a0 [],.dat (.int .i64) a1 []] [.d Zb,.d Zb]
theorem Q6.eq (n:Nat) (a0:(den Za)) (a1:Int):Q6 (n+1) a0 a1 =
  if (0:Int)≤a1∧a1<(((List.length (a0.2.1:(List Int))):Nat):Int) then
  some (((0,(List.getD (a0.2.1:(List Int)) (Int.toNat a1) (0:Int):Int),()),(1,a1,()),()),[])
  else none:=by kernel_rfl
@[reducible] def Vt.R:Type:=Xc [.d Za,.d (.int .i64)]×Zz
def Vt (n:Nat) (a0:(den Za)) (a1:Int) (a2:(den Zb)) (a3:(den Zb)):Option Vt.R:=gc n 71 [.dat Za a0 [],.dat (.int .i64) a1 [],.dat Zb a2 [],.dat Zb a3 []] [.d Za,.d (.int .i64)]
theorem Vt.eq (n:Nat) (a0:(den Za)) (a1:Int) (a2:(den Zb)) (a3:(den Zb)):Vt (n+1) a0 a1 a2 a3 =
  bif (decide (a1<0)) then
    some ((a0,3,()),[])
  else
    bif (decide (((List.length (a0.2.2.2.1:(List (den Zb)))):Int)≤a1)) then
      some ((a0,3,()),[])
    else
      if (0:Int)≤a1∧a1<(((List.length (a0.2.2.2.1:(List (den Zb)))):Nat):Int) then
      bif (!(eqT Zb (List.getD (a0.2.2.2.1:(List (den Zb))) (Int.toNat a1) (dft Zb):(den Zb)) a2)) then
        some ((a0,5,()),[])
      else
        Option.bind (Q8 n a0 a3) fun r1 =>
        bif (decide ((r1.1.1:Int)<1)) then
          some ((a0,9,()),[])
        else
          Option.bind (K8 n a0 a1 a3) fun r2 =>
          some ((r2.1.1,0,()),[])
      else none:=by kernel_rfl
@[reducible] def Kd.R:Type:=Xc [.d Za,.d (.int .i64)]×Zz
def Kd (n:Nat) (a0:(den Za)) (a1:Int) (a2:Int):Option Kd.R:=gc n 46 [.dat Za a0 [],.dat (.int .i64) a1 [],.dat (.int .i64) a2 []] [.d Za,.d (.int .i64)]
theorem Kd.eq (n:Nat) (a0:(den Za)) (a1:Int) (a2:Int):Kd (n+1) a0 a1 a2 =
  Option.bind (Q6 n a0 a1) fun r1 =>
  Option.bind (Vt n a0 a2 r1.1.2.1 r1.1.1) fun r2 =>
  some ((r2.1.1,(r2.1.2.1:Int),()),[]):=by kernel_rfl
@[reducible] def Qn.R:Type:=Xc [.d Za,.d (.int .i64)]×Zz
def Qn (n:Nat) (a0:(den Za)) (a1:Int) (a2:(den Z6)):Option Qn.R:=gc n 45 [.dat Za a0 [],.dat (.int .i64) a1 [],.dat Z6 a2 []] [.d Za,.d (.int .i64)]
theorem Qn.eq (n:Nat) (a0:(den Za)) (a1:Int) (a2:(den Z6)):Qn (n+1) a0 a1 a2 =
  Option.bind (Kd n a0 a1 (a2.2.2.1:Int)) fun r1 =>
  some ((r1.1.1,(r1.1.2.1:Int),()),[]):=by kernel_rfl
@[reducible] def Vh.R:Type:=Xc [.d Za,.d Xg]×Zz
def Vh (n:Nat) (a0:(den Za)) (a1:Int) (a2:(den Z6)):Option Vh.R:=gc n 69 [.dat Za a0 [],.dat (.int .i64) a1 [],.dat Z6 a2 [],.refv (.clo 45 [])] [.d Za,.d Xg]
theorem Vh.eq (n:Nat) (a0:(den Za)) (a1:Int) (a2:(den Z6)):Vh (n+1) a0 a1 a2 =
  Option.bind (Qn n a0 a1 a2) fun r1 =>
  Option.bind (Yh n (a2.1:Int) 0 (r1.1.2.1:Int)) fun r2 =>
  some ((r1.1.1,r2.1.1,()),[]):=by kernel_rfl
@[reducible] def Hg.R:Type:=Xc [.d Za,.d (.int .i64)]×Zz
def Hg (n:Nat) (a0:(den Za)) (a1:Int) (a2:Int):Option Hg.R:=gc n 44 [.dat Za a0 [],.dat (.int .i64) a1 [],.dat (.int .i64) a2 []] [.d Za,.d (.int .i64)]
theorem Hg.eq (n:Nat) (a0:(den Za)) (a1:Int) (a2:Int):Hg (n+1) a0 a1 a2 =
  Option.bind (Q6 n a0 a1) fun r1 =>
  Option.bind (Vt n a0 a2 r1.1.1 r1.1.2.1) fun r2 =>
  some ((r2.1.1,(r2.1.2.1:Int),()),[]):=by kernel_rfl
@[reducible] def Qm.R:Type:=Xc [.d Za,.d (.int .i64)]×Zz
def Qm (n:Nat) (a0:(den Za)) (a1:Int) (a2:(den Z6)):Option Qm.R:=gc n 43 [.dat Za a0 [],.dat (.int .i64) a1 [],.dat Z6 a2 []] [.d Za,.d (.int .i64)]
theorem Qm.eq (n:Nat) (a0:(den Za)) (a1:Int) (a2:(den Z6)):Qm (n+1) a0 a1 a2 =
  Option.bind (Hg n a0 a1 (a2.2.2.1:Int)) fun r1 =>
  some ((r1.1.1,(r1.1.2.1:Int),()),[]):=by kernel_rfl
@[reducible] def Vi.R:Type:=Xc [.d Za,.d Xg]×Zz
def Vi (n:Nat) (a0:(den Za)) (a1:Int) (a2:(den Z6)):Option Vi.R:=gc n 69 [.dat Za a0 [],.dat (.int .i64) a1 [],.dat Z6 a2 [],.refv (.clo 43 [])] [.d Za,.d Xg]
theorem Vi.eq (n:Nat) (a0:(den Za)) (a1:Int) (a2:(den Z6)):Vi (n+1) a0 a1 a2 =
  Option.bind (Qm n a0 a1 a2) fun r1 =>
  Option.bind (Yh n (a2.1:Int) 0 (r1.1.2.1:Int)) fun r2 =>
  some ((r1.1.1,r2.1.1,()),[]):=by kernel_rfl
@[reducible] def Hn.R:Type:=Xc [.clo 104 [.refv (.clo 68 [.ref (.int .i64),.ref Za,.ref (.int .i64)]),.ref Za,.ref (.int .i64)]]×Zz
def Hn (n:Nat) (a0:(den Za)) (a1:Int) (a2:Int) (a3:(den Za)) (a4:Int):Option Hn.R:=gc n 66 [.dat Za a0 [],.dat (.int .i64) a1 [],.clo 68 [.ref (.int .i64) a2,.ref Za a3,.ref (.int .i64) a4]] [.clo 104 [.refv (.clo 68 [.ref (.int .i64),.ref Za,.ref (.int .i64)]),.ref Za,.ref (.int .i64)]]
theorem Hn.eq (n:Nat) (a0:(den Za)) (a1:Int) (a2:Int) (a3:(den Za)) (a4:Int):Hn (n+1) a0 a1 a2 a3 a4 =
  some ((((a2,a3,a4,()),a0,a1,()),()),[]):=by kernel_rfl
@[reducible] def Jp.R:Type:=Xc [.d (.int .i64)]×Zz
def Jp (n:Nat) (a0:Int) (a1:(den Za)) (a2:Int):Option Jp.R:=gc n 68 [.ref (.int .i64) a0,.ref Za a1,.ref (.int .i64) a2] [.d (.int .i64)]
theorem Jp.eq (n:Nat) (a0:Int) (a1:(den Za)) (a2:Int):Jp (n+1) a0 a1 a2 =
  bif (decide (a0<0)) then
    some ((3,()),[])
  else
    bif (decide (((List.length (a1.2.1:(List Int))):Int)≤a0)) then
      some ((3,()),[])
    else
      bif (decide (a0=a2)) then
        some ((12,()),[])
      else
        if (0:Int)≤a0∧a0<(((List.length (a1.2.1:(List Int))):Nat):Int) then
        if (0:Int)≤a2∧a2<(((List.length (a1.2.1:(List Int))):Nat):Int) then
        bif (!(decide ((List.getD (a1.2.1:(List Int)) (Int.toNat a0) (0:Int):Int)=(List.getD (a1.2.1:(List Int)) (Int.toNat a2) (0:Int):Int)))) then
          some ((5,()),[])
        else
          some ((0,()),[])
        else none
        else none:=by kernel_rfl
@[reducible] def Vc.R:Type:=Xc [.d (.int .i64),.d .bool]×Zz
def Vc (n:Nat) (a0:(den Za)) (a1:Int) (a2:Int):Option Vc.R:=gc n 105 [.dat Za a0 [],.dat (.int .i64) a1 [],.dat (.int .i64) a2 []] [.d (.int .i64),.d .bool]
theorem Vc.eq (n:Nat) (a0:(den Za)) (a1:Int) (a2:Int):Vc (n+1) a0 a1 a2 =
  if (0:Int)≤a1∧a1<(((List.length (a0.1.1:(List (List Int)))):Nat):Int) then
  if (0:Int)≤a2∧a2<((4:Nat):Int) then
  some (((if (List.getD (List.getD (a0.1.1:(List (List Int))) (Int.toNat a1) (dft (.arr 4 (.int .i64))):(List Int)) (Int.toNat a2) (0:Int):Int)<0 then 0 else (List.getD (List.getD (a0.1.1:(List (List Int))) (Int.toNat a1) (dft (.arr 4 (.int .i64))):(List Int)) (Int.toNat a2) (0:Int):Int)),(decide (0≤(List.getD (List.getD (a0.1.1:(List (List Int))) (Int.toNat a1) (dft (.arr 4 (.int .i64))):(List Int)) (Int.toNat a2) (0:Int):Int))),()),[])
  else none
  else none:=by kernel_rfl
@[reducible] def Kh.R:Type:=Xc [.d Za,.d (.int .i64),.d (.int .i64)]×Zz
def Kh (n:Nat) (a0:Int) (a1:Int) (a2:(den Za)) (a3:Int) (a4:(den Za)) (a5:Int):Option Kh.R:=gc n 104 [.dat (.int .i64) a0 [],.refv (.clo 68 [.ref (.int .i64) a1,.ref Za a2,.ref (.int .i64) a3]),.ref Za a4,.ref (.int .i64) a5] [.d Za,.d (.int .i64),.d (.int .i64)]
theorem Kh.eq (n:Nat) (a0:Int) (a1:Int) (a2:(den Za)) (a3:Int) (a4:(den Za)) (a5:Int):Kh (n+1) a0 a1 a2 a3 a4 a5 =
  Option.bind (Jp n a1 a2 a3) fun r1 =>
  bif (!(decide ((r1.1.1:Int)=0))) then
    some ((a4,0,(r1.1.1:Int),()),[])
  else
    if (0:Int)≤a0∧a0<(((List.length (a4.2.1:(List Int))):Nat):Int) then
    Option.bind (Vc n a4 (List.getD (a4.2.1:(List Int)) (Int.toNat a0) (0:Int):Int) a5) fun r2 =>
    bif (!(r2.1.2.1:Bool)) then
      some ((a4,0,4,()),[])
    else
      Option.bind (Jh n a4) fun r3 =>
      bif (Zq r3.2 [((0,[1]),2)]) then
        if (0:Int)≤a0∧a0<(((List.length (r3.1.1.2.1:(List Int))):Nat):Int) then
        some (((r3.1.1.1,(List.set (r3.1.1.2.1:(List Int)) (Int.toNat a0) (r2.1.1:Int):(List Int)),(r3.1.1.2.2.1:(List Int)),(r3.1.1.2.2.2.1:(List (den Zb))),()),(r2.1.1:Int),0,()),[(0,[1])])
        else none
      else
        none
    else none:=by kernel_rfl
@[reducible] def Kg.R:Type:=Xc [.d Za,.d (.int .i64),.d (.int .i64)]×Zz
def Kg (n:Nat) (a0:(den Za)) (a1:Int) (a2:Int) (a3:Int):Option Kg.R:=gc n 41 [.dat Za a0 [],.dat (.int .i64) a1 [],.dat (.int .i64) a2 [],.dat (.int .i64) a3 []] [.d Za,.d (.int .i64),.d (.int .i64)]
theorem Kg.eq (n:Nat) (a0:(den Za)) (a1:Int) (a2:Int) (a3:Int):Kg (n+1) a0 a1 a2 a3 =
  Option.bind (Hn n a0 a3 a2 a0 a1) fun r1 =>
  Option.bind (Kh n a2 (r1.1.1.1.1:Int) r1.1.1.1.2.1 (r1.1.1.1.2.2.1:Int) r1.1.1.2.1 (r1.1.1.2.2.1:Int)) fun r2 =>
  some ((r2.1.1,(r2.1.2.1:Int),(r2.1.2.2.1:Int),()),[]):=by kernel_rfl
@[reducible] def Ql.R:Type:=Xc [.d Za,.d (.int .i64),.d (.int .i64)]×Zz
def Ql (n:Nat) (a0:(den Za)) (a1:Int) (a2:(den Z6)):Option Ql.R:=gc n 40 [.dat Za a0 [],.dat (.int .i64) a1 [],.dat Z6 a2 []] [.d Za,.d (.int .i64),.d (.int .i64)]
theorem Ql.eq (n:Nat) (a0:(den Za)) (a1:Int) (a2:(den Z6)):Ql (n+1) a0 a1 a2 =
  Option.bind (Kg n a0 a1 (a2.2.2.2.2.1:Int) (a2.2.1:Int)) fun r1 =>
  some ((r1.1.1,(r1.1.2.1:Int),(r1.1.2.2.1:Int),()),[]):=by kernel_rfl
@[reducible] def Qr.R:Type:=Xc [.d Za,.d Xg]×Zz
def Qr (n:Nat) (a0:(den Za)) (a1:Int) (a2:(den Z6)):Option Qr.R:=gc n 64 [.dat Za a0 [],.dat (.int .i64) a1 [],.dat Z6 a2 [],.refv (.clo 40 [])] [.d Za,.d Xg]
theorem Qr.eq (n:Nat) (a0:(den Za)) (a1:Int) (a2:(den Z6)):Qr (n+1) a0 a1 a2 =
  Option.bind (Ql n a0 a1 a2) fun r1 =>
  Option.bind (Yh n (a2.1:Int) (r1.1.2.1:Int) (r1.1.2.2.1:Int)) fun r2 =>
  some ((r1.1.1,r2.1.1,()),[]):=by kernel_rfl
@[reducible] def V1.R:Type:=Xc [.clo 104 [.refv (.clo 67 []),.ref Za,.ref (.int .i64)]]×Zz
def V1 (n:Nat) (a0:(den Za)) (a1:Int):Option V1.R:=gc n 66 [.dat Za a0 [],.dat (.int .i64) a1 [],.clo 67 []] [.clo 104 [.refv (.clo 67 []),.ref Za,.ref (.int .i64)]]
theorem V1.eq (n:Nat) (a0:(den Za)) (a1:Int):V1 (n+1) a0 a1 =
  some ((((()),a0,a1,()),()),[]):=by kernel_rfl
@[reducible] def J8.R:Type:=Xc [.d (.int .i64)]×Zz
def J8 (n:Nat):Option J8.R:=gc n 67 [] [.d (.int .i64)]
theorem J8.eq (n:Nat):J8 (n+1) =
  some ((0,()),[]):=by kernel_rfl
@[reducible] def Q0.R:Type:=Xc [.d Za,.d (.int .i64),.d (.int .i64)]×Zz
def Q0 (n:Nat) (a0:Int) (a1:(den Za)) (a2:Int):Option Q0.R:=gc n 104 [.dat (.int .i64) a0 [],.refv (.clo 67 []),.ref Za a1,.ref (.int .i64) a2] [.d Za,.d (.int .i64),.d (.int .i64)]
theorem Q0.eq (n:Nat) (a0:Int) (a1:(den Za)) (a2:Int):Q0 (n+1) a0 a1 a2 =
  Option.bind (J8 n) fun r1 =>
  bif (!(decide ((r1.1.1:Int)=0))) then
    some ((a1,0,(r1.1.1:Int),()),[])
  else
    if (0:Int)≤a0∧a0<(((List.length (a1.2.1:(List Int))):Nat):Int) then
    Option.bind (Vc n a1 (List.getD (a1.2.1:(List Int)) (Int.toNat a0) (0:Int):Int) a2) fun r2 =>
    bif (!(r2.1.2.1:Bool)) then
      some ((a1,0,4,()),[])
    else
      Option.bind (Jh n a1) fun r3 =>
      bif (Zq r3.2 [((0,[1]),2)]) then
        if (0:Int)≤a0∧a0<(((List.length (r3.1.1.2.1:(List Int))):Nat):Int) then
        some (((r3.1.1.1,(List.set (r3.1.1.2.1:(List Int)) (Int.toNat a0) (r2.1.1:Int):(List Int)),(r3.1.1.2.2.1:(List Int)),(r3.1.1.2.2.2.1:(List (den Zb))),()),(r2.1.1:Int),0,()),[(0,[1])])
        else none
      else
        none
    else none:=by kernel_rfl
@[reducible] def Kf.R:Type:=Xc [.d Za,.d (.int .i64),.d (.int .i64)]×Zz
def Kf (n:Nat) (a0:(den Za)) (a1:Int) (a2:Int):Option Kf.R:=gc n 39 [.dat Za a0 [],.dat (.int .i64) a1 [],.dat (.int .i64) a2 []] [.d Za,.d (.int .i64),.d (.int .i64)]
theorem Kf.eq (n:Nat) (a0:(den Za)) (a1:Int) (a2:Int):Kf (n+1) a0 a1 a2 =
  Option.bind (V1 n a0 a2) fun r1 =>
  Option.bind (Q0 n a1 r1.1.1.2.1 (r1.1.1.2.2.1:Int)) fun r2 =>
  some ((r2.1.1,(r2.1.2.1:Int),(r2.1.2.2.1:Int),()),[]):=by kernel_rfl
@[reducible] def Qk.R:Type:=Xc [.d Za,.d (.int .i64),.d (.int .i64)]×Zz
def Qk (n:Nat) (a0:(den Za)) (a1:Int) (a2:(den Z6)):Option Qk.R:=gc n 38 [.dat Za a0 [],.dat (.int .i64) a1 [],.dat Z6 a2 []] [.d Za,.d (.int .i64),.d (.int .i64)]
theorem Qk.eq (n:Nat) (a0:(den Za)) (a1:Int) (a2:(den Z6)):Qk (n+1) a0 a1 a2 =
  Option.bind (Kf n a0 a1 (a2.2.1:Int)) fun r1 =>
  some ((r1.1.1,(r1.1.2.1:Int),(r1.1.2.2.1:Int),()),[]):=by kernel_rfl
@[reducible] def Vd.R:Type:=Xc [.d Za,.d Xg]×Zz
def Vd (n:Nat) (a0:(den Za)) (a1:Int) (a2:(den Z6)):Option Vd.R:=gc n 64 [.dat Za a0 [],.dat (.int .i64) a1 [],.dat Z6 a2 [],.refv (.clo 38 [])] [.d Za,.d Xg]
theorem Vd.eq (n:Nat) (a0:(den Za)) (a1:Int) (a2:(den Z6)):Vd (n+1) a0 a1 a2 =
  Option.bind (Qk n a0 a1 a2) fun r1 =>
  Option.bind (Yh n (a2.1:Int) (r1.1.2.1:Int) (r1.1.2.2.1:Int)) fun r2 =>
  some ((r1.1.1,r2.1.1,()),[]):=by kernel_rfl
@[reducible] def Js.R:Type:=Xc [.d Za,.d Xg]×Zz
def Js (n:Nat) (a0:(den Za)) (a1:Int) (a2:(den Z6)):Option Js.R:=gc n 9 [.dat Za a0 [],.dat (.int .i64) a1 [],.dat Z6 a2 []] [.d Za,.d Xg]
theorem Js.eq (n:Nat) (a0:(den Za)) (a1:Int) (a2:(den Z6)):Js (n+1) a0 a1 a2 =
  Option.bind (K6 n a2) fun r1 =>
  bif (!(r1.1.1:Bool)) then
    some ((a0,(2,0,0,([]:List Int),([]:List (den Kq)),0,()),()),[])
  else
    Option.bind (Tl n) fun r2 =>
    bif (decide ((a2.1:Int)=1)) then
      Option.bind (Vd n a0 a1 a2) fun r12 =>
      some ((r12.1.1,r12.1.2.1,()),[])
    else
      bif (decide ((a2.1:Int)=2)) then
        Option.bind (Qr n a0 a1 a2) fun r11 =>
        some ((r11.1.1,r11.1.2.1,()),[])
      else
        bif (decide ((a2.1:Int)=3)) then
          Option.bind (Vi n a0 a1 a2) fun r10 =>
          some ((r10.1.1,r10.1.2.1,()),[])
        else
          bif (decide ((a2.1:Int)=4)) then
            Option.bind (Vh n a0 a1 a2) fun r9 =>
            some ((r9.1.1,r9.1.2.1,()),[])
          else
            bif (decide ((a2.1:Int)=5)) then
              Option.bind (Vg n a0 a1 a2) fun r8 =>
              some ((r8.1.1,r8.1.2.1,()),[])
            else
              bif (decide ((a2.1:Int)=6)) then
                Option.bind (Vf n a0 a1 a2) fun r7 =>
                some ((r7.1.1,r7.1.2.1,()),[])
              else
                bif (decide ((a2.1:Int)=7)) then
                  Option.bind (Ve n a0 a1 a2) fun r6 =>
                  some ((r6.1.1,r6.1.2.1,()),[])
                else
                  bif (decide ((a2.1:Int)=8)) then
                    Option.bind (Qs n a0 a1 a2) fun r5 =>
                    some ((r5.1.1,r5.1.2.1,()),[])
                  else
                    bif (decide ((a2.1:Int)=9)) then
                      Option.bind (Jy n a0 a1 a2) fun r4 =>
                      some ((r4.1.1,r4.1.2.1,()),[])
                    else
                      bif (decide ((a2.1:Int)=10)) then
                        Option.bind (Y4 n a0 a1 a2) fun r3 =>
                        some ((r3.1.1,r3.1.2.1,()),[])
                      else
                        none:=by kernel_rfl
def Zt.res:List Sh:=[.d .bool]
@[reducible] def Zt.R:Type:=Xc [.d .bool]×Zz
def Zt (n:Nat) (a0:(den Za)) (a1:Int) (a2:(den Z6)) (a3:Int):Option Zt.R:=gc n 3 [.dat Za a0 [],.dat (.int .u8) a1 [],.dat Z6 a2 [],.dat (.int .u8) a3 []] [.d .bool]
def Zt.l0 (n m0:Nat) (t0:(den Za)) (t1:Int) (t2:(den Z6)) (t3:Int) (t8:Bool) (t11:(List (den Zi))) (t12:Int) (t14:Int) (o0:(den Za)) (o1:(den Z6)) (o2:(den Za)) (o3:(den Xg)) (o4:(den Za)):Option Zt.R :=
  lpN n ARw m0 (Ja 0 (Qh (run (gc n) n) ARv (Xa Zt.fn Zt.res) (Xa Zt.fn Zt.res)) (Xa Zt.fn Zt.res))
    [(0,.dat Za t0 []),(1,.dat (.int .u8) t1 []),(2,.dat Z6 t2 []),(3,.dat (.int .u8) t3 []),(4,.ptr 0 []),(6,.ptr 1 []),(8,.dat .bool t8 []),(9,.ptr 2 []),(10,.ptr 3 []),(11,.dat (.sl Zi) t11 []),(12,.dat (.int .i64) t12 []),(13,.ptr 4 []),(14,.dat (.int .i64) t14 [])]
    [.box Za o0 [],.box Z6 o1 [],.box Za o2 [],.box Xg o3 [],.box Za o4 []]
theorem Zt.l0_eq (n m0:Nat) (t0:(den Za)) (t1:Int) (t2:(den Z6)) (t3:Int) (t8:Bool) (t11:(List (den Zi))) (t12:Int) (t14:Int) (o0:(den Za)) (o1:(den Z6)) (o2:(den Za)) (o3:(den Xg)) (o4:(den Za)):Zt.l0 n (m0+1) t0 t1 t2 t3 t8 t11 t12 t14 o0 o1 o2 o3 o4 =
  bif (decide (t14<((List.length t11):Int))) then
    if (0:Int)≤t14∧t14<(((List.length t11):Nat):Int) then
    Option.bind (Gn n o0 (List.getD t11 (Int.toNat t14) (dft Zi):(den Zi))) fun r21 =>
    Option.bind (Zn n r21.1.1 o0) fun r22 =>
    bif (r22.1.1:Bool) then
      some ((false,()),[])
    else
      Zt.l0 n m0 t0 t1 t2 t3 t8 t11 t12 (IntKind.wrap .i64 (t14+1)) o0 o1 o2 o3 o4
    else none
  else
    some ((true,()),[]):=by kernel_rfl
theorem Zt.eq (n:Nat) (a0:(den Za)) (a1:Int) (a2:(den Z6)) (a3:Int):Zt (n+1) a0 a1 a2 a3 =
  Option.bind (Xy n) fun r1 =>
  bif (!(r1.1.1:Bool)) then
    Option.bind (Xy n) fun r2 =>
    some (((r2.1.1:Bool),()),[])
  else
    Option.bind (X3 n a0) fun r3 =>
    bif (!(r3.1.1:Bool)) then
      Option.bind (Xy n) fun r4 =>
      some (((r4.1.1:Bool),()),[])
    else
      Option.bind (Zg n a0) fun r5 =>
      bif (!(r5.1.1:Bool)) then
        Option.bind (Xy n) fun r6 =>
        some (((r6.1.1:Bool),()),[])
      else
        Option.bind (Ye n a2) fun r7 =>
        bif (!(r7.1.1:Bool)) then
          Option.bind (Xy n) fun r8 =>
          some (((r8.1.1:Bool),()),[])
        else
          Option.bind (X6 n a2) fun r9 =>
          bif (!(r9.1.1:Bool)) then
            Option.bind (Xy n) fun r10 =>
            some (((r10.1.1:Bool),()),[])
          else
            if ((List.length (a0.2.1:(List Int))):Int)=0 then none else
            Option.bind (Js n a0 (Int.tmod (IntKind.wrap .i64 (a1)) ((List.length (a0.2.1:(List Int))):Int)) a2) fun r11 =>
            Option.bind (Z3 n a0 r11.1.1) fun r12 =>
            Option.bind (Uj n a0 (r12.1.1:(List (den Zi)))) fun r13 =>
            Option.bind (Zn n r13.1.1 r11.1.1) fun r14 =>
            bif (!(r14.1.1:Bool)) then
              some ((false,()),[])
            else
              Option.bind (Z3 n a0 a0) fun r15 =>
              bif (!(decide (((List.length (r15.1.1:(List (den Zi)))):Int)=0))) then
                some ((false,()),[])
              else
                bif (!(decide ((r11.1.2.1.1:Int)=0))) then
                  bif (!(decide (((List.length (r12.1.1:(List (den Zi)))):Int)=0))) then
                    some ((false,()),[])
                  else
                    if (IntKind.wrap .i64 (((List.length (r12.1.1:(List (den Zi)))):Int)+1))=0 then none else
                    if (0:Int)≤(0:Int)∧(0:Int)≤(Int.tmod (IntKind.wrap .i64 (a3)) (IntKind.wrap .i64 (((List.length (r12.1.1:(List (den Zi)))):Int)+1)))∧(Int.tmod (IntKind.wrap .i64 (a3)) (IntKind.wrap .i64 (((List.length (r12.1.1:(List (den Zi)))):Int)+1)))≤((List.length (r12.1.1:(List (den Zi))):Nat):Int) then
                    Option.bind (Uj n a0 (List.drop (Int.toNat (0:Int)) (List.take (Int.toNat (Int.tmod (IntKind.wrap .i64 (a3)) (IntKind.wrap .i64 (((List.length (r12.1.1:(List (den Zi)))):Int)+1)))) (r12.1.1:(List (den Zi)))):(List (den Zi)))) fun r16 =>
                    if (0:Int)≤(Int.tmod (IntKind.wrap .i64 (a3)) (IntKind.wrap .i64 (((List.length (r12.1.1:(List (den Zi)))):Int)+1)))∧(Int.tmod (IntKind.wrap .i64 (a3)) (IntKind.wrap .i64 (((List.length (r12.1.1:(List (den Zi)))):Int)+1)))≤((List.length (r12.1.1:(List (den Zi))):Nat):Int)∧((List.length (r12.1.1:(List (den Zi))):Nat):Int)≤((List.length (r12.1.1:(List (den Zi))):Nat):Int) then
                    Option.bind (Uj n r16.1.1 (List.drop (Int.toNat (Int.tmod (IntKind.wrap .i64 (a3)) (IntKind.wrap .i64 (((List.length (r12.1.1:(List (den Zi)))):Int)+1)))) (List.take (Int.toNat ((List.length (r12.1.1:(List (den Zi))):Nat):Int)) (r12.1.1:(List (den Zi)))):(List (den Zi)))) fun r17 =>
                    Option.bind (Zn n r17.1.1 r11.1.1) fun r18 =>
                    bif (!(r18.1.1:Bool)) then
                      some ((false,()),[])
                    else
                      Option.bind (Z3 n r16.1.1 r11.1.1) fun r19 =>
                      if (0:Int)≤(Int.tmod (IntKind.wrap .i64 (a3)) (IntKind.wrap .i64 (((List.length (r12.1.1:(List (den Zi)))):Int)+1)))∧(Int.tmod (IntKind.wrap .i64 (a3)) (IntKind.wrap .i64 (((List.length (r12.1.1:(List (den Zi)))):Int)+1)))≤((List.length (r12.1.1:(List (den Zi))):Nat):Int)∧((List.length (r12.1.1:(List (den Zi))):Nat):Int)≤((List.length (r12.1.1:(List (den Zi))):Nat):Int) then
                      Option.bind (Z1 n (r19.1.1:(List (den Zi))) (List.drop (Int.toNat (Int.tmod (IntKind.wrap .i64 (a3)) (IntKind.wrap .i64 (((List.length (r12.1.1:(List (den Zi)))):Int)+1)))) (List.take (Int.toNat ((List.length (r12.1.1:(List (den Zi))):Nat):Int)) (r12.1.1:(List (den Zi)))):(List (den Zi)))) fun r20 =>
                      bif (!(r20.1.1:Bool)) then
                        some ((false,()),[])
                      else
                        Zt.l0 n n a0 a1 a2 a3 false (r12.1.1:(List (den Zi))) (Int.tmod (IntKind.wrap .i64 (a3)) (IntKind.wrap .i64 (((List.length (r12.1.1:(List (den Zi)))):Int)+1))) 0 a0 a2 r11.1.1 r11.1.2.1 r16.1.1
                      else none
                    else none
                    else none
                else
                  if (IntKind.wrap .i64 (((List.length (r12.1.1:(List (den Zi)))):Int)+1))=0 then none else
                  if (0:Int)≤(0:Int)∧(0:Int)≤(Int.tmod (IntKind.wrap .i64 (a3)) (IntKind.wrap .i64 (((List.length (r12.1.1:(List (den Zi)))):Int)+1)))∧(Int.tmod (IntKind.wrap .i64 (a3)) (IntKind.wrap .i64 (((List.length (r12.1.1:(List (den Zi)))):Int)+1)))≤((List.length (r12.1.1:(List (den Zi))):Nat):Int) then
                  Option.bind (Uj n a0 (List.drop (Int.toNat (0:Int)) (List.take (Int.toNat (Int.tmod (IntKind.wrap .i64 (a3)) (IntKind.wrap .i64 (((List.length (r12.1.1:(List (den Zi)))):Int)+1)))) (r12.1.1:(List (den Zi)))):(List (den Zi)))) fun r23 =>
                  if (0:Int)≤(Int.tmod (IntKind.wrap .i64 (a3)) (IntKind.wrap .i64 (((List.length (r12.1.1:(List (den Zi)))):Int)+1)))∧(Int.tmod (IntKind.wrap .i64 (a3)) (IntKind.wrap .i64 (((List.length (r12.1.1:(List (den Zi)))):Int)+1)))≤((List.length (r12.1.1:(List (den Zi))):Nat):Int)∧((List.length (r12.1.1:(List (den Zi))):Nat):Int)≤((List.length (r12.1.1:(List (den Zi))):Nat):Int) then
                  Option.bind (Uj n r23.1.1 (List.drop (Int.toNat (Int.tmod (IntKind.wrap .i64 (a3)) (IntKind.wrap .i64 (((List.length (r12.1.1:(List (den Zi)))):Int)+1)))) (List.take (Int.toNat ((List.length (r12.1.1:(List (den Zi))):Nat):Int)) (r12.1.1:(List (den Zi)))):(List (den Zi)))) fun r24 =>
                  Option.bind (Zn n r24.1.1 r11.1.1) fun r25 =>
                  bif (!(r25.1.1:Bool)) then
                    some ((false,()),[])
                  else
                    Option.bind (Z3 n r23.1.1 r11.1.1) fun r26 =>
                    if (0:Int)≤(Int.tmod (IntKind.wrap .i64 (a3)) (IntKind.wrap .i64 (((List.length (r12.1.1:(List (den Zi)))):Int)+1)))∧(Int.tmod (IntKind.wrap .i64 (a3)) (IntKind.wrap .i64 (((List.length (r12.1.1:(List (den Zi)))):Int)+1)))≤((List.length (r12.1.1:(List (den Zi))):Nat):Int)∧((List.length (r12.1.1:(List (den Zi))):Nat):Int)≤((List.length (r12.1.1:(List (den Zi))):Nat):Int) then
                    Option.bind (Z1 n (r26.1.1:(List (den Zi))) (List.drop (Int.toNat (Int.tmod (IntKind.wrap .i64 (a3)) (IntKind.wrap .i64 (((List.length (r12.1.1:(List (den Zi)))):Int)+1)))) (List.take (Int.toNat ((List.length (r12.1.1:(List (den Zi))):Nat):Int)) (r12.1.1:(List (den Zi)))):(List (den Zi)))) fun r27 =>
                    bif (!(r27.1.1:Bool)) then
                      some ((false,()),[])
                    else
                      Zt.l0 n n a0 a1 a2 a3 false (r12.1.1:(List (den Zi))) (Int.tmod (IntKind.wrap .i64 (a3)) (IntKind.wrap .i64 (((List.length (r12.1.1:(List (den Zi)))):Int)+1))) 0 a0 a2 r11.1.1 r11.1.2.1 r23.1.1
                    else none
                  else none
                  else none:=by kernel_rfl
end Go.Proofs.YtjobjooccgledaaGreatDoor.Ghost
