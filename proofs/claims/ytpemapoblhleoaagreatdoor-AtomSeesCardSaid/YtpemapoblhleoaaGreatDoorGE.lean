/- What each function and each loop comes to, one step. Conditions: none. -/
import Derived.Test.YtpemapoblhleoaaGreatDoorGSp
import Derived.KernelRfl
set_option linter.unusedVariables false
set_option linter.unusedSimpArgs false
set_option linter.unusedSectionVars false
set_option linter.unnecessarySimpa false
namespace Go.Proofs.YtpemapoblhleoaaGreatDoor.Ghost
open Go
abbrev gc (n:Nat):Calls:=Kq prog sp n
abbrev lpN {R:Type} (n:Nat) (c:Cd) (m:Nat) (K:Kt R) (s:Xn) (h:Y3):Option R:=Mk (fun Kn K s h=>run (gc n) n c Kn K s h) m K s h
@[reducible] def Jr.R:Type:=Z9 [.d Za]×Zy
def Jr (n:Nat) (a0:(den Z4)):Option Jr.R:=gc n 18 [.dat Z4 a0 []] [.d Za]
@[reducible] def Kp.R:Type:=Z9 [.d .str]×Zy
def Kp (n:Nat) (a0:(List ByteArray)) (a1:Int):Option Kp.R:=gc n 81 [.dat (.sl .str) a0 [],.dat (.int .i64) a1 []] [.d .str]
theorem Kp.eq (n:Nat) (a0:(List ByteArray)) (a1:Int):Kp (n+1) a0 a1 =
  bif (decide (a1<0)) then
    some (((⟨#[]⟩:ByteArray),()),[])
  else
    bif (decide (((List.length a0):Int)≤a1)) then
      some (((⟨#[]⟩:ByteArray),()),[])
    else
      if (0:Int)≤a1∧a1<(((List.length a0):Nat):Int) then
      some (((List.getD a0 (Int.toNat a1) (dft .str):ByteArray),()),[])
      else none:=by kernel_rfl
@[reducible] def K9.R:Type:=Z9 [.d .str]×Zy
def K9 (n:Nat) (a0:Int):Option K9.R:=gc n 45 [.dat (.int .i64) a0 []] [.d .str]
theorem K9.eq (n:Nat) (a0:Int):K9 (n+1) a0 =
  Option.bind (Kp n (Ly:(List ByteArray)) a0) fun r1 =>
  some (((r1.1.1:ByteArray),()),[]):=by kernel_rfl
@[reducible] def Y9.R:Type:=Z9 [.d Zw]×Zy
def Y9 (n:Nat) (a0:(den Zw)):Option Y9.R:=gc n 47 [.dat Zw a0 []] [.d Zw]
theorem Y9.eq (n:Nat) (a0:(den Zw)):Y9 (n+1) a0 =
  bif (decide ((a0.1:Int)=1)) then
    some ((((a0.1:Int),(a0.2.1:Int),0,0,0,([]:List Int),0,([]:List Int),0,()),()),[])
  else
    bif (decide ((a0.1:Int)=2)) then
      some ((((a0.1:Int),(a0.2.1:Int),0,0,(a0.2.2.2.2.1:Int),([]:List Int),0,([]:List Int),0,()),()),[])
    else
      bif (decide ((a0.1:Int)=3)) then
        bif (decide ((a0.1:Int)=3)) then
          some ((((a0.1:Int),0,(a0.2.2.1:Int),0,0,([]:List Int),0,([]:List Int),0,()),()),[])
        else
          bif (decide ((a0.1:Int)=5)) then
            bif (decide ((a0.1:Int)=5)) then
              some ((((a0.1:Int),0,(a0.2.2.1:Int),(a0.2.2.2.1:Int),0,([]:List Int),0,([]:List Int),0,()),()),[])
            else
              bif (decide ((a0.1:Int)=7)) then
                some ((((a0.1:Int),0,(a0.2.2.1:Int),0,(a0.2.2.2.2.1:Int),([]:List Int),0,([]:List Int),0,()),()),[])
              else
                bif (decide ((a0.1:Int)=8)) then
                  some ((((a0.1:Int),0,0,0,(a0.2.2.2.2.1:Int),(a0.2.2.2.2.2.1:(List Int)),(a0.2.2.2.2.2.2.1:Int),(a0.2.2.2.2.2.2.2.1:(List Int)),(a0.2.2.2.2.2.2.2.2.1:Int),()),()),[])
                else
                  some ((((a0.1:Int),0,0,0,0,([]:List Int),0,([]:List Int),0,()),()),[])
          else
            bif (decide ((a0.1:Int)=6)) then
              some ((((a0.1:Int),0,(a0.2.2.1:Int),(a0.2.2.2.1:Int),0,([]:List Int),0,([]:List Int),0,()),()),[])
            else
              bif (decide ((a0.1:Int)=7)) then
                some ((((a0.1:Int),0,(a0.2.2.1:Int),0,(a0.2.2.2.2.1:Int),([]:List Int),0,([]:List Int),0,()),()),[])
              else
                bif (decide ((a0.1:Int)=8)) then
                  some ((((a0.1:Int),0,0,0,(a0.2.2.2.2.1:Int),(a0.2.2.2.2.2.1:(List Int)),(a0.2.2.2.2.2.2.1:Int),(a0.2.2.2.2.2.2.2.1:(List Int)),(a0.2.2.2.2.2.2.2.2.1:Int),()),()),[])
                else
                  some ((((a0.1:Int),0,0,0,0,([]:List Int),0,([]:List Int),0,()),()),[])
      else
        bif (decide ((a0.1:Int)=4)) then
          some ((((a0.1:Int),0,(a0.2.2.1:Int),0,0,([]:List Int),0,([]:List Int),0,()),()),[])
        else
          bif (decide ((a0.1:Int)=5)) then
            bif (decide ((a0.1:Int)=5)) then
              some ((((a0.1:Int),0,(a0.2.2.1:Int),(a0.2.2.2.1:Int),0,([]:List Int),0,([]:List Int),0,()),()),[])
            else
              bif (decide ((a0.1:Int)=7)) then
                some ((((a0.1:Int),0,(a0.2.2.1:Int),0,(a0.2.2.2.2.1:Int),([]:List Int),0,([]:List Int),0,()),()),[])
              else
                bif (decide ((a0.1:Int)=8)) then
                  some ((((a0.1:Int),0,0,0,(a0.2.2.2.2.1:Int),(a0.2.2.2.2.2.1:(List Int)),(a0.2.2.2.2.2.2.1:Int),(a0.2.2.2.2.2.2.2.1:(List Int)),(a0.2.2.2.2.2.2.2.2.1:Int),()),()),[])
                else
                  some ((((a0.1:Int),0,0,0,0,([]:List Int),0,([]:List Int),0,()),()),[])
          else
            bif (decide ((a0.1:Int)=6)) then
              some ((((a0.1:Int),0,(a0.2.2.1:Int),(a0.2.2.2.1:Int),0,([]:List Int),0,([]:List Int),0,()),()),[])
            else
              bif (decide ((a0.1:Int)=7)) then
                some ((((a0.1:Int),0,(a0.2.2.1:Int),0,(a0.2.2.2.2.1:Int),([]:List Int),0,([]:List Int),0,()),()),[])
              else
                bif (decide ((a0.1:Int)=8)) then
                  some ((((a0.1:Int),0,0,0,(a0.2.2.2.2.1:Int),(a0.2.2.2.2.2.1:(List Int)),(a0.2.2.2.2.2.2.1:Int),(a0.2.2.2.2.2.2.2.1:(List Int)),(a0.2.2.2.2.2.2.2.2.1:Int),()),()),[])
                else
                  some ((((a0.1:Int),0,0,0,0,([]:List Int),0,([]:List Int),0,()),()),[]):=by kernel_rfl
@[reducible] def Ue.R:Type:=Z9 [.d G9]×Zy
def Ue (n:Nat) (a0:(den Zw)):Option Ue.R:=gc n 82 [.dat Zw a0 []] [.d G9]
theorem Ue.eq (n:Nat) (a0:(den Zw)):Ue (n+1) a0 =
  some ((((a0.1:Int),(a0.2.1:Int),(a0.2.2.1:Int),(a0.2.2.2.1:Int),(a0.2.2.2.2.1:Int),(a0.2.2.2.2.2.2.1:Int),(a0.2.2.2.2.2.2.2.2.1:Int),()),()),[]):=by kernel_rfl
def Zo.res:List Sh:=[.d .bool]
@[reducible] def Zo.R:Type:=Z9 [.d .bool]×Zy
def Zo (n:Nat) (a0:(List Int)) (a1:(List Int)):Option Zo.R:=gc n 83 [.dat (.sl (.int .i64)) a0 [],.dat (.sl (.int .i64)) a1 []] [.d .bool]
def Zo.l0 (n m0:Nat) (t0:(List Int)) (t1:(List Int)) (t4:Bool) (t12:Int) (t13:Int):Option Zo.R :=
  lpN n AKs m0 (Jy 0 (Jc (run (gc n) n) ARm (Xd Zo.fn Zo.res) (Xd Zo.fn Zo.res)) (Xd Zo.fn Zo.res))
    [(0,.dat (.sl (.int .i64)) t0 []),(1,.dat (.sl (.int .i64)) t1 []),(4,.dat .bool t4 []),(12,.dat (.int .i64) t12 []),(13,.dat (.int .i64) t13 [])]
    []
theorem Zo.l0_eq (n m0:Nat) (t0:(List Int)) (t1:(List Int)) (t4:Bool) (t12:Int) (t13:Int):Zo.l0 n (m0+1) t0 t1 t4 t12 t13 =
  bif (decide (t13<t12)) then
    if (0:Int)≤t13∧t13<(((List.length t0):Nat):Int) then
    if (0:Int)≤t13∧t13<(((List.length t1):Nat):Int) then
    bif (!(decide ((List.getD t0 (Int.toNat t13) (0:Int):Int)=(List.getD t1 (Int.toNat t13) (0:Int):Int)))) then
      some ((false,()),[])
    else
      Zo.l0 n m0 t0 t1 t4 t12 (IntKind.wrap .i64 (t13+1))
    else none
    else none
  else
    some ((true,()),[]):=by kernel_rfl
theorem Zo.eq (n:Nat) (a0:(List Int)) (a1:(List Int)):Zo (n+1) a0 a1 =
  bif (!(decide (((List.length a0):Int)=((List.length a1):Int)))) then
    some ((false,()),[])
  else
    Zo.l0 n n a0 a1 false ((List.length a0):Int) 0:=by kernel_rfl
@[reducible] def Ha.R:Type:=Z9 [.d .bool]×Zy
def Ha (n:Nat) (a0:(den Zw)) (a1:(den Zw)):Option Ha.R:=gc n 46 [.dat Zw a0 [],.dat Zw a1 []] [.d .bool]
theorem Ha.eq (n:Nat) (a0:(den Zw)) (a1:(den Zw)):Ha (n+1) a0 a1 =
  Option.bind (Ue n a0) fun r1 =>
  Option.bind (Ue n a1) fun r2 =>
  bif (eqT G9 r1.1.1 r2.1.1) then
    Option.bind (Zo n (a0.2.2.2.2.2.1:(List Int)) (a1.2.2.2.2.2.1:(List Int))) fun r3 =>
    bif (r3.1.1:Bool) then
      Option.bind (Zo n (a0.2.2.2.2.2.2.2.1:(List Int)) (a1.2.2.2.2.2.2.2.1:(List Int))) fun r4 =>
      some (((r4.1.1:Bool),()),[])
    else
      some ((false,()),[])
  else
    some ((false,()),[]):=by kernel_rfl
@[reducible] def Gg.R:Type:=Z9 [.d .str]×Zy
def Gg (n:Nat) (a0:Int):Option Gg.R:=gc n 48 [.dat (.int .i64) a0 []] [.d .str]
theorem Gg.eq (n:Nat) (a0:Int):Gg (n+1) a0 =
  Option.bind (Kp n (Lz:(List ByteArray)) a0) fun r1 =>
  some (((r1.1.1:ByteArray),()),[]):=by kernel_rfl
@[reducible] def Ka.R:Type:=Z9 [.d .bool]×Zy
def Ka (n:Nat) (a0:Int):Option Ka.R:=gc n 49 [.dat (.int .i64) a0 []] [.d .bool]
theorem Ka.eq (n:Nat) (a0:Int):Ka (n+1) a0 =
  bif (decide (0≤a0)) then
    some (((decide (a0≤1073741824)),()),[])
  else
    some ((false,()),[]):=by kernel_rfl
@[reducible] def V2.R:Type:=Z9 [.d .bool]×Zy
def V2 (n:Nat) (a0:Int):Option V2.R:=gc n 85 [.dat (.int .i64) a0 []] [.d .bool]
theorem V2.eq (n:Nat) (a0:Int):V2 (n+1) a0 =
  Option.bind (Ka n a0) fun r1 =>
  some (((!(r1.1.1:Bool)),()),[]):=by kernel_rfl
def Zt.res:List Sh:=[.d (.int .i64)]
@[reducible] def Zt.R:Type:=Z9 [.d (.int .i64)]×Zy
def Zt (n:Nat) (a0:(List Int)):Option Zt.R:=gc n 127 [.dat (.sl (.int .i64)) a0 [],.clo 85 []] [.d (.int .i64)]
def Zt.l0 (n m0:Nat) (t0:(List Int)) (t4:Int) (t7:Int) (t8:Int):Option Zt.R :=
  lpN n ABg m0 (Jy 0 (Jc (run (gc n) n) ABf (Xd Zk.fn Zt.res) (Xd Zk.fn Zt.res)) (Xd Zk.fn Zt.res))
    [(0,.dat (.sl (.int .i64)) t0 []),(1,.clo 85 []),(4,.dat (.int .i64) t4 []),(7,.dat (.int .i64) t7 []),(8,.dat (.int .i64) t8 [])]
    []
theorem Zt.l0_eq (n m0:Nat) (t0:(List Int)) (t4:Int) (t7:Int) (t8:Int):Zt.l0 n (m0+1) t0 t4 t7 t8 =
  bif (decide (t8<t7)) then
    if (0:Int)≤t8∧t8<(((List.length t0):Nat):Int) then
    Option.bind (V2 n (List.getD t0 (Int.toNat t8) (0:Int):Int)) fun r1 =>
    bif (r1.1.1:Bool) then
      some ((t8,()),[])
    else
      Zt.l0 n m0 t0 t4 t7 (IntKind.wrap .i64 (t8+1))
    else none
  else
    some (((-1),()),[]):=by kernel_rfl
theorem Zt.eq (n:Nat) (a0:(List Int)):Zt (n+1) a0 =
  Zt.l0 n n a0 0 ((List.length a0):Int) 0:=by kernel_rfl
@[reducible] def Xt.R:Type:=Z9 [.d .bool]×Zy
def Xt (n:Nat) (a0:(List Int)):Option Xt.R:=gc n 84 [.dat (.sl (.int .i64)) a0 [],.clo 85 []] [.d .bool]
theorem Xt.eq (n:Nat) (a0:(List Int)):Xt (n+1) a0 =
  Option.bind (Zt n a0) fun r1 =>
  some (((decide (0≤(r1.1.1:Int))),()),[]):=by kernel_rfl
@[reducible] def Hy.R:Type:=Z9 [.d .bool]×Zy
def Hy (n:Nat) (a0:(List Int)):Option Hy.R:=gc n 50 [.dat (.sl (.int .i64)) a0 []] [.d .bool]
theorem Hy.eq (n:Nat) (a0:(List Int)):Hy (n+1) a0 =
  bif (decide (((List.length a0):Int)≤16)) then
    Option.bind (Xt n a0) fun r1 =>
    some (((!(r1.1.1:Bool)),()),[])
  else
    some ((false,()),[]):=by kernel_rfl
@[reducible] def K1.R:Type:=Z9 [.d .bool]×Zy
def K1 (n:Nat) (a0:(den Zw)):Option K1.R:=gc n 21 [.dat Zw a0 []] [.d .bool]
theorem K1.eq (n:Nat) (a0:(den Zw)):K1 (n+1) a0 =
  Option.bind (K9 n (a0.1:Int)) fun r1 =>
  bif (!(eqT .str (r1.1.1:ByteArray) (⟨#[]⟩:ByteArray))) then
    Option.bind (Y9 n a0) fun r2 =>
    Option.bind (Ha n a0 r2.1.1) fun r3 =>
    bif (r3.1.1:Bool) then
      Option.bind (Gg n (a0.2.1:Int)) fun r4 =>
      bif (!(eqT .str (r4.1.1:ByteArray) (⟨#[]⟩:ByteArray))) then
        Option.bind (Ka n (a0.2.2.1:Int)) fun r5 =>
        bif (r5.1.1:Bool) then
          Option.bind (Ka n (a0.2.2.2.1:Int)) fun r6 =>
          bif (r6.1.1:Bool) then
            Option.bind (Ka n (a0.2.2.2.2.1:Int)) fun r7 =>
            bif (r7.1.1:Bool) then
              Option.bind (Ka n (a0.2.2.2.2.2.2.1:Int)) fun r8 =>
              bif (r8.1.1:Bool) then
                Option.bind (Ka n (a0.2.2.2.2.2.2.2.2.1:Int)) fun r9 =>
                bif (r9.1.1:Bool) then
                  Option.bind (Hy n (a0.2.2.2.2.2.1:(List Int))) fun r10 =>
                  bif (r10.1.1:Bool) then
                    Option.bind (Hy n (a0.2.2.2.2.2.2.2.1:(List Int))) fun r11 =>
                    some (((r11.1.1:Bool),()),[])
                  else
                    some ((false,()),[])
                else
                  some ((false,()),[])
              else
                some ((false,()),[])
            else
              some ((false,()),[])
          else
            some ((false,()),[])
        else
          some ((false,()),[])
      else
        some ((false,()),[])
    else
      some ((false,()),[])
  else
    some ((false,()),[]):=by kernel_rfl
@[reducible] def Ww.R:Type:=Z9 [.fmap [1,2,3,4,5,6,7,8,9,10] [.clo 86 [.refv (.clo 52 [])],.clo 86 [.refv (.clo 54 [])],.clo 91 [.refv (.clo 57 [])],.clo 91 [.refv (.clo 59 [])],.clo 91 [.refv (.clo 61 [])],.clo 91 [.refv (.clo 63 [])],.clo 91 [.refv (.clo 65 [])],.clo 91 [.refv (.clo 67 [])],.clo 123 [.refv (.clo 69 [])],.clo 123 [.refv (.clo 70 [])]]]×Zy
def Ww (n:Nat):Option Ww.R:=gc n 22 [] [.fmap [1,2,3,4,5,6,7,8,9,10] [.clo 86 [.refv (.clo 52 [])],.clo 86 [.refv (.clo 54 [])],.clo 91 [.refv (.clo 57 [])],.clo 91 [.refv (.clo 59 [])],.clo 91 [.refv (.clo 61 [])],.clo 91 [.refv (.clo 63 [])],.clo 91 [.refv (.clo 65 [])],.clo 91 [.refv (.clo 67 [])],.clo 123 [.refv (.clo 69 [])],.clo 123 [.refv (.clo 70 [])]]]
@[reducible] def H4.R:Type:=Z9 [.clo 138 [.ref Za,.ref (.int .i64)]]×Zy
def H4 (n:Nat) (a0:(den Za)) (a1:Int):Option H4.R:=gc n 131 [.dat Za a0 [],.dat (.int .i64) a1 []] [.clo 138 [.ref Za,.ref (.int .i64)]]
theorem H4.eq (n:Nat) (a0:(den Za)) (a1:Int):H4 (n+1) a0 a1 =
  some (((a0,a1,()),()),[]):=by kernel_rfl
@[reducible] def Qb.R:Type:=Z9 [.d (.sl Zb)]×Zy
def Qb (n:Nat) (a0:(den Za)) (a1:Int):Option Qb.R:=gc n 132 [.clo 138 [.ref Za a0,.ref (.int .i64) a1]] [.d (.sl Zb)]
@[reducible] def Vs.R:Type:=Z9 [.d Zb]×Zy
def Vs (n:Nat) (a0:(den Za)) (a1:Int):Option Vs.R:=gc n 130 [.dat Za a0 [],.dat (.int .i64) a1 []] [.d Zb]
theorem Vs.eq (n:Nat) (a0:(den Za)) (a1:Int):Vs (n+1) a0 a1 =
  Option.bind (H4 n a0 a1) fun r1 =>
  Option.bind (Qb n r1.1.1.1 (r1.1.1.2.1:Int)) fun r2 =>
  if (0:Int)≤(IntKind.wrap .i64 (((List.length (r2.1.1:(List (den Zb)))):Int) - 1))∧(IntKind.wrap .i64 (((List.length (r2.1.1:(List (den Zb)))):Int) - 1))<(((List.length (r2.1.1:(List (den Zb)))):Nat):Int) then
  some (((List.getD (r2.1.1:(List (den Zb))) (Int.toNat (IntKind.wrap .i64 (((List.length (r2.1.1:(List (den Zb)))):Int) - 1))) (dft Zb):(den Zb)),()),[])
  else none:=by kernel_rfl
def Xo.res:List Sh:=[.d (.sl Z2)]
@[reducible] def Xo.R:Type:=Z9 [.d (.sl Z2)]×Zy
def Xo (n:Nat) (a0:(den Za)) (a1:(den Zb)):Option Xo.R:=gc n 125 [.dat Za a0 [],.dat Zb a1 []] [.d (.sl Z2)]
def Xo.l0 (n m0:Nat) (t0:(den Za)) (t1:(den Zb)) (t4:(List (den Z2))) (t9:(List (den Zb))) (t10:Int) (t11:Int) (o0:(den Za)) (o1:(den Zb)) (o5:(List (den Z2))):Option Xo.R :=
  lpN n AJ5 m0 (Jy 0 (Jc (run (gc n) n) AJ4 (Xd Xo.fn Xo.res) (Xd Xo.fn Xo.res)) (Xd Xo.fn Xo.res))
    [(0,.dat Za t0 []),(1,.dat Zb t1 []),(2,.ptr 0 []),(3,.ptr 1 []),(4,.dat (.sl Z2) t4 []),(5,.dat (.sl Z2) ([]:List (den Z2)) [([],some 5)]),(9,.dat (.sl Zb) t9 []),(10,.dat (.int .i64) t10 []),(11,.dat (.int .i64) t11 [])]
    [.box Za o0 [],.box Zb o1 [],.none,.none,.none,.arr Z2 o5]
theorem Xo.l0_eq (n m0:Nat) (t0:(den Za)) (t1:(den Zb)) (t4:(List (den Z2))) (t9:(List (den Zb))) (t10:Int) (t11:Int) (o0:(den Za)) (o1:(den Zb)) (o5:(List (den Z2))):Xo.l0 n (m0+1) t0 t1 t4 t9 t10 t11 o0 o1 o5 =
  bif (decide (t11<t10)) then
    if (0:Int)≤t11∧t11<(((List.length t9):Nat):Int) then
    Option.bind (Vs n o0 t11) fun r1 =>
    bif (eqT Zb r1.1.1 o1) then
      if (List.length o5)+1≤1048576 then
      Xo.l0 n m0 t0 t1 t4 t9 t10 (IntKind.wrap .i64 (t11+1)) o0 o1 (o5 ++ ([(t11,(List.getD t9 (Int.toNat t11) (dft Zb):(den Zb)),())]:List (den Z2)))
      else none
    else
      Xo.l0 n m0 t0 t1 t4 t9 t10 (IntKind.wrap .i64 (t11+1)) o0 o1 o5
    else none
  else
    some ((o5,()),[(0,[])]):=by kernel_rfl
theorem Xo.eq (n:Nat) (a0:(den Za)) (a1:(den Zb)):Xo (n+1) a0 a1 =
  Xo.l0 n n a0 a1 ([]:List (den Z2)) (a0.2.2.2.1:(List (den Zb))) ((List.length (a0.2.2.2.1:(List (den Zb)))):Int) 0 a0 a1 ([]:List (den Z2)):=by kernel_rfl
@[reducible] def V6.R:Type:=Z9 [.d Zn]×Zy
def V6 (n:Nat) (a0:(den Za)) (a1:Int):Option V6.R:=gc n 70 [.dat Za a0 [],.dat (.int .i64) a1 []] [.d Zn]
theorem V6.eq (n:Nat) (a0:(den Za)) (a1:Int):V6 (n+1) a0 a1 =
  if (0:Int)≤a1∧a1<(((List.length (a0.2.2.1:(List Int))):Nat):Int) then
  Option.bind (Xo n a0 (1,a1,())) fun r1 =>
  some (((0,10,0,([]:List Int),(r1.1.1:(List (den Z2))),(List.getD (a0.2.2.1:(List Int)) (Int.toNat a1) (0:Int):Int),()),()),[])
  else none:=by kernel_rfl
@[reducible] def Yz.R:Type:=Z9 [.d Za,.d Zn]×Zy
def Yz (n:Nat) (a0:(den Za)) (a1:Int) (a2:(den Zw)):Option Yz.R:=gc n 123 [.dat Za a0 [],.dat (.int .i64) a1 [],.dat Zw a2 [],.refv (.clo 70 [])] [.d Za,.d Zn]
theorem Yz.eq (n:Nat) (a0:(den Za)) (a1:Int) (a2:(den Zw)):Yz (n+1) a0 a1 a2 =
  Option.bind (V6 n a0 a1) fun r1 =>
  some ((a0,r1.1.1,()),[]):=by kernel_rfl
def Z8.res:List Sh:=[.d (.sl (.int .i64))]
@[reducible] def Z8.R:Type:=Z9 [.d (.sl (.int .i64))]×Zy
def Z8 (n:Nat) (a0:(den Za)) (a1:Int):Option Z8.R:=gc n 124 [.dat Za a0 [],.dat (.int .i64) a1 []] [.d (.sl (.int .i64))]
def Z8.l0 (n m0:Nat) (t0:(den Za)) (t1:Int) (t4:(List Int)) (t9:Int) (t10:Int) (o0:(den Za)) (o3:(List Int)):Option Z8.R :=
  lpN n AJ3 m0 (Jy 0 (Jc (run (gc n) n) AJ2 (Xd Z8.fn Z8.res) (Xd Z8.fn Z8.res)) (Xd Z8.fn Z8.res))
    [(0,.dat Za t0 []),(1,.dat (.int .i64) t1 []),(2,.ptr 0 []),(4,.dat (.sl (.int .i64)) t4 []),(5,.dat (.sl (.int .i64)) ([]:List Int) [([],some 3)]),(9,.dat (.int .i64) t9 []),(10,.dat (.int .i64) t10 [])]
    [.box Za o0 [],.none,.none,.arr (.int .i64) o3]
theorem Z8.l0_eq (n m0:Nat) (t0:(den Za)) (t1:Int) (t4:(List Int)) (t9:Int) (t10:Int) (o0:(den Za)) (o3:(List Int)):Z8.l0 n (m0+1) t0 t1 t4 t9 t10 o0 o3 =
  bif (decide (t10<t9)) then
    if (0:Int)≤t10∧t10<(((List.length (o0.2.1:(List Int))):Nat):Int) then
    bif (decide ((List.getD (o0.2.1:(List Int)) (Int.toNat t10) (0:Int):Int)=t1)) then
      if (List.length o3)+1≤1048576 then
      Z8.l0 n m0 t0 t1 t4 t9 (IntKind.wrap .i64 (t10+1)) o0 (o3 ++ ([t10]:List Int))
      else none
    else
      Z8.l0 n m0 t0 t1 t4 t9 (IntKind.wrap .i64 (t10+1)) o0 o3
    else none
  else
    some ((o3,()),[(0,[])]):=by kernel_rfl
theorem Z8.eq (n:Nat) (a0:(den Za)) (a1:Int):Z8 (n+1) a0 a1 =
  Z8.l0 n n a0 a1 ([]:List Int) ((List.length (a0.2.1:(List Int))):Int) 0 a0 ([]:List Int):=by kernel_rfl
@[reducible] def Vh.R:Type:=Z9 [.d Zn]×Zy
def Vh (n:Nat) (a0:(den Za)) (a1:Int):Option Vh.R:=gc n 69 [.dat Za a0 [],.dat (.int .i64) a1 []] [.d Zn]
theorem Vh.eq (n:Nat) (a0:(den Za)) (a1:Int):Vh (n+1) a0 a1 =
  if (0:Int)≤a1∧a1<(((List.length (a0.2.1:(List Int))):Nat):Int) then
  Option.bind (Z8 n a0 (List.getD (a0.2.1:(List Int)) (Int.toNat a1) (0:Int):Int)) fun r1 =>
  Option.bind (Xo n a0 (0,(List.getD (a0.2.1:(List Int)) (Int.toNat a1) (0:Int):Int),())) fun r2 =>
  some (((0,9,(List.getD (a0.2.1:(List Int)) (Int.toNat a1) (0:Int):Int),(r1.1.1:(List Int)),(r2.1.1:(List (den Z2))),0,()),()),[])
  else none:=by kernel_rfl
@[reducible] def Jp.R:Type:=Z9 [.d Za,.d Zn]×Zy
def Jp (n:Nat) (a0:(den Za)) (a1:Int) (a2:(den Zw)):Option Jp.R:=gc n 123 [.dat Za a0 [],.dat (.int .i64) a1 [],.dat Zw a2 [],.refv (.clo 69 [])] [.d Za,.d Zn]
theorem Jp.eq (n:Nat) (a0:(den Za)) (a1:Int) (a2:(den Zw)):Jp (n+1) a0 a1 a2 =
  Option.bind (Vh n a0 a1) fun r1 =>
  some ((a0,r1.1.1,()),[]):=by kernel_rfl
@[reducible] def Vl.R:Type:=Z9 [.d (.sl (.int .i64))]×Zy
def Vl (n:Nat) (a0:(List (List Int))):Option Vl.R:=gc n 116 [.dat (.sl (.sl (.int .i64))) a0 []] [.d (.sl (.int .i64))]
@[reducible] def Y2.R:Type:=Z9 [.d .bool]×Zy
def Y2 (n:Nat) (a0:(den Za)) (a1:Int):Option Y2.R:=gc n 114 [.dat Za a0 [],.dat (.int .i64) a1 []] [.d .bool]
theorem Y2.eq (n:Nat) (a0:(den Za)) (a1:Int):Y2 (n+1) a0 a1 =
  bif (decide (0≤a1)) then
    some (((decide (a1<((List.length (a0.2.1:(List Int))):Int))),()),[])
  else
    some ((false,()),[]):=by kernel_rfl
@[reducible] def Ks.R:Type:=Z9 [.d .bool]×Zy
def Ks (n:Nat) (a0:(den Za)) (a1:Int):Option Ks.R:=gc n 113 [.dat Za a0 [],.dat (.int .i64) a1 []] [.d .bool]
theorem Ks.eq (n:Nat) (a0:(den Za)) (a1:Int):Ks (n+1) a0 a1 =
  bif (decide (0≤a1)) then
    some (((decide (a1<((List.length (a0.2.2.2.1:(List (den Zb)))):Int))),()),[])
  else
    some ((false,()),[]):=by kernel_rfl
@[reducible] def Y0.R:Type:=Z9 [.d .bool]×Zy
def Y0 (n:Nat) (a0:Int) (a1:(den Za)):Option Y0.R:=gc n 119 [.dat (.int .i64) a0 [],.ref Za a1] [.d .bool]
theorem Y0.eq (n:Nat) (a0:Int) (a1:(den Za)):Y0 (n+1) a0 a1 =
  Option.bind (Ks n a1 a0) fun r1 =>
  some (((!(r1.1.1:Bool)),()),[]):=by kernel_rfl
def Zk.res:List Sh:=[.d (.int .i64)]
@[reducible] def Zk.R:Type:=Z9 [.d (.int .i64)]×Zy
def Zk (n:Nat) (a0:(List Int)) (a1:(den Za)):Option Zk.R:=gc n 127 [.dat (.sl (.int .i64)) a0 [],.clo 119 [.ref Za a1]] [.d (.int .i64)]
def Zk.l0 (n m0:Nat) (t0:(List Int)) (t1:(den Za)) (t4:Int) (t7:Int) (t8:Int):Option Zk.R :=
  lpN n ABg m0 (Jy 0 (Jc (run (gc n) n) ABf (Xd Zk.fn Zk.res) (Xd Zk.fn Zk.res)) (Xd Zk.fn Zk.res))
    [(0,.dat (.sl (.int .i64)) t0 []),(1,.clo 119 [.ref Za t1]),(4,.dat (.int .i64) t4 []),(7,.dat (.int .i64) t7 []),(8,.dat (.int .i64) t8 [])]
    []
theorem Zk.l0_eq (n m0:Nat) (t0:(List Int)) (t1:(den Za)) (t4:Int) (t7:Int) (t8:Int):Zk.l0 n (m0+1) t0 t1 t4 t7 t8 =
  bif (decide (t8<t7)) then
    if (0:Int)≤t8∧t8<(((List.length t0):Nat):Int) then
    Option.bind (Y0 n (List.getD t0 (Int.toNat t8) (0:Int):Int) t1) fun r1 =>
    bif (r1.1.1:Bool) then
      some ((t8,()),[])
    else
      Zk.l0 n m0 t0 t1 t4 t7 (IntKind.wrap .i64 (t8+1))
    else none
  else
    some (((-1),()),[]):=by kernel_rfl
theorem Zk.eq (n:Nat) (a0:(List Int)) (a1:(den Za)):Zk (n+1) a0 a1 =
  Zk.l0 n n a0 a1 0 ((List.length a0):Int) 0:=by kernel_rfl
@[reducible] def Z7.R:Type:=Z9 [.d .bool]×Zy
def Z7 (n:Nat) (a0:(List Int)) (a1:(den Za)):Option Z7.R:=gc n 84 [.dat (.sl (.int .i64)) a0 [],.clo 119 [.ref Za a1]] [.d .bool]
theorem Z7.eq (n:Nat) (a0:(List Int)) (a1:(den Za)):Z7 (n+1) a0 a1 =
  Option.bind (Zk n a0 a1) fun r1 =>
  some (((decide (0≤(r1.1.1:Int))),()),[]):=by kernel_rfl
def Xk.res:List Sh:=[.d .bool]
@[reducible] def Xk.R:Type:=Z9 [.d .bool]×Zy
def Xk (n:Nat) (a0:(List Int)):Option Xk.R:=gc n 120 [.dat (.sl (.int .i64)) a0 []] [.d .bool]
def Xk.l0 (n m0:Nat) (t0:(List Int)) (t2:Bool) (t7:(List Int)) (t8:Int) (t9:Int) (o0:(List (Int×Bool))):Option Xk.R :=
  lpN n AJ1 m0 (Jy 0 (Jc (run (gc n) n) AJ0 (Xd Xk.fn Xk.res) (Xd Xk.fn Xk.res)) (Xd Xk.fn Xk.res))
    [(0,.dat (.sl (.int .i64)) t0 []),(2,.dat .bool t2 []),(3,.ptr 0 []),(7,.dat (.sl (.int .i64)) t7 []),(8,.dat (.int .i64) t8 []),(9,.dat (.int .i64) t9 [])]
    [.map (.int .i64) .bool o0]
theorem Xk.l0_eq (n m0:Nat) (t0:(List Int)) (t2:Bool) (t7:(List Int)) (t8:Int) (t9:Int) (o0:(List (Int×Bool))):Xk.l0 n (m0+1) t0 t2 t7 t8 t9 o0 =
  bif (decide (t9<t8)) then
    if (0:Int)≤t9∧t9<(((List.length t7):Nat):Int) then
    bif ((Option.getD (Yk (.int .i64) .bool (List.getD t7 (Int.toNat t9) (0:Int):Int) o0) false):Bool) then
      some ((true,()),[])
    else
      Xk.l0 n m0 t0 t2 t7 t8 (IntKind.wrap .i64 (t9+1)) (Gk (.int .i64) .bool (List.getD t7 (Int.toNat t9) (0:Int):Int) true o0)
    else none
  else
    some ((false,()),[]):=by kernel_rfl
theorem Xk.eq (n:Nat) (a0:(List Int)):Xk (n+1) a0 =
  Xk.l0 n n a0 false a0 ((List.length a0):Int) 0 []:=by kernel_rfl
@[reducible] def Yn.R:Type:=Z9 [.d Zb]×Zy
def Yn (n:Nat) (a0:Int):Option Yn.R:=gc n 115 [.dat (.int .i64) a0 []] [.d Zb]
theorem Yn.eq (n:Nat) (a0:Int):Yn (n+1) a0 =
  some (((1,a0,()),()),[]):=by kernel_rfl
@[reducible] def Yi.R:Type:=Z9 [.d .bool]×Zy
def Yi (n:Nat) (a0:Int) (a1:(den Za)) (a2:Int):Option Yi.R:=gc n 118 [.dat (.int .i64) a0 [],.ref Za a1,.ref (.int .i64) a2] [.d .bool]
theorem Yi.eq (n:Nat) (a0:Int) (a1:(den Za)) (a2:Int):Yi (n+1) a0 a1 a2 =
  if (0:Int)≤a0∧a0<(((List.length (a1.2.2.2.1:(List (den Zb)))):Nat):Int) then
  Option.bind (Yn n a2) fun r1 =>
  some (((!(eqT Zb (List.getD (a1.2.2.2.1:(List (den Zb))) (Int.toNat a0) (dft Zb):(den Zb)) r1.1.1)),()),[])
  else none:=by kernel_rfl
def Zs.res:List Sh:=[.d (.int .i64)]
@[reducible] def Zs.R:Type:=Z9 [.d (.int .i64)]×Zy
def Zs (n:Nat) (a0:(List Int)) (a1:(den Za)) (a2:Int):Option Zs.R:=gc n 127 [.dat (.sl (.int .i64)) a0 [],.clo 118 [.ref Za a1,.ref (.int .i64) a2]] [.d (.int .i64)]
def Zs.l0 (n m0:Nat) (t0:(List Int)) (t1:(den Za)) (t1':Int) (t4:Int) (t7:Int) (t8:Int):Option Zs.R :=
  lpN n ABg m0 (Jy 0 (Jc (run (gc n) n) ABf (Xd Zk.fn Zs.res) (Xd Zk.fn Zs.res)) (Xd Zk.fn Zs.res))
    [(0,.dat (.sl (.int .i64)) t0 []),(1,.clo 118 [.ref Za t1,.ref (.int .i64) t1']),(4,.dat (.int .i64) t4 []),(7,.dat (.int .i64) t7 []),(8,.dat (.int .i64) t8 [])]
    []
theorem Zs.l0_eq (n m0:Nat) (t0:(List Int)) (t1:(den Za)) (t1':Int) (t4:Int) (t7:Int) (t8:Int):Zs.l0 n (m0+1) t0 t1 t1' t4 t7 t8 =
  bif (decide (t8<t7)) then
    if (0:Int)≤t8∧t8<(((List.length t0):Nat):Int) then
    Option.bind (Yi n (List.getD t0 (Int.toNat t8) (0:Int):Int) t1 t1') fun r1 =>
    bif (r1.1.1:Bool) then
      some ((t8,()),[])
    else
      Zs.l0 n m0 t0 t1 t1' t4 t7 (IntKind.wrap .i64 (t8+1))
    else none
  else
    some (((-1),()),[]):=by kernel_rfl
theorem Zs.eq (n:Nat) (a0:(List Int)) (a1:(den Za)) (a2:Int):Zs (n+1) a0 a1 a2 =
  Zs.l0 n n a0 a1 a2 0 ((List.length a0):Int) 0:=by kernel_rfl
@[reducible] def Xs.R:Type:=Z9 [.d .bool]×Zy
def Xs (n:Nat) (a0:(List Int)) (a1:(den Za)) (a2:Int):Option Xs.R:=gc n 84 [.dat (.sl (.int .i64)) a0 [],.clo 118 [.ref Za a1,.ref (.int .i64) a2]] [.d .bool]
theorem Xs.eq (n:Nat) (a0:(List Int)) (a1:(den Za)) (a2:Int):Xs (n+1) a0 a1 a2 =
  Option.bind (Zs n a0 a1 a2) fun r1 =>
  some (((decide (0≤(r1.1.1:Int))),()),[]):=by kernel_rfl
@[reducible] def Yq.R:Type:=Z9 [.d .bool]×Zy
def Yq (n:Nat) (a0:(List Int)) (a1:Int) (a2:(den Za)):Option Yq.R:=gc n 117 [.dat (.sl (.int .i64)) a0 [],.dat (.int .i64) a1 [],.ref Za a2] [.d .bool]
theorem Yq.eq (n:Nat) (a0:(List Int)) (a1:Int) (a2:(den Za)):Yq (n+1) a0 a1 a2 =
  Option.bind (Xs n a0 a2 a1) fun r1 =>
  some (((r1.1.1:Bool),()),[]):=by kernel_rfl
def Yp.res:List Sh:=[.d (.sl (.int .i64))]
@[reducible] def Yp.R:Type:=Z9 [.d (.sl (.int .i64))]×Zy
def Yp (n:Nat) (a0:(den Za)) (a1:(den Zb)):Option Yp.R:=gc n 133 [.dat Za a0 [],.dat Zb a1 []] [.d (.sl (.int .i64))]
def Yp.l0 (n m0:Nat) (t0:(den Za)) (t1:(den Zb)) (t4:(List Int)) (t9:(List (den Zb))) (t10:Int) (t11:Int) (o0:(den Za)) (o1:(den Zb)) (o5:(List Int)):Option Yp.R :=
  lpN n AJ7 m0 (Jy 0 (Jc (run (gc n) n) AJ6 (Xd Yp.fn Yp.res) (Xd Yp.fn Yp.res)) (Xd Yp.fn Yp.res))
    [(0,.dat Za t0 []),(1,.dat Zb t1 []),(2,.ptr 0 []),(3,.ptr 1 []),(4,.dat (.sl (.int .i64)) t4 []),(5,.dat (.sl (.int .i64)) ([]:List Int) [([],some 5)]),(9,.dat (.sl Zb) t9 []),(10,.dat (.int .i64) t10 []),(11,.dat (.int .i64) t11 [])]
    [.box Za o0 [],.box Zb o1 [],.none,.none,.none,.arr (.int .i64) o5]
theorem Yp.l0_eq (n m0:Nat) (t0:(den Za)) (t1:(den Zb)) (t4:(List Int)) (t9:(List (den Zb))) (t10:Int) (t11:Int) (o0:(den Za)) (o1:(den Zb)) (o5:(List Int)):Yp.l0 n (m0+1) t0 t1 t4 t9 t10 t11 o0 o1 o5 =
  bif (decide (t11<t10)) then
    if (0:Int)≤t11∧t11<(((List.length t9):Nat):Int) then
    bif (eqT Zb o1 (List.getD t9 (Int.toNat t11) (dft Zb):(den Zb))) then
      if (List.length o5)+1≤1048576 then
      Yp.l0 n m0 t0 t1 t4 t9 t10 (IntKind.wrap .i64 (t11+1)) o0 o1 (o5 ++ ([t11]:List Int))
      else none
    else
      Yp.l0 n m0 t0 t1 t4 t9 t10 (IntKind.wrap .i64 (t11+1)) o0 o1 o5
    else none
  else
    some ((o5,()),[(0,[])]):=by kernel_rfl
theorem Yp.eq (n:Nat) (a0:(den Za)) (a1:(den Zb)):Yp (n+1) a0 a1 =
  Yp.l0 n n a0 a1 ([]:List Int) (a0.2.2.2.1:(List (den Zb))) ((List.length (a0.2.2.2.1:(List (den Zb)))):Int) 0 a0 a1 ([]:List Int):=by kernel_rfl
@[reducible] def Qz.R:Type:=Z9 [.d (.int .i64)]×Zy
def Qz (n:Nat) (a0:(den Za)) (a1:(den Zb)):Option Qz.R:=gc n 106 [.dat Za a0 [],.dat Zb a1 []] [.d (.int .i64)]
theorem Qz.eq (n:Nat) (a0:(den Za)) (a1:(den Zb)):Qz (n+1) a0 a1 =
  if (0:Int)≤(a1.1:Int)∧(a1.1:Int)<((3:Nat):Int) then
  Option.bind (Yp n a0 a1) fun r1 =>
  some (((IntKind.wrap .i64 ((List.getD ([(a0.1.2.2.2.2.2.1:Int),(a0.1.2.2.2.2.2.2.1:Int),(a0.1.2.2.2.2.2.2.2.1:Int)]:List Int) (Int.toNat (a1.1:Int)) (0:Int):Int) - ((List.length (r1.1.1:(List Int))):Int))),()),[])
  else none:=by kernel_rfl
@[reducible] def Hz.R:Type:=Z9 [.d .bool]×Zy
def Hz (n:Nat) (a0:Int):Option Hz.R:=gc n 135 [.dat (.int .i64) a0 []] [.d .bool]
theorem Hz.eq (n:Nat) (a0:Int):Hz (n+1) a0 =
  bif (decide (0≤a0)) then
    some (((decide (a0≤1073741824)),()),[])
  else
    some ((false,()),[]):=by kernel_rfl
@[reducible] def V3.R:Type:=Z9 [.d (.int .i64),.d (.int .i64),.d (.int .i64)]×Zy
def V3 (n:Nat) (a0:Int) (a1:Int) (a2:Int) (a3:Int):Option V3.R:=gc n 121 [.dat (.int .i64) a0 [],.dat (.int .i64) a1 [],.dat (.int .i64) a2 [],.dat (.int .i64) a3 []] [.d (.int .i64),.d (.int .i64),.d (.int .i64)]
theorem V3.eq (n:Nat) (a0:Int) (a1:Int) (a2:Int) (a3:Int):V3 (n+1) a0 a1 a2 a3 =
  bif (decide (a2<0)) then
    some ((a0,a1,1,()),[])
  else
    bif (decide (a3<0)) then
      some ((a0,a1,1,()),[])
    else
      bif (decide (a0<a2)) then
        some ((a0,a1,10,()),[])
      else
        bif (decide (a1<a3)) then
          some ((a0,a1,10,()),[])
        else
          Option.bind (Hz n (IntKind.wrap .i64 ((IntKind.wrap .i64 (a0 - a2))+a3))) fun r1 =>
          bif (!(r1.1.1:Bool)) then
            some ((a0,a1,11,()),[])
          else
            Option.bind (Hz n (IntKind.wrap .i64 ((IntKind.wrap .i64 (a1 - a3))+a2))) fun r2 =>
            bif (!(r2.1.1:Bool)) then
              some ((a0,a1,11,()),[])
            else
              some (((IntKind.wrap .i64 ((IntKind.wrap .i64 (a0 - a2))+a3)),(IntKind.wrap .i64 ((IntKind.wrap .i64 (a1 - a3))+a2)),0,()),[]):=by kernel_rfl
@[reducible] def Jo.R:Type:=Z9 [.d (.sl (.int .i64))]×Zy
def Jo (n:Nat) (a0:(List Int)):Option Jo.R:=gc n 136 [.dat (.sl (.int .i64)) a0 []] [.d (.sl (.int .i64))]
@[reducible] def Yo.R:Type:=Z9 [.d (.sl Zb)]×Zy
def Yo (n:Nat) (a0:(List (den Zb))):Option Yo.R:=gc n 137 [.dat (.sl Zb) a0 []] [.d (.sl Zb)]
@[reducible] def Jb.R:Type:=Z9 [.d Za]×Zy
def Jb (n:Nat) (a0:(den Za)):Option Jb.R:=gc n 122 [.dat Za a0 []] [.d Za]
theorem Jb.eq (n:Nat) (a0:(den Za)):Jb (n+1) a0 =
  Option.bind (Jo n (a0.2.1:(List Int))) fun r1 =>
  bif (Zu r1.2 [((0,[]),2)]) then
    Option.bind (Jo n (a0.2.2.1:(List Int))) fun r2 =>
    bif (Zu r2.2 [((0,[]),3)]) then
      Option.bind (Yo n (a0.2.2.2.1:(List (den Zb)))) fun r3 =>
      bif (Zu r3.2 [((0,[]),4)]) then
        some (((a0.1,(r1.1.1:(List Int)),(r2.1.1:(List Int)),(r3.1.1:(List (den Zb))),()),()),[(0,[1]),(0,[2]),(0,[3])])
      else
        none
    else
      none
  else
    none:=by kernel_rfl
def Z1.res:List Sh:=[.d Za,.d (.int .i64)]
@[reducible] def Z1.R:Type:=Z9 [.d Za,.d (.int .i64)]×Zy
def Z1 (n:Nat) (a0:(den Za)) (a1:Int) (a2:(den Zw)):Option Z1.R:=gc n 67 [.dat Za a0 [],.dat (.int .i64) a1 [],.dat Zw a2 []] [.d Za,.d (.int .i64)]
def Z1.l0 (n m0:Nat) (t0:(den Za)) (t1:Int) (t2:(den Zw)) (t7:Int) (t8:Int) (t9:(List Int)) (t11:Int) (t12:Int) (t13:Int) (t14:Int) (t135:(List Int)) (t136:Int) (t137:Int) (o0:(den Za)) (o1:(den Zw)) (o2:(den Za)) (o3:(List (List Int))) (o4:(den Za)) (o5:(List Int)) (o6:(List (den Zb))):Option Z1.R :=
  lpN n AKn m0 (Jy 1 (Jc (run (gc n) n) AKm (Xd Z1.fn Z1.res) (Xd Z1.fn Z1.res)) (Xd Z1.fn Z1.res))
    [(0,.dat Za t0 []),(1,.dat (.int .i64) t1 []),(2,.dat Zw t2 []),(3,.ptr 0 []),(5,.ptr 1 []),(6,.ptr 2 []),(7,.dat (.int .i64) t7 []),(8,.dat (.int .i64) t8 []),(9,.dat (.sl (.int .i64)) t9 []),(10,.clo 117 [.ptr 0 []]),(11,.dat (.int .i64) t11 []),(12,.dat (.int .i64) t12 []),(13,.dat (.int .i64) t13 []),(14,.dat (.int .i64) t14 []),(15,.ptr 4 []),(135,.dat (.sl (.int .i64)) t135 []),(136,.dat (.int .i64) t136 []),(137,.dat (.int .i64) t137 [])]
    [.box Za o0 [],.box Zw o1 [],.box Za o2 [],.frz (.sl (.int .i64)) o3,.box Za o4 [([2],some 5),([3],some 6)],.arr (.int .i64) o5,.arr Zb o6]
def Z1.l1 (n m0:Nat) (t0_1:(den Za)) (t1_1:Int) (t2_1:(den Zw)) (t7_1:Int) (t8_1:Int) (t9_1:(List Int)) (t11_1:Int) (t12_1:Int) (t13_1:Int) (t14_1:Int) (t135_1:(List Int)) (t136_1:Int) (t137_1:Int) (t149_1:(List Int)) (t150_1:Int) (t151_1:Int) (o0_1:(den Za)) (o1_1:(den Zw)) (o2_1:(den Za)) (o3_1:(List (List Int))) (o4_1:(den Za)) (o5_1:(List Int)) (o6_1:(List (den Zb))):Option Z1.R :=
  lpN n AKp m0 (Jy 3 (Jc (run (gc n) n) AKo (Xd Z1.fn Z1.res) (Xd Z1.fn Z1.res)) (Xd Z1.fn Z1.res))
    [(0,.dat Za t0_1 []),(1,.dat (.int .i64) t1_1 []),(2,.dat Zw t2_1 []),(3,.ptr 0 []),(5,.ptr 1 []),(6,.ptr 2 []),(7,.dat (.int .i64) t7_1 []),(8,.dat (.int .i64) t8_1 []),(9,.dat (.sl (.int .i64)) t9_1 []),(10,.clo 117 [.ptr 0 []]),(11,.dat (.int .i64) t11_1 []),(12,.dat (.int .i64) t12_1 []),(13,.dat (.int .i64) t13_1 []),(14,.dat (.int .i64) t14_1 []),(15,.ptr 4 []),(135,.dat (.sl (.int .i64)) t135_1 []),(136,.dat (.int .i64) t136_1 []),(137,.dat (.int .i64) t137_1 []),(149,.dat (.sl (.int .i64)) t149_1 []),(150,.dat (.int .i64) t150_1 []),(151,.dat (.int .i64) t151_1 [])]
    [.box Za o0_1 [],.box Zw o1_1 [],.box Za o2_1 [],.frz (.sl (.int .i64)) o3_1,.box Za o4_1 [([2],some 5),([3],some 6)],.arr (.int .i64) o5_1,.arr Zb o6_1]
theorem Z1.l0_eq (n m0:Nat) (t0:(den Za)) (t1:Int) (t2:(den Zw)) (t7:Int) (t8:Int) (t9:(List Int)) (t11:Int) (t12:Int) (t13:Int) (t14:Int) (t135:(List Int)) (t136:Int) (t137:Int) (o0:(den Za)) (o1:(den Zw)) (o2:(den Za)) (o3:(List (List Int))) (o4:(den Za)) (o5:(List Int)) (o6:(List (den Zb))):Z1.l0 n (m0+1) t0 t1 t2 t7 t8 t9 t11 t12 t13 t14 t135 t136 t137 o0 o1 o2 o3 o4 o5 o6 =
  bif (decide (t137<t136)) then
    if (0:Int)≤t137∧t137<(((List.length t135):Nat):Int) then
    Option.bind (Yn n t8) fun r13 =>
    if (0:Int)≤(List.getD t135 (Int.toNat t137) (0:Int):Int)∧(List.getD t135 (Int.toNat t137) (0:Int):Int)<(((List.length o6):Nat):Int) then
    Z1.l0 n m0 t0 t1 t2 t7 t8 t9 t11 t12 t13 t14 t135 t136 (IntKind.wrap .i64 (t137+1)) o0 o1 o2 o3 o4 o5 (List.set o6 (Int.toNat (List.getD t135 (Int.toNat t137) (0:Int):Int)) r13.1.1:(List (den Zb)))
    else none
    else none
  else
    Z1.l1 n n t0 t1 t2 t7 t8 t9 t11 t12 t13 t14 t135 t136 t137 (o1.2.2.2.2.2.2.2.1:(List Int)) ((List.length (o1.2.2.2.2.2.2.2.1:(List Int))):Int) 0 o0 o1 o2 o3 o4 o5 o6:=by kernel_rfl
theorem Z1.l1_eq (n m0:Nat) (t0_1:(den Za)) (t1_1:Int) (t2_1:(den Zw)) (t7_1:Int) (t8_1:Int) (t9_1:(List Int)) (t11_1:Int) (t12_1:Int) (t13_1:Int) (t14_1:Int) (t135_1:(List Int)) (t136_1:Int) (t137_1:Int) (t149_1:(List Int)) (t150_1:Int) (t151_1:Int) (o0_1:(den Za)) (o1_1:(den Zw)) (o2_1:(den Za)) (o3_1:(List (List Int))) (o4_1:(den Za)) (o5_1:(List Int)) (o6_1:(List (den Zb))):Z1.l1 n (m0+1) t0_1 t1_1 t2_1 t7_1 t8_1 t9_1 t11_1 t12_1 t13_1 t14_1 t135_1 t136_1 t137_1 t149_1 t150_1 t151_1 o0_1 o1_1 o2_1 o3_1 o4_1 o5_1 o6_1 =
  bif (decide (t151_1<t150_1)) then
    if (0:Int)≤t151_1∧t151_1<(((List.length t149_1):Nat):Int) then
    Option.bind (Yn n t1_1) fun r14 =>
    if (0:Int)≤(List.getD t149_1 (Int.toNat t151_1) (0:Int):Int)∧(List.getD t149_1 (Int.toNat t151_1) (0:Int):Int)<(((List.length o6_1):Nat):Int) then
    Z1.l1 n m0 t0_1 t1_1 t2_1 t7_1 t8_1 t9_1 t11_1 t12_1 t13_1 t14_1 t135_1 t136_1 t137_1 t149_1 t150_1 (IntKind.wrap .i64 (t151_1+1)) o0_1 o1_1 o2_1 o3_1 o4_1 o5_1 (List.set o6_1 (Int.toNat (List.getD t149_1 (Int.toNat t151_1) (0:Int):Int)) r14.1.1:(List (den Zb)))
    else none
    else none
  else
    some (((o4_1.1,(o4_1.2.1:(List Int)),o5_1,o6_1,()),0,()),[(0,[2]),(0,[3])]):=by kernel_rfl
theorem Z1.eq (n:Nat) (a0:(den Za)) (a1:Int) (a2:(den Zw)):Z1 (n+1) a0 a1 a2 =
  Option.bind (Vl n ([(a2.2.2.2.2.2.1:(List Int)),(a2.2.2.2.2.2.2.2.1:(List Int))]:List (List Int))) fun r1 =>
  Option.bind (Y2 n a0 (a2.2.2.2.2.1:Int)) fun r2 =>
  bif (!(r2.1.1:Bool)) then
    some ((a0,3,()),[])
  else
    Option.bind (Z7 n (r1.1.1:(List Int)) a0) fun r3 =>
    bif (r3.1.1:Bool) then
      some ((a0,3,()),[])
    else
      bif (decide ((a2.2.2.2.2.1:Int)=a1)) then
        some ((a0,12,()),[])
      else
        if (0:Int)≤(a2.2.2.2.2.1:Int)∧(a2.2.2.2.2.1:Int)<(((List.length (a0.2.1:(List Int))):Nat):Int) then
        if (0:Int)≤a1∧a1<(((List.length (a0.2.1:(List Int))):Nat):Int) then
        bif (!(decide ((List.getD (a0.2.1:(List Int)) (Int.toNat (a2.2.2.2.2.1:Int)) (0:Int):Int)=(List.getD (a0.2.1:(List Int)) (Int.toNat a1) (0:Int):Int)))) then
          some ((a0,5,()),[])
        else
          Option.bind (Xk n (r1.1.1:(List Int))) fun r4 =>
          bif (r4.1.1:Bool) then
            some ((a0,13,()),[])
          else
            Option.bind (Yq n (a2.2.2.2.2.2.1:(List Int)) a1 a0) fun r5 =>
            bif (r5.1.1:Bool) then
              some ((a0,5,()),[])
            else
              Option.bind (Yq n (a2.2.2.2.2.2.2.2.1:(List Int)) (a2.2.2.2.2.1:Int) a0) fun r6 =>
              bif (r6.1.1:Bool) then
                some ((a0,5,()),[])
              else
                Option.bind (Yn n a1) fun r7 =>
                Option.bind (Qz n a0 r7.1.1) fun r8 =>
                bif (decide ((r8.1.1:Int)<(IntKind.wrap .i64 (((List.length (a2.2.2.2.2.2.2.2.1:(List Int))):Int) - ((List.length (a2.2.2.2.2.2.1:(List Int))):Int))))) then
                  some ((a0,9,()),[])
                else
                  Option.bind (Yn n (a2.2.2.2.2.1:Int)) fun r9 =>
                  Option.bind (Qz n a0 r9.1.1) fun r10 =>
                  bif (decide ((r10.1.1:Int)<(IntKind.wrap .i64 (0 - (IntKind.wrap .i64 (((List.length (a2.2.2.2.2.2.2.2.1:(List Int))):Int) - ((List.length (a2.2.2.2.2.2.1:(List Int))):Int))))))) then
                    some ((a0,9,()),[])
                  else
                    if (0:Int)≤a1∧a1<(((List.length (a0.2.2.1:(List Int))):Nat):Int) then
                    if (0:Int)≤(a2.2.2.2.2.1:Int)∧(a2.2.2.2.2.1:Int)<(((List.length (a0.2.2.1:(List Int))):Nat):Int) then
                    Option.bind (V3 n (List.getD (a0.2.2.1:(List Int)) (Int.toNat a1) (0:Int):Int) (List.getD (a0.2.2.1:(List Int)) (Int.toNat (a2.2.2.2.2.1:Int)) (0:Int):Int) (a2.2.2.2.2.2.2.1:Int) (a2.2.2.2.2.2.2.2.2.1:Int)) fun r11 =>
                    bif (!(decide ((r11.1.2.2.1:Int)=0))) then
                      some ((a0,(r11.1.2.2.1:Int),()),[])
                    else
                      Option.bind (Jb n a0) fun r12 =>
                      bif (Zu r12.2 [((0,[2]),5),((0,[3]),6)]) then
                        if (0:Int)≤a1∧a1<(((List.length (r12.1.1.2.2.1:(List Int))):Nat):Int) then
                        if (0:Int)≤(a2.2.2.2.2.1:Int)∧(a2.2.2.2.2.1:Int)<(((List.length (List.set (r12.1.1.2.2.1:(List Int)) (Int.toNat a1) (r11.1.1:Int):(List Int))):Nat):Int) then
                        Z1.l0 n n a0 a1 a2 0 (a2.2.2.2.2.1:Int) (r1.1.1:(List Int)) (IntKind.wrap .i64 (((List.length (a2.2.2.2.2.2.2.2.1:(List Int))):Int) - ((List.length (a2.2.2.2.2.2.1:(List Int))):Int))) (r11.1.1:Int) (r11.1.2.1:Int) (r11.1.2.2.1:Int) (a2.2.2.2.2.2.1:(List Int)) ((List.length (a2.2.2.2.2.2.1:(List Int))):Int) 0 a0 a2 ((([]:List (List Int)),([]:List Int),([]:List Int),([]:List Int),([]:List Bool),0,0,0,()),([]:List Int),([]:List Int),([]:List (den Zb)),()) ([(a2.2.2.2.2.2.1:(List Int)),(a2.2.2.2.2.2.2.2.1:(List Int))]:List (List Int)) (r12.1.1.1,(r12.1.1.2.1:(List Int)),([]:List Int),([]:List (den Zb)),()) (List.set (List.set (r12.1.1.2.2.1:(List Int)) (Int.toNat a1) (r11.1.1:Int):(List Int)) (Int.toNat (a2.2.2.2.2.1:Int)) (r11.1.2.1:Int):(List Int)) (r12.1.1.2.2.2.1:(List (den Zb)))
                        else none
                        else none
                      else
                        none
                    else none
                    else none
        else none
        else none:=by kernel_rfl
@[reducible] def Yc.R:Type:=Z9 [.d Zn]×Zy
def Yc (n:Nat) (a0:Int) (a1:Int) (a2:Int):Option Yc.R:=gc n 87 [.dat (.int .i64) a0 [],.dat (.int .i64) a1 [],.dat (.int .i64) a2 []] [.d Zn]
theorem Yc.eq (n:Nat) (a0:Int) (a1:Int) (a2:Int):Yc (n+1) a0 a1 a2 =
  bif (!(decide (a2=0))) then
    some (((a2,0,0,([]:List Int),([]:List (den Z2)),0,()),()),[])
  else
    some (((0,a0,a1,([]:List Int),([]:List (den Z2)),0,()),()),[]):=by kernel_rfl
@[reducible] def Ql.R:Type:=Z9 [.d Za,.d Zn]×Zy
def Ql (n:Nat) (a0:(den Za)) (a1:Int) (a2:(den Zw)):Option Ql.R:=gc n 91 [.dat Za a0 [],.dat (.int .i64) a1 [],.dat Zw a2 [],.refv (.clo 67 [])] [.d Za,.d Zn]
theorem Ql.eq (n:Nat) (a0:(den Za)) (a1:Int) (a2:(den Zw)):Ql (n+1) a0 a1 a2 =
  Option.bind (Z1 n a0 a1 a2) fun r1 =>
  Option.bind (Yc n (a2.1:Int) 0 (r1.1.2.1:Int)) fun r2 =>
  some ((r1.1.1,r2.1.1,()),[]):=by kernel_rfl
@[reducible] def K3.R:Type:=Z9 [.d Za]×Zy
def K3 (n:Nat) (a0:(den Za)) (a1:Int) (a2:(den Zb)):Option K3.R:=gc n 107 [.dat Za a0 [],.dat (.int .i64) a1 [],.dat Zb a2 []] [.d Za]
theorem K3.eq (n:Nat) (a0:(den Za)) (a1:Int) (a2:(den Zb)):K3 (n+1) a0 a1 a2 =
  Option.bind (Jb n a0) fun r1 =>
  bif (Zu r1.2 [((0,[3]),4)]) then
    if (0:Int)≤a1∧a1<(((List.length (r1.1.1.2.2.2.1:(List (den Zb)))):Nat):Int) then
    some (((r1.1.1.1,(r1.1.1.2.1:(List Int)),(r1.1.1.2.2.1:(List Int)),(List.set (r1.1.1.2.2.2.1:(List (den Zb))) (Int.toNat a1) a2:(List (den Zb))),()),()),[(0,[3])])
    else none
  else
    none:=by kernel_rfl
@[reducible] def Vg.R:Type:=Z9 [.d Za,.d (.int .i64)]×Zy
def Vg (n:Nat) (a0:(den Za)) (a1:Int) (a2:Int) (a3:Int):Option Vg.R:=gc n 66 [.dat Za a0 [],.dat (.int .i64) a1 [],.dat (.int .i64) a2 [],.dat (.int .i64) a3 []] [.d Za,.d (.int .i64)]
theorem Vg.eq (n:Nat) (a0:(den Za)) (a1:Int) (a2:Int) (a3:Int):Vg (n+1) a0 a1 a2 a3 =
  Option.bind (Ks n a0 a2) fun r1 =>
  bif (!(r1.1.1:Bool)) then
    some ((a0,3,()),[])
  else
    Option.bind (Y2 n a0 a3) fun r2 =>
    bif (!(r2.1.1:Bool)) then
      some ((a0,3,()),[])
    else
      bif (decide (a3=a1)) then
        some ((a0,12,()),[])
      else
        if (0:Int)≤a3∧a3<(((List.length (a0.2.1:(List Int))):Nat):Int) then
        if (0:Int)≤a1∧a1<(((List.length (a0.2.1:(List Int))):Nat):Int) then
        bif (!(decide ((List.getD (a0.2.1:(List Int)) (Int.toNat a3) (0:Int):Int)=(List.getD (a0.2.1:(List Int)) (Int.toNat a1) (0:Int):Int)))) then
          some ((a0,5,()),[])
        else
          if (0:Int)≤a2∧a2<(((List.length (a0.2.2.2.1:(List (den Zb)))):Nat):Int) then
          Option.bind (Yn n a1) fun r3 =>
          bif (!(eqT Zb (List.getD (a0.2.2.2.1:(List (den Zb))) (Int.toNat a2) (dft Zb):(den Zb)) r3.1.1)) then
            some ((a0,5,()),[])
          else
            Option.bind (Yn n a3) fun r4 =>
            Option.bind (Qz n a0 r4.1.1) fun r5 =>
            bif (decide ((r5.1.1:Int)<1)) then
              some ((a0,9,()),[])
            else
              Option.bind (Yn n a3) fun r6 =>
              Option.bind (K3 n a0 a2 r6.1.1) fun r7 =>
              some ((r7.1.1,0,()),[])
          else none
        else none
        else none:=by kernel_rfl
@[reducible] def Qj.R:Type:=Z9 [.d Za,.d (.int .i64)]×Zy
def Qj (n:Nat) (a0:(den Za)) (a1:Int) (a2:(den Zw)):Option Qj.R:=gc n 65 [.dat Za a0 [],.dat (.int .i64) a1 [],.dat Zw a2 []] [.d Za,.d (.int .i64)]
theorem Qj.eq (n:Nat) (a0:(den Za)) (a1:Int) (a2:(den Zw)):Qj (n+1) a0 a1 a2 =
  Option.bind (Vg n a0 a1 (a2.2.2.1:Int) (a2.2.2.2.2.1:Int)) fun r1 =>
  some ((r1.1.1,(r1.1.2.1:Int),()),[]):=by kernel_rfl
@[reducible] def Va.R:Type:=Z9 [.d Za,.d Zn]×Zy
def Va (n:Nat) (a0:(den Za)) (a1:Int) (a2:(den Zw)):Option Va.R:=gc n 91 [.dat Za a0 [],.dat (.int .i64) a1 [],.dat Zw a2 [],.refv (.clo 65 [])] [.d Za,.d Zn]
theorem Va.eq (n:Nat) (a0:(den Za)) (a1:Int) (a2:(den Zw)):Va (n+1) a0 a1 a2 =
  Option.bind (Qj n a0 a1 a2) fun r1 =>
  Option.bind (Yc n (a2.1:Int) 0 (r1.1.2.1:Int)) fun r2 =>
  some ((r1.1.1,r2.1.1,()),[]):=by kernel_rfl
@[reducible] def Qt.R:Type:=Z9 [.d .bool]×Zy
def Qt (n:Nat) (a0:(den Za)) (a1:Int):Option Qt.R:=gc n 96 [.dat Za a0 [],.dat (.int .i64) a1 []] [.d .bool]
theorem Qt.eq (n:Nat) (a0:(den Za)) (a1:Int):Qt (n+1) a0 a1 =
  bif (decide (a1<0)) then
    some ((true,()),[])
  else
    some (((decide (((List.length (a0.2.2.2.1:(List (den Zb)))):Int)≤a1)),()),[]):=by kernel_rfl
@[reducible] def Yg.R:Type:=Z9 [.d .bool]×Zy
def Yg (n:Nat) (a0:(den Za)) (a1:Int) (a2:Int):Option Yg.R:=gc n 108 [.ref Za a0,.ref (.int .i64) a1,.ref (.int .i64) a2] [.d .bool]
theorem Yg.eq (n:Nat) (a0:(den Za)) (a1:Int) (a2:Int):Yg (n+1) a0 a1 a2 =
  Option.bind (Qt n a0 a1) fun r1 =>
  bif (r1.1.1:Bool) then
    some ((true,()),[])
  else
    Option.bind (Qt n a0 a2) fun r2 =>
    some (((r2.1.1:Bool),()),[]):=by kernel_rfl
@[reducible] def Jq.R:Type:=Z9 [.d .bool]×Zy
def Jq (n:Nat) (a0:(den Za)) (a1:Int) (a2:Int):Option Jq.R:=gc n 98 [.dat Za a0 [],.dat (.int .i64) a1 [],.dat (.int .i64) a2 []] [.d .bool]
theorem Jq.eq (n:Nat) (a0:(den Za)) (a1:Int) (a2:Int):Jq (n+1) a0 a1 a2 =
  Option.bind (Vs n a0 a2) fun r1 =>
  if (0:Int)≤a1∧a1<(((List.length (a0.2.1:(List Int))):Nat):Int) then
  bif (eqT Zb r1.1.1 (0,(List.getD (a0.2.1:(List Int)) (Int.toNat a1) (0:Int):Int),())) then
    some ((true,()),[])
  else
    some (((eqT Zb r1.1.1 (1,a1,())),()),[])
  else none:=by kernel_rfl
@[reducible] def Qm.R:Type:=Z9 [.d .bool]×Zy
def Qm (n:Nat) (a0:(den Za)) (a1:Int) (a2:Int):Option Qm.R:=gc n 109 [.ref Za a0,.ref (.int .i64) a1,.ref (.int .i64) a2] [.d .bool]
theorem Qm.eq (n:Nat) (a0:(den Za)) (a1:Int) (a2:Int):Qm (n+1) a0 a1 a2 =
  Option.bind (Jq n a0 a1 a2) fun r1 =>
  some (((!(r1.1.1:Bool)),()),[]):=by kernel_rfl
@[reducible] def Qn.R:Type:=Z9 [.d .bool]×Zy
def Qn (n:Nat) (a0:(den Za)) (a1:Int):Option Qn.R:=gc n 110 [.ref Za a0,.ref (.int .i64) a1] [.d .bool]
theorem Qn.eq (n:Nat) (a0:(den Za)) (a1:Int):Qn (n+1) a0 a1 =
  if (0:Int)≤a1∧a1<(((List.length (a0.1.2.2.2.2.1:(List Bool))):Nat):Int) then
  some (((!(List.getD (a0.1.2.2.2.2.1:(List Bool)) (Int.toNat a1) false:Bool)),()),[])
  else none:=by kernel_rfl
@[reducible] def Qo.R:Type:=Z9 [.d .bool]×Zy
def Qo (n:Nat) (a0:(den Za)) (a1:Int) (a2:(den Zb)):Option Qo.R:=gc n 111 [.ref Za a0,.ref (.int .i64) a1,.ref Zb a2] [.d .bool]
theorem Qo.eq (n:Nat) (a0:(den Za)) (a1:Int) (a2:(den Zb)):Qo (n+1) a0 a1 a2 =
  if (0:Int)≤a1∧a1<(((List.length (a0.2.2.2.1:(List (den Zb)))):Nat):Int) then
  some (((!(eqT Zb (List.getD (a0.2.2.2.1:(List (den Zb))) (Int.toNat a1) (dft Zb):(den Zb)) a2)),()),[])
  else none:=by kernel_rfl
@[reducible] def Qp.R:Type:=Z9 [.d .bool]×Zy
def Qp (n:Nat) (a0:(den Za)) (a1:(den Zb)):Option Qp.R:=gc n 112 [.ref Za a0,.ref Zb a1] [.d .bool]
theorem Qp.eq (n:Nat) (a0:(den Za)) (a1:(den Zb)):Qp (n+1) a0 a1 =
  Option.bind (Qz n a0 a1) fun r1 =>
  some (((decide ((r1.1.1:Int)<1)),()),[]):=by kernel_rfl
@[reducible] def Y7.R:Type:=Z9 [.d (.int .i64)]×Zy
def Y7 (n:Nat) (a0:(den Za)) (a1:Int) (a2:Int) (a3:Int) (a4:(den Za)) (a5:Int) (a6:Int) (a7:Int) (a8:(den Za)) (a9:Int) (a10:Int) (a11:(den Za)) (a12:Int) (a13:(den Zb)) (a14:Int) (a15:(den Za)) (a16:(den Zb)) (a17:Int):Option Y7.R:=gc n 94 [.slv [.agv [.clo 108 [.ref Za a0,.ref (.int .i64) a1,.ref (.int .i64) a2],.dat (.int .i64) a3 []],.agv [.clo 109 [.ref Za a4,.ref (.int .i64) a5,.ref (.int .i64) a6],.dat (.int .i64) a7 []],.agv [.clo 110 [.ref Za a8,.ref (.int .i64) a9],.dat (.int .i64) a10 []],.agv [.clo 111 [.ref Za a11,.ref (.int .i64) a12,.ref Zb a13],.dat (.int .i64) a14 []],.agv [.clo 112 [.ref Za a15,.ref Zb a16],.dat (.int .i64) a17 []]]] [.d (.int .i64)]
theorem Y7.eq (n:Nat) (a0:(den Za)) (a1:Int) (a2:Int) (a3:Int) (a4:(den Za)) (a5:Int) (a6:Int) (a7:Int) (a8:(den Za)) (a9:Int) (a10:Int) (a11:(den Za)) (a12:Int) (a13:(den Zb)) (a14:Int) (a15:(den Za)) (a16:(den Zb)) (a17:Int):Y7 (n+14) a0 a1 a2 a3 a4 a5 a6 a7 a8 a9 a10 a11 a12 a13 a14 a15 a16 a17 =
  Option.bind (Yg (n+13) a0 a1 a2) fun r1 =>
  bif (r1.1.1:Bool) then
    some ((a3,()),[])
  else
    Option.bind (Qm (n+13) a4 a5 a6) fun r2 =>
    bif (r2.1.1:Bool) then
      some ((a7,()),[])
    else
      Option.bind (Qn (n+13) a8 a9) fun r3 =>
      bif (r3.1.1:Bool) then
        some ((a10,()),[])
      else
        Option.bind (Qo (n+13) a11 a12 a13) fun r4 =>
        bif (r4.1.1:Bool) then
          some ((a14,()),[])
        else
          Option.bind (Qp (n+13) a15 a16) fun r5 =>
          bif (r5.1.1:Bool) then
            some ((a17,()),[])
          else
            some ((0,()),[]):=by kernel_rfl
@[reducible] def Vf.R:Type:=Z9 [.d Za,.d (.int .i64)]×Zy
def Vf (n:Nat) (a0:(den Za)) (a1:Int) (a2:Int) (a3:Int):Option Vf.R:=gc n 64 [.dat Za a0 [],.dat (.int .i64) a1 [],.dat (.int .i64) a2 [],.dat (.int .i64) a3 []] [.d Za,.d (.int .i64)]
theorem Vf.eq (n:Nat) (a0:(den Za)) (a1:Int) (a2:Int) (a3:Int):Vf (n+1) a0 a1 a2 a3 =
  Option.bind (Y7 n a0 a2 a3 3 a0 a1 a3 5 a0 a3 6 a0 a2 (2,a3,()) 5 a0 (1,a1,()) 9) fun r1 =>
  bif (!(decide ((r1.1.1:Int)=0))) then
    some ((a0,(r1.1.1:Int),()),[])
  else
    Option.bind (K3 n a0 a2 (1,a1,())) fun r2 =>
    some ((r2.1.1,0,()),[]):=by kernel_rfl
@[reducible] def Qi.R:Type:=Z9 [.d Za,.d (.int .i64)]×Zy
def Qi (n:Nat) (a0:(den Za)) (a1:Int) (a2:(den Zw)):Option Qi.R:=gc n 63 [.dat Za a0 [],.dat (.int .i64) a1 [],.dat Zw a2 []] [.d Za,.d (.int .i64)]
theorem Qi.eq (n:Nat) (a0:(den Za)) (a1:Int) (a2:(den Zw)):Qi (n+1) a0 a1 a2 =
  Option.bind (Vf n a0 a1 (a2.2.2.1:Int) (a2.2.2.2.1:Int)) fun r1 =>
  some ((r1.1.1,(r1.1.2.1:Int),()),[]):=by kernel_rfl
@[reducible] def Vb.R:Type:=Z9 [.d Za,.d Zn]×Zy
def Vb (n:Nat) (a0:(den Za)) (a1:Int) (a2:(den Zw)):Option Vb.R:=gc n 91 [.dat Za a0 [],.dat (.int .i64) a1 [],.dat Zw a2 [],.refv (.clo 63 [])] [.d Za,.d Zn]
theorem Vb.eq (n:Nat) (a0:(den Za)) (a1:Int) (a2:(den Zw)):Vb (n+1) a0 a1 a2 =
  Option.bind (Qi n a0 a1 a2) fun r1 =>
  Option.bind (Yc n (a2.1:Int) 0 (r1.1.2.1:Int)) fun r2 =>
  some ((r1.1.1,r2.1.1,()),[]):=by kernel_rfl
@[reducible] def Yt.R:Type:=Z9 [.d .bool]×Zy
def Yt (n:Nat) (a0:(den Za)) (a1:Int) (a2:Int):Option Yt.R:=gc n 95 [.ref Za a0,.ref (.int .i64) a1,.ref (.int .i64) a2] [.d .bool]
theorem Yt.eq (n:Nat) (a0:(den Za)) (a1:Int) (a2:Int):Yt (n+1) a0 a1 a2 =
  Option.bind (Qt n a0 a1) fun r1 =>
  bif (r1.1.1:Bool) then
    some ((true,()),[])
  else
    Option.bind (Qt n a0 a2) fun r2 =>
    some (((r2.1.1:Bool),()),[]):=by kernel_rfl
@[reducible] def Jd.R:Type:=Z9 [.d .bool]×Zy
def Jd (n:Nat) (a0:(den Za)) (a1:Int) (a2:(den Zb)) (a3:Int) (a4:Int):Option Jd.R:=gc n 97 [.ref Za a0,.ref (.int .i64) a1,.ref Zb a2,.ref (.int .i64) a3,.ref (.int .i64) a4] [.d .bool]
theorem Jd.eq (n:Nat) (a0:(den Za)) (a1:Int) (a2:(den Zb)) (a3:Int) (a4:Int):Jd (n+1) a0 a1 a2 a3 a4 =
  if (0:Int)≤a1∧a1<(((List.length (a0.2.2.2.1:(List (den Zb)))):Nat):Int) then
  bif (!(eqT Zb (List.getD (a0.2.2.2.1:(List (den Zb))) (Int.toNat a1) (dft Zb):(den Zb)) a2)) then
    some ((true,()),[])
  else
    Option.bind (Jq n a0 a3 a4) fun r1 =>
    some (((!(r1.1.1:Bool)),()),[])
  else none:=by kernel_rfl
@[reducible] def Je.R:Type:=Z9 [.d .bool]×Zy
def Je (n:Nat) (a0:(den Za)) (a1:Int):Option Je.R:=gc n 99 [.ref Za a0,.ref (.int .i64) a1] [.d .bool]
theorem Je.eq (n:Nat) (a0:(den Za)) (a1:Int):Je (n+1) a0 a1 =
  if (0:Int)≤a1∧a1<(((List.length (a0.1.2.2.2.2.1:(List Bool))):Nat):Int) then
  some (((!(List.getD (a0.1.2.2.2.2.1:(List Bool)) (Int.toNat a1) false:Bool)),()),[])
  else none:=by kernel_rfl
@[reducible] def U0.R:Type:=Z9 [.d .bool]×Zy
def U0 (n:Nat) (a0:(den Za)) (a1:Int) (a2:Int):Option U0.R:=gc n 101 [.dat Za a0 [],.dat (.int .i64) a1 [],.dat (.int .i64) a2 []] [.d .bool]
@[reducible] def Jf.R:Type:=Z9 [.d .bool]×Zy
def Jf (n:Nat) (a0:(den Za)) (a1:Int) (a2:Int):Option Jf.R:=gc n 100 [.ref Za a0,.ref (.int .i64) a1,.ref (.int .i64) a2] [.d .bool]
theorem Jf.eq (n:Nat) (a0:(den Za)) (a1:Int) (a2:Int):Jf (n+1) a0 a1 a2 =
  Option.bind (U0 n a0 a1 a2) fun r1 =>
  some (((r1.1.1:Bool),()),[]):=by kernel_rfl
@[reducible] def Ja.R:Type:=Z9 [.d (.int .i64)]×Zy
def Ja (n:Nat) (a0:(den Za)) (a1:Int):Option Ja.R:=gc n 103 [.dat Za a0 [],.dat (.int .i64) a1 []] [.d (.int .i64)]
theorem Ja.eq (n:Nat) (a0:(den Za)) (a1:Int):Ja (n+1) a0 a1 =
  Option.bind (H4 n a0 a1) fun r1 =>
  Option.bind (Qb n r1.1.1.1 (r1.1.1.2.1:Int)) fun r2 =>
  some (((IntKind.wrap .i64 (((List.length (r2.1.1:(List (den Zb)))):Int) - 1)),()),[]):=by kernel_rfl
def Xh.res:List Sh:=[.d (.int .i64)]
@[reducible] def Xh.R:Type:=Z9 [.d (.int .i64)]×Zy
def Xh (n:Nat) (a0:(den Za)) (a1:Int):Option Xh.R:=gc n 104 [.dat Za a0 [],.dat (.int .i64) a1 []] [.d (.int .i64)]
def Xh.l0 (n m0:Nat) (t0:(den Za)) (t1:Int) (t4:Int) (t5:Int) (t9:Int) (t10:Int) (o0:(den Za)):Option Xh.R :=
  lpN n AJz m0 (Jy 0 (Jc (run (gc n) n) AJy (Xd Xh.fn Xh.res) (Xd Xh.fn Xh.res)) (Xd Xh.fn Xh.res))
    [(0,.dat Za t0 []),(1,.dat (.int .i64) t1 []),(2,.ptr 0 []),(4,.dat (.int .i64) t4 []),(5,.dat (.int .i64) t5 []),(9,.dat (.int .i64) t9 []),(10,.dat (.int .i64) t10 [])]
    [.box Za o0 []]
theorem Xh.l0_eq (n m0:Nat) (t0:(den Za)) (t1:Int) (t4:Int) (t5:Int) (t9:Int) (t10:Int) (o0:(den Za)):Xh.l0 n (m0+1) t0 t1 t4 t5 t9 t10 o0 =
  bif (decide (t10<t9)) then
    Option.bind (U0 n o0 t10 t1) fun r1 =>
    bif (r1.1.1:Bool) then
      Option.bind (Ja n o0 t10) fun r2 =>
      Option.bind (Ja n o0 t1) fun r3 =>
      Xh.l0 n m0 t0 t1 t4 (if t5<(IntKind.wrap .i64 ((r2.1.1:Int) - (r3.1.1:Int))) then (IntKind.wrap .i64 ((r2.1.1:Int) - (r3.1.1:Int))) else t5) t9 (IntKind.wrap .i64 (t10+1)) o0
    else
      Xh.l0 n m0 t0 t1 t4 t5 t9 (IntKind.wrap .i64 (t10+1)) o0
  else
    some ((t5,()),[]):=by kernel_rfl
theorem Xh.eq (n:Nat) (a0:(den Za)) (a1:Int):Xh (n+1) a0 a1 =
  Xh.l0 n n a0 a1 0 0 ((List.length (a0.2.2.2.1:(List (den Zb)))):Int) 0 a0:=by kernel_rfl
@[reducible] def Jg.R:Type:=Z9 [.d .bool]×Zy
def Jg (n:Nat) (a0:(den Za)) (a1:Int) (a2:Int):Option Jg.R:=gc n 102 [.ref Za a0,.ref (.int .i64) a1,.ref (.int .i64) a2] [.d .bool]
theorem Jg.eq (n:Nat) (a0:(den Za)) (a1:Int) (a2:Int):Jg (n+1) a0 a1 a2 =
  Option.bind (Ja n a0 a1) fun r1 =>
  Option.bind (Xh n a0 a2) fun r2 =>
  some (((decide (4<(IntKind.wrap .i64 ((IntKind.wrap .i64 ((r1.1.1:Int)+1))+(r2.1.1:Int))))),()),[]):=by kernel_rfl
@[reducible] def Jh.R:Type:=Z9 [.d .bool]×Zy
def Jh (n:Nat) (a0:(den Za)) (a1:(den Zb)):Option Jh.R:=gc n 105 [.ref Za a0,.ref Zb a1] [.d .bool]
theorem Jh.eq (n:Nat) (a0:(den Za)) (a1:(den Zb)):Jh (n+1) a0 a1 =
  Option.bind (Qz n a0 a1) fun r1 =>
  some (((decide ((r1.1.1:Int)<1)),()),[]):=by kernel_rfl
@[reducible] def Yy.R:Type:=Z9 [.d (.int .i64)]×Zy
def Yy (n:Nat) (a0:(den Za)) (a1:Int) (a2:Int) (a3:Int) (a4:(den Za)) (a5:Int) (a6:(den Zb)) (a7:Int) (a8:Int) (a9:Int) (a10:(den Za)) (a11:Int) (a12:Int) (a13:(den Za)) (a14:Int) (a15:Int) (a16:Int) (a17:(den Za)) (a18:Int) (a19:Int) (a20:Int) (a21:(den Za)) (a22:(den Zb)) (a23:Int):Option Yy.R:=gc n 94 [.slv [.agv [.clo 95 [.ref Za a0,.ref (.int .i64) a1,.ref (.int .i64) a2],.dat (.int .i64) a3 []],.agv [.clo 97 [.ref Za a4,.ref (.int .i64) a5,.ref Zb a6,.ref (.int .i64) a7,.ref (.int .i64) a8],.dat (.int .i64) a9 []],.agv [.clo 99 [.ref Za a10,.ref (.int .i64) a11],.dat (.int .i64) a12 []],.agv [.clo 100 [.ref Za a13,.ref (.int .i64) a14,.ref (.int .i64) a15],.dat (.int .i64) a16 []],.agv [.clo 102 [.ref Za a17,.ref (.int .i64) a18,.ref (.int .i64) a19],.dat (.int .i64) a20 []],.agv [.clo 105 [.ref Za a21,.ref Zb a22],.dat (.int .i64) a23 []]]] [.d (.int .i64)]
theorem Yy.eq (n:Nat) (a0:(den Za)) (a1:Int) (a2:Int) (a3:Int) (a4:(den Za)) (a5:Int) (a6:(den Zb)) (a7:Int) (a8:Int) (a9:Int) (a10:(den Za)) (a11:Int) (a12:Int) (a13:(den Za)) (a14:Int) (a15:Int) (a16:Int) (a17:(den Za)) (a18:Int) (a19:Int) (a20:Int) (a21:(den Za)) (a22:(den Zb)) (a23:Int):Yy (n+14) a0 a1 a2 a3 a4 a5 a6 a7 a8 a9 a10 a11 a12 a13 a14 a15 a16 a17 a18 a19 a20 a21 a22 a23 =
  Option.bind (Yt (n+13) a0 a1 a2) fun r1 =>
  bif (r1.1.1:Bool) then
    some ((a3,()),[])
  else
    Option.bind (Jd (n+13) a4 a5 a6 a7 a8) fun r2 =>
    bif (r2.1.1:Bool) then
      some ((a9,()),[])
    else
      Option.bind (Je (n+13) a10 a11) fun r3 =>
      bif (r3.1.1:Bool) then
        some ((a12,()),[])
      else
        Option.bind (Jf (n+13) a13 a14 a15) fun r4 =>
        bif (r4.1.1:Bool) then
          some ((a16,()),[])
        else
          Option.bind (Jg (n+13) a17 a18 a19) fun r5 =>
          bif (r5.1.1:Bool) then
            some ((a20,()),[])
          else
            Option.bind (Jh (n+13) a21 a22) fun r6 =>
            bif (r6.1.1:Bool) then
              some ((a23,()),[])
            else
              some ((0,()),[]):=by kernel_rfl
@[reducible] def V1.R:Type:=Z9 [.d Za,.d (.int .i64)]×Zy
def V1 (n:Nat) (a0:(den Za)) (a1:Int) (a2:Int) (a3:Int):Option V1.R:=gc n 62 [.dat Za a0 [],.dat (.int .i64) a1 [],.dat (.int .i64) a2 [],.dat (.int .i64) a3 []] [.d Za,.d (.int .i64)]
theorem V1.eq (n:Nat) (a0:(den Za)) (a1:Int) (a2:Int) (a3:Int):V1 (n+1) a0 a1 a2 a3 =
  Option.bind (Yy n a0 a2 a3 3 a0 a2 (1,a1,()) a1 a3 5 a0 a3 6 a0 a3 a2 7 a0 a3 a2 8 a0 (2,a3,()) 9) fun r1 =>
  bif (!(decide ((r1.1.1:Int)=0))) then
    some ((a0,(r1.1.1:Int),()),[])
  else
    Option.bind (K3 n a0 a2 (2,a3,())) fun r2 =>
    some ((r2.1.1,0,()),[]):=by kernel_rfl
@[reducible] def Qh.R:Type:=Z9 [.d Za,.d (.int .i64)]×Zy
def Qh (n:Nat) (a0:(den Za)) (a1:Int) (a2:(den Zw)):Option Qh.R:=gc n 61 [.dat Za a0 [],.dat (.int .i64) a1 [],.dat Zw a2 []] [.d Za,.d (.int .i64)]
theorem Qh.eq (n:Nat) (a0:(den Za)) (a1:Int) (a2:(den Zw)):Qh (n+1) a0 a1 a2 =
  Option.bind (V1 n a0 a1 (a2.2.2.1:Int) (a2.2.2.2.1:Int)) fun r1 =>
  some ((r1.1.1,(r1.1.2.1:Int),()),[]):=by kernel_rfl
@[reducible] def Vc.R:Type:=Z9 [.d Za,.d Zn]×Zy
def Vc (n:Nat) (a0:(den Za)) (a1:Int) (a2:(den Zw)):Option Vc.R:=gc n 91 [.dat Za a0 [],.dat (.int .i64) a1 [],.dat Zw a2 [],.refv (.clo 61 [])] [.d Za,.d Zn]
theorem Vc.eq (n:Nat) (a0:(den Za)) (a1:Int) (a2:(den Zw)):Vc (n+1) a0 a1 a2 =
  Option.bind (Qh n a0 a1 a2) fun r1 =>
  Option.bind (Yc n (a2.1:Int) 0 (r1.1.2.1:Int)) fun r2 =>
  some ((r1.1.1,r2.1.1,()),[]):=by kernel_rfl
@[reducible] def Qx.R:Type:=Z9 [.d Zb,.d Zb]×Zy
def Qx (n:Nat) (a0:(den Za)) (a1:Int):Option Qx.R:=gc n 92 [.dat Za a0 [],.dat (.int .i64) a1 []] [.d Zb,.d Zb]
theorem Qx.eq (n:Nat) (a0:(den Za)) (a1:Int):Qx (n+1) a0 a1 =
  if (0:Int)≤a1∧a1<(((List.length (a0.2.1:(List Int))):Nat):Int) then
  some (((0,(List.getD (a0.2.1:(List Int)) (Int.toNat a1) (0:Int):Int),()),(1,a1,()),()),[])
  else none:=by kernel_rfl
@[reducible] def Vp.R:Type:=Z9 [.d Za,.d (.int .i64)]×Zy
def Vp (n:Nat) (a0:(den Za)) (a1:Int) (a2:(den Zb)) (a3:(den Zb)):Option Vp.R:=gc n 93 [.dat Za a0 [],.dat (.int .i64) a1 [],.dat Zb a2 [],.dat Zb a3 []] [.d Za,.d (.int .i64)]
theorem Vp.eq (n:Nat) (a0:(den Za)) (a1:Int) (a2:(den Zb)) (a3:(den Zb)):Vp (n+1) a0 a1 a2 a3 =
  bif (decide (a1<0)) then
    some ((a0,3,()),[])
  else
    bif (decide (((List.length (a0.2.2.2.1:(List (den Zb)))):Int)≤a1)) then
      some ((a0,3,()),[])
    else
      if (0:Int)≤a1∧a1<(((List.length (a0.2.2.2.1:(List (den Zb)))):Nat):Int) then
      bif (!(eqT Zb (List.getD (a0.2.2.2.1:(List (den Zb))) (Int.toNat a1) (dft Zb):(den Zb)) a2)) then
        some ((a0,5,()),[])
      else
        Option.bind (Qz n a0 a3) fun r1 =>
        bif (decide ((r1.1.1:Int)<1)) then
          some ((a0,9,()),[])
        else
          Option.bind (K3 n a0 a1 a3) fun r2 =>
          some ((r2.1.1,0,()),[])
      else none:=by kernel_rfl
@[reducible] def V5.R:Type:=Z9 [.d Za,.d (.int .i64)]×Zy
def V5 (n:Nat) (a0:(den Za)) (a1:Int) (a2:Int):Option V5.R:=gc n 60 [.dat Za a0 [],.dat (.int .i64) a1 [],.dat (.int .i64) a2 []] [.d Za,.d (.int .i64)]
theorem V5.eq (n:Nat) (a0:(den Za)) (a1:Int) (a2:Int):V5 (n+1) a0 a1 a2 =
  Option.bind (Qx n a0 a1) fun r1 =>
  Option.bind (Vp n a0 a2 r1.1.2.1 r1.1.1) fun r2 =>
  some ((r2.1.1,(r2.1.2.1:Int),()),[]):=by kernel_rfl
@[reducible] def Qg.R:Type:=Z9 [.d Za,.d (.int .i64)]×Zy
def Qg (n:Nat) (a0:(den Za)) (a1:Int) (a2:(den Zw)):Option Qg.R:=gc n 59 [.dat Za a0 [],.dat (.int .i64) a1 [],.dat Zw a2 []] [.d Za,.d (.int .i64)]
theorem Qg.eq (n:Nat) (a0:(den Za)) (a1:Int) (a2:(den Zw)):Qg (n+1) a0 a1 a2 =
  Option.bind (V5 n a0 a1 (a2.2.2.1:Int)) fun r1 =>
  some ((r1.1.1,(r1.1.2.1:Int),()),[]):=by kernel_rfl
@[reducible] def Vd.R:Type:=Z9 [.d Za,.d Zn]×Zy
def Vd (n:Nat) (a0:(den Za)) (a1:Int) (a2:(den Zw)):Option Vd.R:=gc n 91 [.dat Za a0 [],.dat (.int .i64) a1 [],.dat Zw a2 [],.refv (.clo 59 [])] [.d Za,.d Zn]
theorem Vd.eq (n:Nat) (a0:(den Za)) (a1:Int) (a2:(den Zw)):Vd (n+1) a0 a1 a2 =
  Option.bind (Qg n a0 a1 a2) fun r1 =>
  Option.bind (Yc n (a2.1:Int) 0 (r1.1.2.1:Int)) fun r2 =>
  some ((r1.1.1,r2.1.1,()),[]):=by kernel_rfl
@[reducible] def Hb.R:Type:=Z9 [.d Za,.d (.int .i64)]×Zy
def Hb (n:Nat) (a0:(den Za)) (a1:Int) (a2:Int):Option Hb.R:=gc n 58 [.dat Za a0 [],.dat (.int .i64) a1 [],.dat (.int .i64) a2 []] [.d Za,.d (.int .i64)]
theorem Hb.eq (n:Nat) (a0:(den Za)) (a1:Int) (a2:Int):Hb (n+1) a0 a1 a2 =
  Option.bind (Qx n a0 a1) fun r1 =>
  Option.bind (Vp n a0 a2 r1.1.1 r1.1.2.1) fun r2 =>
  some ((r2.1.1,(r2.1.2.1:Int),()),[]):=by kernel_rfl
@[reducible] def Qf.R:Type:=Z9 [.d Za,.d (.int .i64)]×Zy
def Qf (n:Nat) (a0:(den Za)) (a1:Int) (a2:(den Zw)):Option Qf.R:=gc n 57 [.dat Za a0 [],.dat (.int .i64) a1 [],.dat Zw a2 []] [.d Za,.d (.int .i64)]
theorem Qf.eq (n:Nat) (a0:(den Za)) (a1:Int) (a2:(den Zw)):Qf (n+1) a0 a1 a2 =
  Option.bind (Hb n a0 a1 (a2.2.2.1:Int)) fun r1 =>
  some ((r1.1.1,(r1.1.2.1:Int),()),[]):=by kernel_rfl
@[reducible] def Ve.R:Type:=Z9 [.d Za,.d Zn]×Zy
def Ve (n:Nat) (a0:(den Za)) (a1:Int) (a2:(den Zw)):Option Ve.R:=gc n 91 [.dat Za a0 [],.dat (.int .i64) a1 [],.dat Zw a2 [],.refv (.clo 57 [])] [.d Za,.d Zn]
theorem Ve.eq (n:Nat) (a0:(den Za)) (a1:Int) (a2:(den Zw)):Ve (n+1) a0 a1 a2 =
  Option.bind (Qf n a0 a1 a2) fun r1 =>
  Option.bind (Yc n (a2.1:Int) 0 (r1.1.2.1:Int)) fun r2 =>
  some ((r1.1.1,r2.1.1,()),[]):=by kernel_rfl
@[reducible] def Hh.R:Type:=Z9 [.clo 128 [.refv (.clo 90 [.ref (.int .i64),.ref Za,.ref (.int .i64)]),.ref Za,.ref (.int .i64)]]×Zy
def Hh (n:Nat) (a0:(den Za)) (a1:Int) (a2:Int) (a3:(den Za)) (a4:Int):Option Hh.R:=gc n 88 [.dat Za a0 [],.dat (.int .i64) a1 [],.clo 90 [.ref (.int .i64) a2,.ref Za a3,.ref (.int .i64) a4]] [.clo 128 [.refv (.clo 90 [.ref (.int .i64),.ref Za,.ref (.int .i64)]),.ref Za,.ref (.int .i64)]]
theorem Hh.eq (n:Nat) (a0:(den Za)) (a1:Int) (a2:Int) (a3:(den Za)) (a4:Int):Hh (n+1) a0 a1 a2 a3 a4 =
  some ((((a2,a3,a4,()),a0,a1,()),()),[]):=by kernel_rfl
@[reducible] def Jj.R:Type:=Z9 [.d (.int .i64)]×Zy
def Jj (n:Nat) (a0:Int) (a1:(den Za)) (a2:Int):Option Jj.R:=gc n 90 [.ref (.int .i64) a0,.ref Za a1,.ref (.int .i64) a2] [.d (.int .i64)]
theorem Jj.eq (n:Nat) (a0:Int) (a1:(den Za)) (a2:Int):Jj (n+1) a0 a1 a2 =
  bif (decide (a0<0)) then
    some ((3,()),[])
  else
    bif (decide (((List.length (a1.2.1:(List Int))):Int)≤a0)) then
      some ((3,()),[])
    else
      bif (decide (a0=a2)) then
        some ((12,()),[])
      else
        if (0:Int)≤a0∧a0<(((List.length (a1.2.1:(List Int))):Nat):Int) then
        if (0:Int)≤a2∧a2<(((List.length (a1.2.1:(List Int))):Nat):Int) then
        bif (!(decide ((List.getD (a1.2.1:(List Int)) (Int.toNat a0) (0:Int):Int)=(List.getD (a1.2.1:(List Int)) (Int.toNat a2) (0:Int):Int)))) then
          some ((5,()),[])
        else
          some ((0,()),[])
        else none
        else none:=by kernel_rfl
@[reducible] def J8.R:Type:=Z9 [.d (.int .i64),.d .bool]×Zy
def J8 (n:Nat) (a0:(den Za)) (a1:Int) (a2:Int):Option J8.R:=gc n 129 [.dat Za a0 [],.dat (.int .i64) a1 [],.dat (.int .i64) a2 []] [.d (.int .i64),.d .bool]
theorem J8.eq (n:Nat) (a0:(den Za)) (a1:Int) (a2:Int):J8 (n+1) a0 a1 a2 =
  if (0:Int)≤a1∧a1<(((List.length (a0.1.1:(List (List Int)))):Nat):Int) then
  if (0:Int)≤a2∧a2<((4:Nat):Int) then
  some (((if (List.getD (List.getD (a0.1.1:(List (List Int))) (Int.toNat a1) (dft (.arr 4 (.int .i64))):(List Int)) (Int.toNat a2) (0:Int):Int)<0 then 0 else (List.getD (List.getD (a0.1.1:(List (List Int))) (Int.toNat a1) (dft (.arr 4 (.int .i64))):(List Int)) (Int.toNat a2) (0:Int):Int)),(decide (0≤(List.getD (List.getD (a0.1.1:(List (List Int))) (Int.toNat a1) (dft (.arr 4 (.int .i64))):(List Int)) (Int.toNat a2) (0:Int):Int))),()),[])
  else none
  else none:=by kernel_rfl
@[reducible] def V9.R:Type:=Z9 [.d Za,.d (.int .i64),.d (.int .i64)]×Zy
def V9 (n:Nat) (a0:Int) (a1:Int) (a2:(den Za)) (a3:Int) (a4:(den Za)) (a5:Int):Option V9.R:=gc n 128 [.dat (.int .i64) a0 [],.refv (.clo 90 [.ref (.int .i64) a1,.ref Za a2,.ref (.int .i64) a3]),.ref Za a4,.ref (.int .i64) a5] [.d Za,.d (.int .i64),.d (.int .i64)]
theorem V9.eq (n:Nat) (a0:Int) (a1:Int) (a2:(den Za)) (a3:Int) (a4:(den Za)) (a5:Int):V9 (n+1) a0 a1 a2 a3 a4 a5 =
  Option.bind (Jj n a1 a2 a3) fun r1 =>
  bif (!(decide ((r1.1.1:Int)=0))) then
    some ((a4,0,(r1.1.1:Int),()),[])
  else
    if (0:Int)≤a0∧a0<(((List.length (a4.2.1:(List Int))):Nat):Int) then
    Option.bind (J8 n a4 (List.getD (a4.2.1:(List Int)) (Int.toNat a0) (0:Int):Int) a5) fun r2 =>
    bif (!(r2.1.2.1:Bool)) then
      some ((a4,0,4,()),[])
    else
      Option.bind (Jb n a4) fun r3 =>
      bif (Zu r3.2 [((0,[1]),2)]) then
        if (0:Int)≤a0∧a0<(((List.length (r3.1.1.2.1:(List Int))):Nat):Int) then
        some (((r3.1.1.1,(List.set (r3.1.1.2.1:(List Int)) (Int.toNat a0) (r2.1.1:Int):(List Int)),(r3.1.1.2.2.1:(List Int)),(r3.1.1.2.2.2.1:(List (den Zb))),()),(r2.1.1:Int),0,()),[(0,[1])])
        else none
      else
        none
    else none:=by kernel_rfl
@[reducible] def V8.R:Type:=Z9 [.d Za,.d (.int .i64),.d (.int .i64)]×Zy
def V8 (n:Nat) (a0:(den Za)) (a1:Int) (a2:Int) (a3:Int):Option V8.R:=gc n 55 [.dat Za a0 [],.dat (.int .i64) a1 [],.dat (.int .i64) a2 [],.dat (.int .i64) a3 []] [.d Za,.d (.int .i64),.d (.int .i64)]
theorem V8.eq (n:Nat) (a0:(den Za)) (a1:Int) (a2:Int) (a3:Int):V8 (n+1) a0 a1 a2 a3 =
  Option.bind (Hh n a0 a3 a2 a0 a1) fun r1 =>
  Option.bind (V9 n a2 (r1.1.1.1.1:Int) r1.1.1.1.2.1 (r1.1.1.1.2.2.1:Int) r1.1.1.2.1 (r1.1.1.2.2.1:Int)) fun r2 =>
  some ((r2.1.1,(r2.1.2.1:Int),(r2.1.2.2.1:Int),()),[]):=by kernel_rfl
@[reducible] def Qe.R:Type:=Z9 [.d Za,.d (.int .i64),.d (.int .i64)]×Zy
def Qe (n:Nat) (a0:(den Za)) (a1:Int) (a2:(den Zw)):Option Qe.R:=gc n 54 [.dat Za a0 [],.dat (.int .i64) a1 [],.dat Zw a2 []] [.d Za,.d (.int .i64),.d (.int .i64)]
theorem Qe.eq (n:Nat) (a0:(den Za)) (a1:Int) (a2:(den Zw)):Qe (n+1) a0 a1 a2 =
  Option.bind (V8 n a0 a1 (a2.2.2.2.2.1:Int) (a2.2.1:Int)) fun r1 =>
  some ((r1.1.1,(r1.1.2.1:Int),(r1.1.2.2.1:Int),()),[]):=by kernel_rfl
@[reducible] def Qk.R:Type:=Z9 [.d Za,.d Zn]×Zy
def Qk (n:Nat) (a0:(den Za)) (a1:Int) (a2:(den Zw)):Option Qk.R:=gc n 86 [.dat Za a0 [],.dat (.int .i64) a1 [],.dat Zw a2 [],.refv (.clo 54 [])] [.d Za,.d Zn]
theorem Qk.eq (n:Nat) (a0:(den Za)) (a1:Int) (a2:(den Zw)):Qk (n+1) a0 a1 a2 =
  Option.bind (Qe n a0 a1 a2) fun r1 =>
  Option.bind (Yc n (a2.1:Int) (r1.1.2.1:Int) (r1.1.2.2.1:Int)) fun r2 =>
  some ((r1.1.1,r2.1.1,()),[]):=by kernel_rfl
@[reducible] def Vv.R:Type:=Z9 [.clo 128 [.refv (.clo 89 []),.ref Za,.ref (.int .i64)]]×Zy
def Vv (n:Nat) (a0:(den Za)) (a1:Int):Option Vv.R:=gc n 88 [.dat Za a0 [],.dat (.int .i64) a1 [],.clo 89 []] [.clo 128 [.refv (.clo 89 []),.ref Za,.ref (.int .i64)]]
theorem Vv.eq (n:Nat) (a0:(den Za)) (a1:Int):Vv (n+1) a0 a1 =
  some ((((()),a0,a1,()),()),[]):=by kernel_rfl
@[reducible] def J3.R:Type:=Z9 [.d (.int .i64)]×Zy
def J3 (n:Nat):Option J3.R:=gc n 89 [] [.d (.int .i64)]
theorem J3.eq (n:Nat):J3 (n+1) =
  some ((0,()),[]):=by kernel_rfl
@[reducible] def Qs.R:Type:=Z9 [.d Za,.d (.int .i64),.d (.int .i64)]×Zy
def Qs (n:Nat) (a0:Int) (a1:(den Za)) (a2:Int):Option Qs.R:=gc n 128 [.dat (.int .i64) a0 [],.refv (.clo 89 []),.ref Za a1,.ref (.int .i64) a2] [.d Za,.d (.int .i64),.d (.int .i64)]
theorem Qs.eq (n:Nat) (a0:Int) (a1:(den Za)) (a2:Int):Qs (n+1) a0 a1 a2 =
  Option.bind (J3 n) fun r1 =>
  bif (!(decide ((r1.1.1:Int)=0))) then
    some ((a1,0,(r1.1.1:Int),()),[])
  else
    if (0:Int)≤a0∧a0<(((List.length (a1.2.1:(List Int))):Nat):Int) then
    Option.bind (J8 n a1 (List.getD (a1.2.1:(List Int)) (Int.toNat a0) (0:Int):Int) a2) fun r2 =>
    bif (!(r2.1.2.1:Bool)) then
      some ((a1,0,4,()),[])
    else
      Option.bind (Jb n a1) fun r3 =>
      bif (Zu r3.2 [((0,[1]),2)]) then
        if (0:Int)≤a0∧a0<(((List.length (r3.1.1.2.1:(List Int))):Nat):Int) then
        some (((r3.1.1.1,(List.set (r3.1.1.2.1:(List Int)) (Int.toNat a0) (r2.1.1:Int):(List Int)),(r3.1.1.2.2.1:(List Int)),(r3.1.1.2.2.2.1:(List (den Zb))),()),(r2.1.1:Int),0,()),[(0,[1])])
        else none
      else
        none
    else none:=by kernel_rfl
@[reducible] def V7.R:Type:=Z9 [.d Za,.d (.int .i64),.d (.int .i64)]×Zy
def V7 (n:Nat) (a0:(den Za)) (a1:Int) (a2:Int):Option V7.R:=gc n 53 [.dat Za a0 [],.dat (.int .i64) a1 [],.dat (.int .i64) a2 []] [.d Za,.d (.int .i64),.d (.int .i64)]
theorem V7.eq (n:Nat) (a0:(den Za)) (a1:Int) (a2:Int):V7 (n+1) a0 a1 a2 =
  Option.bind (Vv n a0 a2) fun r1 =>
  Option.bind (Qs n a1 r1.1.1.2.1 (r1.1.1.2.2.1:Int)) fun r2 =>
  some ((r2.1.1,(r2.1.2.1:Int),(r2.1.2.2.1:Int),()),[]):=by kernel_rfl
@[reducible] def Qd.R:Type:=Z9 [.d Za,.d (.int .i64),.d (.int .i64)]×Zy
def Qd (n:Nat) (a0:(den Za)) (a1:Int) (a2:(den Zw)):Option Qd.R:=gc n 52 [.dat Za a0 [],.dat (.int .i64) a1 [],.dat Zw a2 []] [.d Za,.d (.int .i64),.d (.int .i64)]
theorem Qd.eq (n:Nat) (a0:(den Za)) (a1:Int) (a2:(den Zw)):Qd (n+1) a0 a1 a2 =
  Option.bind (V7 n a0 a1 (a2.2.1:Int)) fun r1 =>
  some ((r1.1.1,(r1.1.2.1:Int),(r1.1.2.2.1:Int),()),[]):=by kernel_rfl
@[reducible] def J9.R:Type:=Z9 [.d Za,.d Zn]×Zy
def J9 (n:Nat) (a0:(den Za)) (a1:Int) (a2:(den Zw)):Option J9.R:=gc n 86 [.dat Za a0 [],.dat (.int .i64) a1 [],.dat Zw a2 [],.refv (.clo 52 [])] [.d Za,.d Zn]
theorem J9.eq (n:Nat) (a0:(den Za)) (a1:Int) (a2:(den Zw)):J9 (n+1) a0 a1 a2 =
  Option.bind (Qd n a0 a1 a2) fun r1 =>
  Option.bind (Yc n (a2.1:Int) (r1.1.2.1:Int) (r1.1.2.2.1:Int)) fun r2 =>
  some ((r1.1.1,r2.1.1,()),[]):=by kernel_rfl
@[reducible] def Q0.R:Type:=Z9 [.d Za,.d Zn]×Zy
def Q0 (n:Nat) (a0:(den Za)) (a1:Int) (a2:(den Zw)):Option Q0.R:=gc n 10 [.dat Za a0 [],.dat (.int .i64) a1 [],.dat Zw a2 []] [.d Za,.d Zn]
theorem Q0.eq (n:Nat) (a0:(den Za)) (a1:Int) (a2:(den Zw)):Q0 (n+1) a0 a1 a2 =
  Option.bind (K1 n a2) fun r1 =>
  bif (!(r1.1.1:Bool)) then
    some ((a0,(2,0,0,([]:List Int),([]:List (den Z2)),0,()),()),[])
  else
    Option.bind (Ww n) fun r2 =>
    bif (decide ((a2.1:Int)=1)) then
      Option.bind (J9 n a0 a1 a2) fun r12 =>
      some ((r12.1.1,r12.1.2.1,()),[])
    else
      bif (decide ((a2.1:Int)=2)) then
        Option.bind (Qk n a0 a1 a2) fun r11 =>
        some ((r11.1.1,r11.1.2.1,()),[])
      else
        bif (decide ((a2.1:Int)=3)) then
          Option.bind (Ve n a0 a1 a2) fun r10 =>
          some ((r10.1.1,r10.1.2.1,()),[])
        else
          bif (decide ((a2.1:Int)=4)) then
            Option.bind (Vd n a0 a1 a2) fun r9 =>
            some ((r9.1.1,r9.1.2.1,()),[])
          else
            bif (decide ((a2.1:Int)=5)) then
              Option.bind (Vc n a0 a1 a2) fun r8 =>
              some ((r8.1.1,r8.1.2.1,()),[])
            else
              bif (decide ((a2.1:Int)=6)) then
                Option.bind (Vb n a0 a1 a2) fun r7 =>
                some ((r7.1.1,r7.1.2.1,()),[])
              else
                bif (decide ((a2.1:Int)=7)) then
                  Option.bind (Va n a0 a1 a2) fun r6 =>
                  some ((r6.1.1,r6.1.2.1,()),[])
                else
                  bif (decide ((a2.1:Int)=8)) then
                    Option.bind (Ql n a0 a1 a2) fun r5 =>
                    some ((r5.1.1,r5.1.2.1,()),[])
                  else
                    bif (decide ((a2.1:Int)=9)) then
                      Option.bind (Jp n a0 a1 a2) fun r4 =>
                      some ((r4.1.1,r4.1.2.1,()),[])
                    else
                      bif (decide ((a2.1:Int)=10)) then
                        Option.bind (Yz n a0 a1 a2) fun r3 =>
                        some ((r3.1.1,r3.1.2.1,()),[])
                      else
                        none:=by kernel_rfl
@[reducible] def Wv.R:Type:=Z9 [.d Za,.d (.sl Zn)]×Zy
def Wv (n:Nat) (a0:(den Za)) (a1:(List (den Ob))):Option Wv.R:=gc n 19 [.dat Za a0 [],.dat (.sl Ob) a1 []] [.d Za,.d (.sl Zn)]
@[reducible] def Q6.R:Type:=Z9 [.d .bool]×Zy
def Q6 (n:Nat) (a0:(List Int)) (a1:(List Int)):Option Q6.R:=gc n 33 [.dat (.sl (.int .i64)) a0 [],.dat (.sl (.int .i64)) a1 []] [.d .bool]
@[reducible] def Qv.R:Type:=Z9 [.d .bool]×Zy
def Qv (n:Nat) (a0:(List (den Z2))) (a1:(List (den Z2))):Option Qv.R:=gc n 35 [.dat (.sl Z2) a0 [],.dat (.sl Z2) a1 []] [.d .bool]
@[reducible] def Q7.R:Type:=Z9 [.d .bool]×Zy
def Q7 (n:Nat) (a0:(den Zn)) (a1:(den Zn)):Option Q7.R:=gc n 13 [.dat Zn a0 [],.dat Zn a1 []] [.d .bool]
@[reducible] def Xw.R:Type:=Z9 [.d .bool]×Zy
def Xw (n:Nat):Option Xw.R:=gc n 7 [] [.d .bool]
@[reducible] def X3.R:Type:=Z9 [.d .bool]×Zy
def X3 (n:Nat) (a0:(den Za)):Option X3.R:=gc n 20 [.dat Za a0 []] [.d .bool]
theorem X3.eq (n:Nat) (a0:(den Za)):X3 (n+1) a0 =
  bif (decide (((List.length (a0.1.1:(List (List Int)))):Int)≤20)) then
    bif (decide (((List.length (a0.1.2.1:(List Int))):Int)≤20)) then
      bif (decide (((List.length (a0.1.2.2.1:(List Int))):Int)≤20)) then
        bif (decide (((List.length (a0.1.2.2.2.1:(List Int))):Int)≤40)) then
          bif (decide (((List.length (a0.1.2.2.2.2.1:(List Bool))):Int)≤40)) then
            bif (decide (((List.length (a0.2.1:(List Int))):Int)≤40)) then
              bif (decide (((List.length (a0.2.2.1:(List Int))):Int)≤40)) then
                some (((decide (((List.length (a0.2.2.2.1:(List (den Zb)))):Int)≤40)),()),[])
              else
                some ((false,()),[])
            else
              some ((false,()),[])
          else
            some ((false,()),[])
        else
          some ((false,()),[])
      else
        some ((false,()),[])
    else
      some ((false,()),[])
  else
    some ((false,()),[]):=by kernel_rfl
@[reducible] def Z5.R:Type:=Z9 [.d .bool]×Zy
def Z5 (n:Nat) (a0:Int) (a1:Int):Option Z5.R:=gc n 37 [.dat (.int .i64) a0 [],.dat (.int .i64) a1 []] [.d .bool]
theorem Z5.eq (n:Nat) (a0:Int) (a1:Int):Z5 (n+1) a0 a1 =
  bif (decide (0≤a0)) then
    some (((decide (a0<a1)),()),[])
  else
    some ((false,()),[]):=by kernel_rfl
@[reducible] def X7.R:Type:=Z9 [.d .bool]×Zy
def X7 (n:Nat) (a0:Int):Option X7.R:=gc n 38 [.dat (.int .i64) a0 []] [.d .bool]
theorem X7.eq (n:Nat) (a0:Int):X7 (n+1) a0 =
  bif (decide (0≤a0)) then
    some (((decide (a0≤1073741824)),()),[])
  else
    some ((false,()),[]):=by kernel_rfl
def Zc.res:List Sh:=[.d .bool]
@[reducible] def Zc.R:Type:=Z9 [.d .bool]×Zy
def Zc (n:Nat) (a0:(den Z4)):Option Zc.R:=gc n 36 [.dat Z4 a0 []] [.d .bool]
def Zc.l0 (n m0:Nat) (t0:(den Z4)) (t2:Bool) (t3:Int) (t4:Int) (o0:(den Z4)):Option Zc.R :=
  lpN n Ol m0 (Jy 0 (Jc (run (gc n) n) Vk (Xd Zc.fn Zc.res) (Xd Zc.fn Zc.res)) (Xd Zc.fn Zc.res))
    [(0,.dat Z4 t0 []),(1,.ptr 0 []),(2,.dat .bool t2 []),(3,.dat (.int .i64) t3 []),(4,.dat (.int .i64) t4 [])]
    [.box Z4 o0 []]
def Zc.l1 (n m0 m1:Nat) (t0_1:(den Z4)) (t2_1:Bool) (t3_1:Int) (t4_1:Int) (t5_1:Int) (o0_1:(den Z4)):Option Zc.R :=
  lpN n AKe m1 (Jy 2 (Jc (run (gc n) n) AKd (Jc (run (gc n) n) Ms (Jc (run (gc n) n) Mr (fun _ s h=>lpN n Ol m0 (Jy 0 (Jc (run (gc n) n) Vk (Xd Zc.fn Zc.res) (Xd Zc.fn Zc.res)) (Xd Zc.fn Zc.res)) s h) (Jy 0 (Jc (run (gc n) n) Vk (Xd Zc.fn Zc.res) (Xd Zc.fn Zc.res)) (Xd Zc.fn Zc.res))) (Jy 0 (Jc (run (gc n) n) Vk (Xd Zc.fn Zc.res) (Xd Zc.fn Zc.res)) (Xd Zc.fn Zc.res))) (Jy 1 (Jc (run (gc n) n) Ms (Jc (run (gc n) n) Mr (fun _ s h=>lpN n Ol m0 (Jy 0 (Jc (run (gc n) n) Vk (Xd Zc.fn Zc.res) (Xd Zc.fn Zc.res)) (Xd Zc.fn Zc.res)) s h) (Jy 0 (Jc (run (gc n) n) Vk (Xd Zc.fn Zc.res) (Xd Zc.fn Zc.res)) (Xd Zc.fn Zc.res))) (Jy 0 (Jc (run (gc n) n) Vk (Xd Zc.fn Zc.res) (Xd Zc.fn Zc.res)) (Xd Zc.fn Zc.res))) (Jy 0 (Jc (run (gc n) n) Vk (Xd Zc.fn Zc.res) (Xd Zc.fn Zc.res)) (Xd Zc.fn Zc.res)))) (Jy 1 (Jc (run (gc n) n) Ms (Jc (run (gc n) n) Mr (fun _ s h=>lpN n Ol m0 (Jy 0 (Jc (run (gc n) n) Vk (Xd Zc.fn Zc.res) (Xd Zc.fn Zc.res)) (Xd Zc.fn Zc.res)) s h) (Jy 0 (Jc (run (gc n) n) Vk (Xd Zc.fn Zc.res) (Xd Zc.fn Zc.res)) (Xd Zc.fn Zc.res))) (Jy 0 (Jc (run (gc n) n) Vk (Xd Zc.fn Zc.res) (Xd Zc.fn Zc.res)) (Xd Zc.fn Zc.res))) (Jy 0 (Jc (run (gc n) n) Vk (Xd Zc.fn Zc.res) (Xd Zc.fn Zc.res)) (Xd Zc.fn Zc.res))))
    [(0,.dat Z4 t0_1 []),(1,.ptr 0 []),(2,.dat .bool t2_1 []),(3,.dat (.int .i64) t3_1 []),(4,.dat (.int .i64) t4_1 []),(5,.dat (.int .i64) t5_1 [])]
    [.box Z4 o0_1 []]
def Zc.l2 (n m0 m1:Nat) (t0_2:(den Z4)) (t2_2:Bool) (t3_2:Int) (t4_2:Int) (t5_2:Int) (t6_2:Int) (t7_2:Int) (o0_2:(den Z4)):Option Zc.R :=
  lpN n AKg m1 (Jy 4 (Jc (run (gc n) n) AKf (Jc (run (gc n) n) Ms (Jc (run (gc n) n) Mr (fun _ s h=>lpN n Ol m0 (Jy 0 (Jc (run (gc n) n) Vk (Xd Zc.fn Zc.res) (Xd Zc.fn Zc.res)) (Xd Zc.fn Zc.res)) s h) (Jy 0 (Jc (run (gc n) n) Vk (Xd Zc.fn Zc.res) (Xd Zc.fn Zc.res)) (Xd Zc.fn Zc.res))) (Jy 0 (Jc (run (gc n) n) Vk (Xd Zc.fn Zc.res) (Xd Zc.fn Zc.res)) (Xd Zc.fn Zc.res))) (Jy 1 (Jc (run (gc n) n) Ms (Jc (run (gc n) n) Mr (fun _ s h=>lpN n Ol m0 (Jy 0 (Jc (run (gc n) n) Vk (Xd Zc.fn Zc.res) (Xd Zc.fn Zc.res)) (Xd Zc.fn Zc.res)) s h) (Jy 0 (Jc (run (gc n) n) Vk (Xd Zc.fn Zc.res) (Xd Zc.fn Zc.res)) (Xd Zc.fn Zc.res))) (Jy 0 (Jc (run (gc n) n) Vk (Xd Zc.fn Zc.res) (Xd Zc.fn Zc.res)) (Xd Zc.fn Zc.res))) (Jy 0 (Jc (run (gc n) n) Vk (Xd Zc.fn Zc.res) (Xd Zc.fn Zc.res)) (Xd Zc.fn Zc.res)))) (Jy 1 (Jc (run (gc n) n) Ms (Jc (run (gc n) n) Mr (fun _ s h=>lpN n Ol m0 (Jy 0 (Jc (run (gc n) n) Vk (Xd Zc.fn Zc.res) (Xd Zc.fn Zc.res)) (Xd Zc.fn Zc.res)) s h) (Jy 0 (Jc (run (gc n) n) Vk (Xd Zc.fn Zc.res) (Xd Zc.fn Zc.res)) (Xd Zc.fn Zc.res))) (Jy 0 (Jc (run (gc n) n) Vk (Xd Zc.fn Zc.res) (Xd Zc.fn Zc.res)) (Xd Zc.fn Zc.res))) (Jy 0 (Jc (run (gc n) n) Vk (Xd Zc.fn Zc.res) (Xd Zc.fn Zc.res)) (Xd Zc.fn Zc.res))))
    [(0,.dat Z4 t0_2 []),(1,.ptr 0 []),(2,.dat .bool t2_2 []),(3,.dat (.int .i64) t3_2 []),(4,.dat (.int .i64) t4_2 []),(5,.dat (.int .i64) t5_2 []),(6,.dat (.int .i64) t6_2 []),(7,.dat (.int .i64) t7_2 [])]
    [.box Z4 o0_2 []]
def Zc.l3 (n m0:Nat) (t0_3:(den Z4)) (t2_3:Bool) (t3_3:Int) (t4_3:Int) (t8_3:Int) (o0_3:(den Z4)):Option Zc.R :=
  lpN n AKi m0 (Jy 6 (Jc (run (gc n) n) AKh (Xd Zc.fn Zc.res) (Xd Zc.fn Zc.res)) (Xd Zc.fn Zc.res))
    [(0,.dat Z4 t0_3 []),(1,.ptr 0 []),(2,.dat .bool t2_3 []),(3,.dat (.int .i64) t3_3 []),(4,.dat (.int .i64) t4_3 []),(8,.dat (.int .i64) t8_3 [])]
    [.box Z4 o0_3 []]
def Zc.l4 (n m0:Nat) (t0_4:(den Z4)) (t2_4:Bool) (t3_4:Int) (t4_4:Int) (t8_4:Int) (t9_4:Int) (o0_4:(den Z4)):Option Zc.R :=
  lpN n AKk m0 (Jy 8 (Jc (run (gc n) n) AKj (Xd Zc.fn Zc.res) (Xd Zc.fn Zc.res)) (Xd Zc.fn Zc.res))
    [(0,.dat Z4 t0_4 []),(1,.ptr 0 []),(2,.dat .bool t2_4 []),(3,.dat (.int .i64) t3_4 []),(4,.dat (.int .i64) t4_4 []),(8,.dat (.int .i64) t8_4 []),(9,.dat (.int .i64) t9_4 [])]
    [.box Z4 o0_4 []]
theorem Zc.l0_eq (n m0:Nat) (t0:(den Z4)) (t2:Bool) (t3:Int) (t4:Int) (o0:(den Z4)):Zc.l0 n (m0+1) t0 t2 t3 t4 o0 =
  bif (decide (t4<t3)) then
    Zc.l1 n m0 n t0 t2 t3 t4 0 o0
  else
    Zc.l3 n n t0 t2 t3 t4 0 o0:=by kernel_rfl
theorem Zc.l1_eq (n m0 m1:Nat) (t0_1:(den Z4)) (t2_1:Bool) (t3_1:Int) (t4_1:Int) (t5_1:Int) (o0_1:(den Z4)):Zc.l1 n m0 (m1+1) t0_1 t2_1 t3_1 t4_1 t5_1 o0_1 =
  bif (decide (t5_1<4)) then
    if (0:Int)≤t4_1∧t4_1<(((List.length (o0_1.1:(List (List Int)))):Nat):Int) then
    if (0:Int)≤t5_1∧t5_1<((4:Nat):Int) then
    bif (!(decide ((List.getD (List.getD (o0_1.1:(List (List Int))) (Int.toNat t4_1) (dft (.arr 4 (.int .i64))):(List Int)) (Int.toNat t5_1) (0:Int):Int)=(-1)))) then
      if (0:Int)≤t4_1∧t4_1<(((List.length (o0_1.1:(List (List Int)))):Nat):Int) then
      if (0:Int)≤t5_1∧t5_1<((4:Nat):Int) then
      Option.bind (Z5 n (List.getD (List.getD (o0_1.1:(List (List Int))) (Int.toNat t4_1) (dft (.arr 4 (.int .i64))):(List Int)) (Int.toNat t5_1) (0:Int):Int) t3_1) fun r4 =>
      bif (!(r4.1.1:Bool)) then
        some ((false,()),[])
      else
        Zc.l1 n m0 m1 t0_1 t2_1 t3_1 t4_1 (IntKind.wrap .i64 (t5_1+1)) o0_1
      else none
      else none
    else
      Zc.l1 n m0 m1 t0_1 t2_1 t3_1 t4_1 (IntKind.wrap .i64 (t5_1+1)) o0_1
    else none
    else none
  else
    Zc.l2 n m0 n t0_1 t2_1 t3_1 t4_1 t5_1 0 0 o0_1:=by kernel_rfl
theorem Zc.l2_eq (n m0 m1:Nat) (t0_2:(den Z4)) (t2_2:Bool) (t3_2:Int) (t4_2:Int) (t5_2:Int) (t6_2:Int) (t7_2:Int) (o0_2:(den Z4)):Zc.l2 n m0 (m1+1) t0_2 t2_2 t3_2 t4_2 t5_2 t6_2 t7_2 o0_2 =
  bif (decide (t7_2<((List.length (o0_2.2.2.2.1:(List Int))):Int))) then
    if (0:Int)≤t7_2∧t7_2<(((List.length (o0_2.2.2.2.1:(List Int))):Nat):Int) then
    bif (decide ((List.getD (o0_2.2.2.2.1:(List Int)) (Int.toNat t7_2) (0:Int):Int)=t4_2)) then
      Zc.l2 n m0 m1 t0_2 t2_2 t3_2 t4_2 t5_2 (IntKind.wrap .i64 (t6_2+1)) (IntKind.wrap .i64 (t7_2+1)) o0_2
    else
      Zc.l2 n m0 m1 t0_2 t2_2 t3_2 t4_2 t5_2 t6_2 (IntKind.wrap .i64 (t7_2+1)) o0_2
    else none
  else
    bif (decide ((o0_2.2.2.2.2.2.1:Int)<t6_2)) then
      some ((false,()),[])
    else
      Zc.l0 n m0 t0_2 t2_2 t3_2 (IntKind.wrap .i64 (t4_2+1)) o0_2:=by kernel_rfl
theorem Zc.l3_eq (n m0:Nat) (t0_3:(den Z4)) (t2_3:Bool) (t3_3:Int) (t4_3:Int) (t8_3:Int) (o0_3:(den Z4)):Zc.l3 n (m0+1) t0_3 t2_3 t3_3 t4_3 t8_3 o0_3 =
  bif (decide (t8_3<((List.length (o0_3.2.1:(List Int))):Int))) then
    if (0:Int)≤t8_3∧t8_3<(((List.length (o0_3.2.1:(List Int))):Nat):Int) then
    Option.bind (Z5 n (List.getD (o0_3.2.1:(List Int)) (Int.toNat t8_3) (0:Int):Int) t3_3) fun r5 =>
    bif (!(r5.1.1:Bool)) then
      some ((false,()),[])
    else
      if (0:Int)≤t8_3∧t8_3<(((List.length (o0_3.2.2.1:(List Int))):Nat):Int) then
      Option.bind (X7 n (List.getD (o0_3.2.2.1:(List Int)) (Int.toNat t8_3) (0:Int):Int)) fun r6 =>
      bif (!(r6.1.1:Bool)) then
        some ((false,()),[])
      else
        Zc.l3 n m0 t0_3 t2_3 t3_3 t4_3 (IntKind.wrap .i64 (t8_3+1)) o0_3
      else none
    else none
  else
    Zc.l4 n n t0_3 t2_3 t3_3 t4_3 t8_3 0 o0_3:=by kernel_rfl
theorem Zc.l4_eq (n m0:Nat) (t0_4:(den Z4)) (t2_4:Bool) (t3_4:Int) (t4_4:Int) (t8_4:Int) (t9_4:Int) (o0_4:(den Z4)):Zc.l4 n (m0+1) t0_4 t2_4 t3_4 t4_4 t8_4 t9_4 o0_4 =
  bif (decide (t9_4<((List.length (o0_4.2.2.2.1:(List Int))):Int))) then
    if (0:Int)≤t9_4∧t9_4<(((List.length (o0_4.2.2.2.1:(List Int))):Nat):Int) then
    Option.bind (Z5 n (List.getD (o0_4.2.2.2.1:(List Int)) (Int.toNat t9_4) (0:Int):Int) t3_4) fun r7 =>
    bif (!(r7.1.1:Bool)) then
      some ((false,()),[])
    else
      Zc.l4 n m0 t0_4 t2_4 t3_4 t4_4 t8_4 (IntKind.wrap .i64 (t9_4+1)) o0_4
    else none
  else
    some ((true,()),[]):=by kernel_rfl
theorem Zc.eq (n:Nat) (a0:(den Z4)):Zc (n+1) a0 =
  bif (decide (((List.length (a0.1:(List (List Int)))):Int)<1)) then
    some ((false,()),[])
  else
    bif (decide (8<((List.length (a0.1:(List (List Int)))):Int))) then
      some ((false,()),[])
    else
      bif (decide (((List.length (a0.2.1:(List Int))):Int)<1)) then
        some ((false,()),[])
      else
        bif (decide (6<((List.length (a0.2.1:(List Int))):Int))) then
          some ((false,()),[])
        else
          bif (!(decide (((List.length (a0.2.2.1:(List Int))):Int)=((List.length (a0.2.1:(List Int))):Int)))) then
            some ((false,()),[])
          else
            bif (decide (16<((List.length (a0.2.2.2.1:(List Int))):Int))) then
              some ((false,()),[])
            else
              bif (!(decide (((List.length (a0.2.2.2.2.1:(List Bool))):Int)=((List.length (a0.2.2.2.1:(List Int))):Int)))) then
                some ((false,()),[])
              else
                Option.bind (Z5 n (a0.2.2.2.2.2.1:Int) 65) fun r1 =>
                bif (!(r1.1.1:Bool)) then
                  some ((false,()),[])
                else
                  Option.bind (Z5 n (a0.2.2.2.2.2.2.1:Int) 65) fun r2 =>
                  bif (!(r2.1.1:Bool)) then
                    some ((false,()),[])
                  else
                    Option.bind (Z5 n (a0.2.2.2.2.2.2.2.1:Int) 65) fun r3 =>
                    bif (!(r3.1.1:Bool)) then
                      some ((false,()),[])
                    else
                      Zc.l0 n n a0 false ((List.length (a0.1:(List (List Int)))):Int) 0 a0:=by kernel_rfl
def Zx.res:List Sh:=[.d (.int .i64)]
@[reducible] def Zx.R:Type:=Z9 [.d (.int .i64)]×Zy
def Zx (n:Nat) (a0:(den Za)) (a1:(den Zb)):Option Zx.R:=gc n 39 [.dat Za a0 [],.dat Zb a1 []] [.d (.int .i64)]
def Zx.l0 (n m0:Nat) (t0:(den Za)) (t1:(den Zb)) (t4:Int) (t5:Int) (o0:(den Za)) (o1:(den Zb)):Option Zx.R :=
  lpN n ARi m0 (Jy 0 (Jc (run (gc n) n) ARh (Xd Zx.fn Zx.res) (Xd Zx.fn Zx.res)) (Xd Zx.fn Zx.res))
    [(0,.dat Za t0 []),(1,.dat Zb t1 []),(2,.ptr 0 []),(3,.ptr 1 []),(4,.dat (.int .i64) t4 []),(5,.dat (.int .i64) t5 [])]
    [.box Za o0 [],.box Zb o1 []]
theorem Zx.l0_eq (n m0:Nat) (t0:(den Za)) (t1:(den Zb)) (t4:Int) (t5:Int) (o0:(den Za)) (o1:(den Zb)):Zx.l0 n (m0+1) t0 t1 t4 t5 o0 o1 =
  bif (decide ((o1.1:Int)=2)) then
    bif (decide (50<(IntKind.wrap .i64 (t5+1)))) then
      some ((99,()),[])
    else
      if (0:Int)≤(o1.2.1:Int)∧(o1.2.1:Int)<(((List.length (o0.2.2.2.1:(List (den Zb)))):Nat):Int) then
      Zx.l0 n m0 t0 t1 t4 (IntKind.wrap .i64 (t5+1)) o0 (List.getD (o0.2.2.2.1:(List (den Zb))) (Int.toNat (o1.2.1:Int)) (dft Zb):(den Zb))
      else none
  else
    some ((t5,()),[]):=by kernel_rfl
theorem Zx.eq (n:Nat) (a0:(den Za)) (a1:(den Zb)):Zx (n+1) a0 a1 =
  Zx.l0 n n a0 a1 0 0 a0 a1:=by kernel_rfl
def Zz.res:List Sh:=[.d (.int .i64)]
@[reducible] def Zz.R:Type:=Z9 [.d (.int .i64)]×Zy
def Zz (n:Nat) (a0:(den Za)) (a1:(den Zb)):Option Zz.R:=gc n 40 [.dat Za a0 [],.dat Zb a1 []] [.d (.int .i64)]
def Zz.l0 (n m0:Nat) (t0:(den Za)) (t1:(den Zb)) (t4:Int) (t5:Int) (t6:Int) (o0:(den Za)) (o1:(den Zb)):Option Zz.R :=
  lpN n ARk m0 (Jy 0 (Jc (run (gc n) n) ARj (Xd Zz.fn Zz.res) (Xd Zz.fn Zz.res)) (Xd Zz.fn Zz.res))
    [(0,.dat Za t0 []),(1,.dat Zb t1 []),(2,.ptr 0 []),(3,.ptr 1 []),(4,.dat (.int .i64) t4 []),(5,.dat (.int .i64) t5 []),(6,.dat (.int .i64) t6 [])]
    [.box Za o0 [],.box Zb o1 []]
theorem Zz.l0_eq (n m0:Nat) (t0:(den Za)) (t1:(den Zb)) (t4:Int) (t5:Int) (t6:Int) (o0:(den Za)) (o1:(den Zb)):Zz.l0 n (m0+1) t0 t1 t4 t5 t6 o0 o1 =
  bif (decide (t6<((List.length (o0.2.2.2.1:(List (den Zb)))):Int))) then
    if (0:Int)≤t6∧t6<(((List.length (o0.2.2.2.1:(List (den Zb)))):Nat):Int) then
    bif (eqT Zb (List.getD (o0.2.2.2.1:(List (den Zb))) (Int.toNat t6) (dft Zb):(den Zb)) o1) then
      Zz.l0 n m0 t0 t1 t4 (IntKind.wrap .i64 (t5+1)) (IntKind.wrap .i64 (t6+1)) o0 o1
    else
      Zz.l0 n m0 t0 t1 t4 t5 (IntKind.wrap .i64 (t6+1)) o0 o1
    else none
  else
    some ((t5,()),[]):=by kernel_rfl
theorem Zz.eq (n:Nat) (a0:(den Za)) (a1:(den Zb)):Zz (n+1) a0 a1 =
  Zz.l0 n n a0 a1 0 0 0 a0 a1:=by kernel_rfl
@[reducible] def X9.R:Type:=Z9 [.d (.int .i64)]×Zy
def X9 (n:Nat) (a0:(den Za)) (a1:(den Zb)):Option X9.R:=gc n 41 [.dat Za a0 [],.dat Zb a1 []] [.d (.int .i64)]
theorem X9.eq (n:Nat) (a0:(den Za)) (a1:(den Zb)):X9 (n+1) a0 a1 =
  if (0:Int)≤(a1.1:Int)∧(a1.1:Int)<((3:Nat):Int) then
  some (((List.getD ([(a0.1.2.2.2.2.2.1:Int),(a0.1.2.2.2.2.2.2.1:Int),(a0.1.2.2.2.2.2.2.2.1:Int)]:List Int) (Int.toNat (a1.1:Int)) (0:Int):Int),()),[])
  else none:=by kernel_rfl
def Zg.res:List Sh:=[.d .bool]
@[reducible] def Zg.R:Type:=Z9 [.d .bool]×Zy
def Zg (n:Nat) (a0:(den Za)):Option Zg.R:=gc n 14 [.dat Za a0 []] [.d .bool]
def Zg.l0 (n m0:Nat) (t0:(den Za)) (t2:Bool) (t4:Int) (o0:(den Za)) (o1:(den Z4)):Option Zg.R :=
  lpN n AJ8 m0 (Jy 0 (Jc (run (gc n) n) ARg (Xd Zg.fn Zg.res) (Xd Zg.fn Zg.res)) (Xd Zg.fn Zg.res))
    [(0,.dat Za t0 []),(1,.ptr 0 []),(2,.dat .bool t2 []),(3,.ptr 1 []),(4,.dat (.int .i64) t4 [])]
    [.box Za o0 [],.box Z4 o1 []]
def Zg.l1 (n m0:Nat) (t0_1:(den Za)) (t2_1:Bool) (t4_1:Int) (t5_1:Int) (o0_1:(den Za)) (o1_1:(den Z4)):Option Zg.R :=
  lpN n AKa m0 (Jy 2 (Jc (run (gc n) n) AJ9 (Xd Zg.fn Zg.res) (Xd Zg.fn Zg.res)) (Xd Zg.fn Zg.res))
    [(0,.dat Za t0_1 []),(1,.ptr 0 []),(2,.dat .bool t2_1 []),(3,.ptr 1 []),(4,.dat (.int .i64) t4_1 []),(5,.dat (.int .i64) t5_1 [])]
    [.box Za o0_1 [],.box Z4 o1_1 []]
def Zg.l2 (n m0:Nat) (t0_2:(den Za)) (t2_2:Bool) (t4_2:Int) (t5_2:Int) (t8_2:Int) (o0_2:(den Za)) (o1_2:(den Z4)):Option Zg.R :=
  lpN n AKc m0 (Jy 4 (Jc (run (gc n) n) AKb (Xd Zg.fn Zg.res) (Xd Zg.fn Zg.res)) (Xd Zg.fn Zg.res))
    [(0,.dat Za t0_2 []),(1,.ptr 0 []),(2,.dat .bool t2_2 []),(3,.ptr 1 []),(4,.dat (.int .i64) t4_2 []),(5,.dat (.int .i64) t5_2 []),(8,.dat (.int .i64) t8_2 [])]
    [.box Za o0_2 [],.box Z4 o1_2 []]
theorem Zg.l0_eq (n m0:Nat) (t0:(den Za)) (t2:Bool) (t4:Int) (o0:(den Za)) (o1:(den Z4)):Zg.l0 n (m0+1) t0 t2 t4 o0 o1 =
  bif (decide (t4<((List.length (o0.2.1:(List Int))):Int))) then
    if (0:Int)≤t4∧t4<(((List.length (o0.2.1:(List Int))):Nat):Int) then
    Option.bind (Z5 n (List.getD (o0.2.1:(List Int)) (Int.toNat t4) (0:Int):Int) ((List.length (o1.1:(List (List Int)))):Int)) fun r2 =>
    bif (!(r2.1.1:Bool)) then
      some ((false,()),[])
    else
      if (0:Int)≤t4∧t4<(((List.length (o0.2.2.1:(List Int))):Nat):Int) then
      Option.bind (X7 n (List.getD (o0.2.2.1:(List Int)) (Int.toNat t4) (0:Int):Int)) fun r3 =>
      bif (!(r3.1.1:Bool)) then
        some ((false,()),[])
      else
        Zg.l0 n m0 t0 t2 (IntKind.wrap .i64 (t4+1)) o0 o1
      else none
    else none
  else
    Zg.l1 n n t0 t2 t4 0 o0 o1:=by kernel_rfl
theorem Zg.l1_eq (n m0:Nat) (t0_1:(den Za)) (t2_1:Bool) (t4_1:Int) (t5_1:Int) (o0_1:(den Za)) (o1_1:(den Z4)):Zg.l1 n (m0+1) t0_1 t2_1 t4_1 t5_1 o0_1 o1_1 =
  bif (decide (t5_1<((List.length (o0_1.2.2.2.1:(List (den Zb)))):Int))) then
    if (0:Int)≤t5_1∧t5_1<(((List.length (o0_1.2.2.2.1:(List (den Zb)))):Nat):Int) then
    bif (decide (((List.getD (o0_1.2.2.2.1:(List (den Zb))) (Int.toNat t5_1) (dft Zb):(den Zb)).1:Int)=0)) then
      Option.bind (Z5 n ((List.getD (o0_1.2.2.2.1:(List (den Zb))) (Int.toNat t5_1) (dft Zb):(den Zb)).2.1:Int) ((List.length (o1_1.1:(List (List Int)))):Int)) fun r4 =>
      bif (r4.1.1:Bool) then
        Zg.l1 n m0 t0_1 t2_1 t4_1 (IntKind.wrap .i64 (t5_1+1)) o0_1 o1_1
      else
        bif (decide (((List.getD (o0_1.2.2.2.1:(List (den Zb))) (Int.toNat t5_1) (dft Zb):(den Zb)).1:Int)=1)) then
          Option.bind (Z5 n ((List.getD (o0_1.2.2.2.1:(List (den Zb))) (Int.toNat t5_1) (dft Zb):(den Zb)).2.1:Int) ((List.length (o1_1.2.1:(List Int))):Int)) fun r5 =>
          bif (r5.1.1:Bool) then
            Zg.l1 n m0 t0_1 t2_1 t4_1 (IntKind.wrap .i64 (t5_1+1)) o0_1 o1_1
          else
            bif (decide (((List.getD (o0_1.2.2.2.1:(List (den Zb))) (Int.toNat t5_1) (dft Zb):(den Zb)).1:Int)=2)) then
              Option.bind (Z5 n ((List.getD (o0_1.2.2.2.1:(List (den Zb))) (Int.toNat t5_1) (dft Zb):(den Zb)).2.1:Int) ((List.length (o1_1.2.2.2.1:(List Int))):Int)) fun r6 =>
              bif (r6.1.1:Bool) then
                if (0:Int)≤((List.getD (o0_1.2.2.2.1:(List (den Zb))) (Int.toNat t5_1) (dft Zb):(den Zb)).2.1:Int)∧((List.getD (o0_1.2.2.2.1:(List (den Zb))) (Int.toNat t5_1) (dft Zb):(den Zb)).2.1:Int)<(((List.length (o1_1.2.2.2.2.1:(List Bool))):Nat):Int) then
                bif (!(List.getD (o1_1.2.2.2.2.1:(List Bool)) (Int.toNat ((List.getD (o0_1.2.2.2.1:(List (den Zb))) (Int.toNat t5_1) (dft Zb):(den Zb)).2.1:Int)) false:Bool)) then
                  some ((false,()),[])
                else
                  Zg.l1 n m0 t0_1 t2_1 t4_1 (IntKind.wrap .i64 (t5_1+1)) o0_1 o1_1
                else none
              else
                some ((false,()),[])
            else
              some ((false,()),[])
        else
          bif (decide (((List.getD (o0_1.2.2.2.1:(List (den Zb))) (Int.toNat t5_1) (dft Zb):(den Zb)).1:Int)=2)) then
            Option.bind (Z5 n ((List.getD (o0_1.2.2.2.1:(List (den Zb))) (Int.toNat t5_1) (dft Zb):(den Zb)).2.1:Int) ((List.length (o1_1.2.2.2.1:(List Int))):Int)) fun r7 =>
            bif (r7.1.1:Bool) then
              if (0:Int)≤((List.getD (o0_1.2.2.2.1:(List (den Zb))) (Int.toNat t5_1) (dft Zb):(den Zb)).2.1:Int)∧((List.getD (o0_1.2.2.2.1:(List (den Zb))) (Int.toNat t5_1) (dft Zb):(den Zb)).2.1:Int)<(((List.length (o1_1.2.2.2.2.1:(List Bool))):Nat):Int) then
              bif (!(List.getD (o1_1.2.2.2.2.1:(List Bool)) (Int.toNat ((List.getD (o0_1.2.2.2.1:(List (den Zb))) (Int.toNat t5_1) (dft Zb):(den Zb)).2.1:Int)) false:Bool)) then
                some ((false,()),[])
              else
                Zg.l1 n m0 t0_1 t2_1 t4_1 (IntKind.wrap .i64 (t5_1+1)) o0_1 o1_1
              else none
            else
              some ((false,()),[])
          else
            some ((false,()),[])
    else
      bif (decide (((List.getD (o0_1.2.2.2.1:(List (den Zb))) (Int.toNat t5_1) (dft Zb):(den Zb)).1:Int)=1)) then
        Option.bind (Z5 n ((List.getD (o0_1.2.2.2.1:(List (den Zb))) (Int.toNat t5_1) (dft Zb):(den Zb)).2.1:Int) ((List.length (o1_1.2.1:(List Int))):Int)) fun r8 =>
        bif (r8.1.1:Bool) then
          Zg.l1 n m0 t0_1 t2_1 t4_1 (IntKind.wrap .i64 (t5_1+1)) o0_1 o1_1
        else
          bif (decide (((List.getD (o0_1.2.2.2.1:(List (den Zb))) (Int.toNat t5_1) (dft Zb):(den Zb)).1:Int)=2)) then
            Option.bind (Z5 n ((List.getD (o0_1.2.2.2.1:(List (den Zb))) (Int.toNat t5_1) (dft Zb):(den Zb)).2.1:Int) ((List.length (o1_1.2.2.2.1:(List Int))):Int)) fun r9 =>
            bif (r9.1.1:Bool) then
              if (0:Int)≤((List.getD (o0_1.2.2.2.1:(List (den Zb))) (Int.toNat t5_1) (dft Zb):(den Zb)).2.1:Int)∧((List.getD (o0_1.2.2.2.1:(List (den Zb))) (Int.toNat t5_1) (dft Zb):(den Zb)).2.1:Int)<(((List.length (o1_1.2.2.2.2.1:(List Bool))):Nat):Int) then
              bif (!(List.getD (o1_1.2.2.2.2.1:(List Bool)) (Int.toNat ((List.getD (o0_1.2.2.2.1:(List (den Zb))) (Int.toNat t5_1) (dft Zb):(den Zb)).2.1:Int)) false:Bool)) then
                some ((false,()),[])
              else
                Zg.l1 n m0 t0_1 t2_1 t4_1 (IntKind.wrap .i64 (t5_1+1)) o0_1 o1_1
              else none
            else
              some ((false,()),[])
          else
            some ((false,()),[])
      else
        bif (decide (((List.getD (o0_1.2.2.2.1:(List (den Zb))) (Int.toNat t5_1) (dft Zb):(den Zb)).1:Int)=2)) then
          Option.bind (Z5 n ((List.getD (o0_1.2.2.2.1:(List (den Zb))) (Int.toNat t5_1) (dft Zb):(den Zb)).2.1:Int) ((List.length (o1_1.2.2.2.1:(List Int))):Int)) fun r10 =>
          bif (r10.1.1:Bool) then
            if (0:Int)≤((List.getD (o0_1.2.2.2.1:(List (den Zb))) (Int.toNat t5_1) (dft Zb):(den Zb)).2.1:Int)∧((List.getD (o0_1.2.2.2.1:(List (den Zb))) (Int.toNat t5_1) (dft Zb):(den Zb)).2.1:Int)<(((List.length (o1_1.2.2.2.2.1:(List Bool))):Nat):Int) then
            bif (!(List.getD (o1_1.2.2.2.2.1:(List Bool)) (Int.toNat ((List.getD (o0_1.2.2.2.1:(List (den Zb))) (Int.toNat t5_1) (dft Zb):(den Zb)).2.1:Int)) false:Bool)) then
              some ((false,()),[])
            else
              Zg.l1 n m0 t0_1 t2_1 t4_1 (IntKind.wrap .i64 (t5_1+1)) o0_1 o1_1
            else none
          else
            some ((false,()),[])
        else
          some ((false,()),[])
    else none
  else
    Zg.l2 n n t0_1 t2_1 t4_1 t5_1 0 o0_1 o1_1:=by kernel_rfl
theorem Zg.l2_eq (n m0:Nat) (t0_2:(den Za)) (t2_2:Bool) (t4_2:Int) (t5_2:Int) (t8_2:Int) (o0_2:(den Za)) (o1_2:(den Z4)):Zg.l2 n (m0+1) t0_2 t2_2 t4_2 t5_2 t8_2 o0_2 o1_2 =
  bif (decide (t8_2<((List.length (o0_2.2.2.2.1:(List (den Zb)))):Int))) then
    if (0:Int)≤t8_2∧t8_2<(((List.length (o0_2.2.2.2.1:(List (den Zb)))):Nat):Int) then
    Option.bind (Zx n o0_2 (List.getD (o0_2.2.2.2.1:(List (den Zb))) (Int.toNat t8_2) (dft Zb):(den Zb))) fun r11 =>
    bif (decide (4<(r11.1.1:Int))) then
      some ((false,()),[])
    else
      if (0:Int)≤t8_2∧t8_2<(((List.length (o0_2.2.2.2.1:(List (den Zb)))):Nat):Int) then
      Option.bind (Zz n o0_2 (List.getD (o0_2.2.2.2.1:(List (den Zb))) (Int.toNat t8_2) (dft Zb):(den Zb))) fun r12 =>
      if (0:Int)≤t8_2∧t8_2<(((List.length (o0_2.2.2.2.1:(List (den Zb)))):Nat):Int) then
      Option.bind (X9 n o0_2 (List.getD (o0_2.2.2.2.1:(List (den Zb))) (Int.toNat t8_2) (dft Zb):(den Zb))) fun r13 =>
      bif (decide ((r13.1.1:Int)<(r12.1.1:Int))) then
        some ((false,()),[])
      else
        Zg.l2 n m0 t0_2 t2_2 t4_2 t5_2 (IntKind.wrap .i64 (t8_2+1)) o0_2 o1_2
      else none
      else none
    else none
  else
    some ((true,()),[]):=by kernel_rfl
theorem Zg.eq (n:Nat) (a0:(den Za)):Zg (n+1) a0 =
  Option.bind (Zc n a0.1) fun r1 =>
  bif (!(r1.1.1:Bool)) then
    some ((false,()),[])
  else
    bif (!(decide (((List.length (a0.2.1:(List Int))):Int)=((List.length (a0.1.2.1:(List Int))):Int)))) then
      some ((false,()),[])
    else
      bif (!(decide (((List.length (a0.2.2.1:(List Int))):Int)=((List.length (a0.1.2.1:(List Int))):Int)))) then
        some ((false,()),[])
      else
        bif (!(decide (((List.length (a0.2.2.2.1:(List (den Zb)))):Int)=((List.length (a0.1.2.2.2.1:(List Int))):Int)))) then
          some ((false,()),[])
        else
          Zg.l0 n n a0 false 0 a0 a0.1:=by kernel_rfl
@[reducible] def X4.R:Type:=Z9 [.d .bool]×Zy
def X4 (n:Nat) (a0:(den Za)):Option X4.R:=gc n 8 [.dat Za a0 []] [.d .bool]
theorem X4.eq (n:Nat) (a0:(den Za)):X4 (n+1) a0 =
  Option.bind (X3 n a0) fun r1 =>
  bif (r1.1.1:Bool) then
    Option.bind (Zg n a0) fun r2 =>
    some (((r2.1.1:Bool),()),[])
  else
    some ((false,()),[]):=by kernel_rfl
@[reducible] def X8.R:Type:=Z9 [.d .bool]×Zy
def X8 (n:Nat) (a0:(den Zw)):Option X8.R:=gc n 9 [.dat Zw a0 []] [.d .bool]
theorem X8.eq (n:Nat) (a0:(den Zw)):X8 (n+1) a0 =
  bif (decide (((List.length (a0.2.2.2.2.2.1:(List Int))):Int)≤40)) then
    some (((decide (((List.length (a0.2.2.2.2.2.2.2.1:(List Int))):Int)≤40)),()),[])
  else
    some ((false,()),[]):=by kernel_rfl
@[reducible] def Zf.R:Type:=Z9 [.d .bool]×Zy
def Zf (n:Nat) (a0:Int) (a1:Bool):Option Zf.R:=gc n 43 [.dat (.int .i64) a0 [],.dat .bool a1 []] [.d .bool]
theorem Zf.eq (n:Nat) (a0:Int) (a1:Bool):Zf (n+1) a0 a1 =
  bif (!a1) then
    some (((decide (a0=0)),()),[])
  else
    bif (decide (0≤a0)) then
      some (((decide (a0≤1073741824)),()),[])
    else
      some ((false,()),[]):=by kernel_rfl
def Zh.res:List Sh:=[.d .bool]
@[reducible] def Zh.R:Type:=Z9 [.d .bool]×Zy
def Zh (n:Nat) (a0:(List Int)) (a1:Bool):Option Zh.R:=gc n 44 [.dat (.sl (.int .i64)) a0 [],.dat .bool a1 []] [.d .bool]
def Zh.l0 (n m0:Nat) (t0:(List Int)) (t1:Bool) (t4:Bool) (t5:Int):Option Zh.R :=
  lpN n AKl m0 (Jy 0 (Jc (run (gc n) n) ARl (Xd Zh.fn Zh.res) (Xd Zh.fn Zh.res)) (Xd Zh.fn Zh.res))
    [(0,.dat (.sl (.int .i64)) t0 []),(1,.dat .bool t1 []),(4,.dat .bool t4 []),(5,.dat (.int .i64) t5 [])]
    []
theorem Zh.l0_eq (n m0:Nat) (t0:(List Int)) (t1:Bool) (t4:Bool) (t5:Int):Zh.l0 n (m0+1) t0 t1 t4 t5 =
  bif (decide (t5<((List.length t0):Int))) then
    if (0:Int)≤t5∧t5<(((List.length t0):Nat):Int) then
    Option.bind (Zf n (List.getD t0 (Int.toNat t5) (0:Int):Int) true) fun r1 =>
    bif (!(r1.1.1:Bool)) then
      some ((false,()),[])
    else
      Zh.l0 n m0 t0 t1 t4 (IntKind.wrap .i64 (t5+1))
    else none
  else
    some (((decide (((List.length t0):Int)≤16)),()),[]):=by kernel_rfl
theorem Zh.eq (n:Nat) (a0:(List Int)) (a1:Bool):Zh (n+1) a0 a1 =
  bif (!a1) then
    some (((decide (((List.length a0):Int)=0)),()),[])
  else
    Zh.l0 n n a0 a1 false 0:=by kernel_rfl
@[reducible] def X2.R:Type:=Z9 [.d .bool]×Zy
def X2 (n:Nat) (a0:(den Zw)):Option X2.R:=gc n 17 [.dat Zw a0 []] [.d .bool]
theorem X2.eq (n:Nat) (a0:(den Zw)):X2 (n+1) a0 =
  bif (decide ((a0.1:Int)<1)) then
    some ((false,()),[])
  else
    bif (decide (10<(a0.1:Int))) then
      some ((false,()),[])
    else
      bif (decide ((a0.2.1:Int)<0)) then
        some ((false,()),[])
      else
        bif (decide (3<(a0.2.1:Int))) then
          some ((false,()),[])
        else
          bif (!(decide ((a0.2.1:Int)=0))) then
            bif (decide (2<(a0.1:Int))) then
              some ((false,()),[])
            else
              bif (decide (3≤(a0.1:Int))) then
                Option.bind (Zf n (a0.2.2.1:Int) (decide ((a0.1:Int)≤7))) fun r1 =>
                bif (r1.1.1:Bool) then
                  bif (decide ((a0.1:Int)=5)) then
                    Option.bind (Zf n (a0.2.2.2.1:Int) true) fun r2 =>
                    bif (r2.1.1:Bool) then
                      bif (decide ((a0.1:Int)=2)) then
                        Option.bind (Zf n (a0.2.2.2.2.1:Int) true) fun r3 =>
                        bif (r3.1.1:Bool) then
                          Option.bind (Zf n (a0.2.2.2.2.2.2.1:Int) (decide ((a0.1:Int)=8))) fun r4 =>
                          bif (r4.1.1:Bool) then
                            Option.bind (Zf n (a0.2.2.2.2.2.2.2.2.1:Int) (decide ((a0.1:Int)=8))) fun r5 =>
                            bif (r5.1.1:Bool) then
                              Option.bind (Zh n (a0.2.2.2.2.2.1:(List Int)) (decide ((a0.1:Int)=8))) fun r6 =>
                              bif (r6.1.1:Bool) then
                                Option.bind (Zh n (a0.2.2.2.2.2.2.2.1:(List Int)) (decide ((a0.1:Int)=8))) fun r7 =>
                                some (((r7.1.1:Bool),()),[])
                              else
                                some ((false,()),[])
                            else
                              some ((false,()),[])
                          else
                            some ((false,()),[])
                        else
                          some ((false,()),[])
                      else
                        bif (decide ((a0.1:Int)=7)) then
                          Option.bind (Zf n (a0.2.2.2.2.1:Int) true) fun r8 =>
                          bif (r8.1.1:Bool) then
                            Option.bind (Zf n (a0.2.2.2.2.2.2.1:Int) (decide ((a0.1:Int)=8))) fun r9 =>
                            bif (r9.1.1:Bool) then
                              Option.bind (Zf n (a0.2.2.2.2.2.2.2.2.1:Int) (decide ((a0.1:Int)=8))) fun r10 =>
                              bif (r10.1.1:Bool) then
                                Option.bind (Zh n (a0.2.2.2.2.2.1:(List Int)) (decide ((a0.1:Int)=8))) fun r11 =>
                                bif (r11.1.1:Bool) then
                                  Option.bind (Zh n (a0.2.2.2.2.2.2.2.1:(List Int)) (decide ((a0.1:Int)=8))) fun r12 =>
                                  some (((r12.1.1:Bool),()),[])
                                else
                                  some ((false,()),[])
                              else
                                some ((false,()),[])
                            else
                              some ((false,()),[])
                          else
                            some ((false,()),[])
                        else
                          Option.bind (Zf n (a0.2.2.2.2.1:Int) (decide ((a0.1:Int)=8))) fun r13 =>
                          bif (r13.1.1:Bool) then
                            Option.bind (Zf n (a0.2.2.2.2.2.2.1:Int) (decide ((a0.1:Int)=8))) fun r14 =>
                            bif (r14.1.1:Bool) then
                              Option.bind (Zf n (a0.2.2.2.2.2.2.2.2.1:Int) (decide ((a0.1:Int)=8))) fun r15 =>
                              bif (r15.1.1:Bool) then
                                Option.bind (Zh n (a0.2.2.2.2.2.1:(List Int)) (decide ((a0.1:Int)=8))) fun r16 =>
                                bif (r16.1.1:Bool) then
                                  Option.bind (Zh n (a0.2.2.2.2.2.2.2.1:(List Int)) (decide ((a0.1:Int)=8))) fun r17 =>
                                  some (((r17.1.1:Bool),()),[])
                                else
                                  some ((false,()),[])
                              else
                                some ((false,()),[])
                            else
                              some ((false,()),[])
                          else
                            some ((false,()),[])
                    else
                      some ((false,()),[])
                  else
                    Option.bind (Zf n (a0.2.2.2.1:Int) (decide ((a0.1:Int)=6))) fun r18 =>
                    bif (r18.1.1:Bool) then
                      bif (decide ((a0.1:Int)=2)) then
                        Option.bind (Zf n (a0.2.2.2.2.1:Int) true) fun r19 =>
                        bif (r19.1.1:Bool) then
                          Option.bind (Zf n (a0.2.2.2.2.2.2.1:Int) (decide ((a0.1:Int)=8))) fun r20 =>
                          bif (r20.1.1:Bool) then
                            Option.bind (Zf n (a0.2.2.2.2.2.2.2.2.1:Int) (decide ((a0.1:Int)=8))) fun r21 =>
                            bif (r21.1.1:Bool) then
                              Option.bind (Zh n (a0.2.2.2.2.2.1:(List Int)) (decide ((a0.1:Int)=8))) fun r22 =>
                              bif (r22.1.1:Bool) then
                                Option.bind (Zh n (a0.2.2.2.2.2.2.2.1:(List Int)) (decide ((a0.1:Int)=8))) fun r23 =>
                                some (((r23.1.1:Bool),()),[])
                              else
                                some ((false,()),[])
                            else
                              some ((false,()),[])
                          else
                            some ((false,()),[])
                        else
                          some ((false,()),[])
                      else
                        bif (decide ((a0.1:Int)=7)) then
                          Option.bind (Zf n (a0.2.2.2.2.1:Int) true) fun r24 =>
                          bif (r24.1.1:Bool) then
                            Option.bind (Zf n (a0.2.2.2.2.2.2.1:Int) (decide ((a0.1:Int)=8))) fun r25 =>
                            bif (r25.1.1:Bool) then
                              Option.bind (Zf n (a0.2.2.2.2.2.2.2.2.1:Int) (decide ((a0.1:Int)=8))) fun r26 =>
                              bif (r26.1.1:Bool) then
                                Option.bind (Zh n (a0.2.2.2.2.2.1:(List Int)) (decide ((a0.1:Int)=8))) fun r27 =>
                                bif (r27.1.1:Bool) then
                                  Option.bind (Zh n (a0.2.2.2.2.2.2.2.1:(List Int)) (decide ((a0.1:Int)=8))) fun r28 =>
                                  some (((r28.1.1:Bool),()),[])
                                else
                                  some ((false,()),[])
                              else
                                some ((false,()),[])
                            else
                              some ((false,()),[])
                          else
                            some ((false,()),[])
                        else
                          Option.bind (Zf n (a0.2.2.2.2.1:Int) (decide ((a0.1:Int)=8))) fun r29 =>
                          bif (r29.1.1:Bool) then
                            Option.bind (Zf n (a0.2.2.2.2.2.2.1:Int) (decide ((a0.1:Int)=8))) fun r30 =>
                            bif (r30.1.1:Bool) then
                              Option.bind (Zf n (a0.2.2.2.2.2.2.2.2.1:Int) (decide ((a0.1:Int)=8))) fun r31 =>
                              bif (r31.1.1:Bool) then
                                Option.bind (Zh n (a0.2.2.2.2.2.1:(List Int)) (decide ((a0.1:Int)=8))) fun r32 =>
                                bif (r32.1.1:Bool) then
                                  Option.bind (Zh n (a0.2.2.2.2.2.2.2.1:(List Int)) (decide ((a0.1:Int)=8))) fun r33 =>
                                  some (((r33.1.1:Bool),()),[])
                                else
                                  some ((false,()),[])
                              else
                                some ((false,()),[])
                            else
                              some ((false,()),[])
                          else
                            some ((false,()),[])
                    else
                      some ((false,()),[])
                else
                  some ((false,()),[])
              else
                Option.bind (Zf n (a0.2.2.1:Int) false) fun r34 =>
                bif (r34.1.1:Bool) then
                  bif (decide ((a0.1:Int)=5)) then
                    Option.bind (Zf n (a0.2.2.2.1:Int) true) fun r35 =>
                    bif (r35.1.1:Bool) then
                      bif (decide ((a0.1:Int)=2)) then
                        Option.bind (Zf n (a0.2.2.2.2.1:Int) true) fun r36 =>
                        bif (r36.1.1:Bool) then
                          Option.bind (Zf n (a0.2.2.2.2.2.2.1:Int) (decide ((a0.1:Int)=8))) fun r37 =>
                          bif (r37.1.1:Bool) then
                            Option.bind (Zf n (a0.2.2.2.2.2.2.2.2.1:Int) (decide ((a0.1:Int)=8))) fun r38 =>
                            bif (r38.1.1:Bool) then
                              Option.bind (Zh n (a0.2.2.2.2.2.1:(List Int)) (decide ((a0.1:Int)=8))) fun r39 =>
                              bif (r39.1.1:Bool) then
                                Option.bind (Zh n (a0.2.2.2.2.2.2.2.1:(List Int)) (decide ((a0.1:Int)=8))) fun r40 =>
                                some (((r40.1.1:Bool),()),[])
                              else
                                some ((false,()),[])
                            else
                              some ((false,()),[])
                          else
                            some ((false,()),[])
                        else
                          some ((false,()),[])
                      else
                        bif (decide ((a0.1:Int)=7)) then
                          Option.bind (Zf n (a0.2.2.2.2.1:Int) true) fun r41 =>
                          bif (r41.1.1:Bool) then
                            Option.bind (Zf n (a0.2.2.2.2.2.2.1:Int) (decide ((a0.1:Int)=8))) fun r42 =>
                            bif (r42.1.1:Bool) then
                              Option.bind (Zf n (a0.2.2.2.2.2.2.2.2.1:Int) (decide ((a0.1:Int)=8))) fun r43 =>
                              bif (r43.1.1:Bool) then
                                Option.bind (Zh n (a0.2.2.2.2.2.1:(List Int)) (decide ((a0.1:Int)=8))) fun r44 =>
                                bif (r44.1.1:Bool) then
                                  Option.bind (Zh n (a0.2.2.2.2.2.2.2.1:(List Int)) (decide ((a0.1:Int)=8))) fun r45 =>
                                  some (((r45.1.1:Bool),()),[])
                                else
                                  some ((false,()),[])
                              else
                                some ((false,()),[])
                            else
                              some ((false,()),[])
                          else
                            some ((false,()),[])
                        else
                          Option.bind (Zf n (a0.2.2.2.2.1:Int) (decide ((a0.1:Int)=8))) fun r46 =>
                          bif (r46.1.1:Bool) then
                            Option.bind (Zf n (a0.2.2.2.2.2.2.1:Int) (decide ((a0.1:Int)=8))) fun r47 =>
                            bif (r47.1.1:Bool) then
                              Option.bind (Zf n (a0.2.2.2.2.2.2.2.2.1:Int) (decide ((a0.1:Int)=8))) fun r48 =>
                              bif (r48.1.1:Bool) then
                                Option.bind (Zh n (a0.2.2.2.2.2.1:(List Int)) (decide ((a0.1:Int)=8))) fun r49 =>
                                bif (r49.1.1:Bool) then
                                  Option.bind (Zh n (a0.2.2.2.2.2.2.2.1:(List Int)) (decide ((a0.1:Int)=8))) fun r50 =>
                                  some (((r50.1.1:Bool),()),[])
                                else
                                  some ((false,()),[])
                              else
                                some ((false,()),[])
                            else
                              some ((false,()),[])
                          else
                            some ((false,()),[])
                    else
                      some ((false,()),[])
                  else
                    Option.bind (Zf n (a0.2.2.2.1:Int) (decide ((a0.1:Int)=6))) fun r51 =>
                    bif (r51.1.1:Bool) then
                      bif (decide ((a0.1:Int)=2)) then
                        Option.bind (Zf n (a0.2.2.2.2.1:Int) true) fun r52 =>
                        bif (r52.1.1:Bool) then
                          Option.bind (Zf n (a0.2.2.2.2.2.2.1:Int) (decide ((a0.1:Int)=8))) fun r53 =>
                          bif (r53.1.1:Bool) then
                            Option.bind (Zf n (a0.2.2.2.2.2.2.2.2.1:Int) (decide ((a0.1:Int)=8))) fun r54 =>
                            bif (r54.1.1:Bool) then
                              Option.bind (Zh n (a0.2.2.2.2.2.1:(List Int)) (decide ((a0.1:Int)=8))) fun r55 =>
                              bif (r55.1.1:Bool) then
                                Option.bind (Zh n (a0.2.2.2.2.2.2.2.1:(List Int)) (decide ((a0.1:Int)=8))) fun r56 =>
                                some (((r56.1.1:Bool),()),[])
                              else
                                some ((false,()),[])
                            else
                              some ((false,()),[])
                          else
                            some ((false,()),[])
                        else
                          some ((false,()),[])
                      else
                        bif (decide ((a0.1:Int)=7)) then
                          Option.bind (Zf n (a0.2.2.2.2.1:Int) true) fun r57 =>
                          bif (r57.1.1:Bool) then
                            Option.bind (Zf n (a0.2.2.2.2.2.2.1:Int) (decide ((a0.1:Int)=8))) fun r58 =>
                            bif (r58.1.1:Bool) then
                              Option.bind (Zf n (a0.2.2.2.2.2.2.2.2.1:Int) (decide ((a0.1:Int)=8))) fun r59 =>
                              bif (r59.1.1:Bool) then
                                Option.bind (Zh n (a0.2.2.2.2.2.1:(List Int)) (decide ((a0.1:Int)=8))) fun r60 =>
                                bif (r60.1.1:Bool) then
                                  Option.bind (Zh n (a0.2.2.2.2.2.2.2.1:(List Int)) (decide ((a0.1:Int)=8))) fun r61 =>
                                  some (((r61.1.1:Bool),()),[])
                                else
                                  some ((false,()),[])
                              else
                                some ((false,()),[])
                            else
                              some ((false,()),[])
                          else
                            some ((false,()),[])
                        else
                          Option.bind (Zf n (a0.2.2.2.2.1:Int) (decide ((a0.1:Int)=8))) fun r62 =>
                          bif (r62.1.1:Bool) then
                            Option.bind (Zf n (a0.2.2.2.2.2.2.1:Int) (decide ((a0.1:Int)=8))) fun r63 =>
                            bif (r63.1.1:Bool) then
                              Option.bind (Zf n (a0.2.2.2.2.2.2.2.2.1:Int) (decide ((a0.1:Int)=8))) fun r64 =>
                              bif (r64.1.1:Bool) then
                                Option.bind (Zh n (a0.2.2.2.2.2.1:(List Int)) (decide ((a0.1:Int)=8))) fun r65 =>
                                bif (r65.1.1:Bool) then
                                  Option.bind (Zh n (a0.2.2.2.2.2.2.2.1:(List Int)) (decide ((a0.1:Int)=8))) fun r66 =>
                                  some (((r66.1.1:Bool),()),[])
                                else
                                  some ((false,()),[])
                              else
                                some ((false,()),[])
                            else
                              some ((false,()),[])
                          else
                            some ((false,()),[])
                    else
                      some ((false,()),[])
                else
                  some ((false,()),[])
          else
            bif (decide (3≤(a0.1:Int))) then
              Option.bind (Zf n (a0.2.2.1:Int) (decide ((a0.1:Int)≤7))) fun r67 =>
              bif (r67.1.1:Bool) then
                bif (decide ((a0.1:Int)=5)) then
                  Option.bind (Zf n (a0.2.2.2.1:Int) true) fun r68 =>
                  bif (r68.1.1:Bool) then
                    bif (decide ((a0.1:Int)=2)) then
                      Option.bind (Zf n (a0.2.2.2.2.1:Int) true) fun r69 =>
                      bif (r69.1.1:Bool) then
                        Option.bind (Zf n (a0.2.2.2.2.2.2.1:Int) (decide ((a0.1:Int)=8))) fun r70 =>
                        bif (r70.1.1:Bool) then
                          Option.bind (Zf n (a0.2.2.2.2.2.2.2.2.1:Int) (decide ((a0.1:Int)=8))) fun r71 =>
                          bif (r71.1.1:Bool) then
                            Option.bind (Zh n (a0.2.2.2.2.2.1:(List Int)) (decide ((a0.1:Int)=8))) fun r72 =>
                            bif (r72.1.1:Bool) then
                              Option.bind (Zh n (a0.2.2.2.2.2.2.2.1:(List Int)) (decide ((a0.1:Int)=8))) fun r73 =>
                              some (((r73.1.1:Bool),()),[])
                            else
                              some ((false,()),[])
                          else
                            some ((false,()),[])
                        else
                          some ((false,()),[])
                      else
                        some ((false,()),[])
                    else
                      bif (decide ((a0.1:Int)=7)) then
                        Option.bind (Zf n (a0.2.2.2.2.1:Int) true) fun r74 =>
                        bif (r74.1.1:Bool) then
                          Option.bind (Zf n (a0.2.2.2.2.2.2.1:Int) (decide ((a0.1:Int)=8))) fun r75 =>
                          bif (r75.1.1:Bool) then
                            Option.bind (Zf n (a0.2.2.2.2.2.2.2.2.1:Int) (decide ((a0.1:Int)=8))) fun r76 =>
                            bif (r76.1.1:Bool) then
                              Option.bind (Zh n (a0.2.2.2.2.2.1:(List Int)) (decide ((a0.1:Int)=8))) fun r77 =>
                              bif (r77.1.1:Bool) then
                                Option.bind (Zh n (a0.2.2.2.2.2.2.2.1:(List Int)) (decide ((a0.1:Int)=8))) fun r78 =>
                                some (((r78.1.1:Bool),()),[])
                              else
                                some ((false,()),[])
                            else
                              some ((false,()),[])
                          else
                            some ((false,()),[])
                        else
                          some ((false,()),[])
                      else
                        Option.bind (Zf n (a0.2.2.2.2.1:Int) (decide ((a0.1:Int)=8))) fun r79 =>
                        bif (r79.1.1:Bool) then
                          Option.bind (Zf n (a0.2.2.2.2.2.2.1:Int) (decide ((a0.1:Int)=8))) fun r80 =>
                          bif (r80.1.1:Bool) then
                            Option.bind (Zf n (a0.2.2.2.2.2.2.2.2.1:Int) (decide ((a0.1:Int)=8))) fun r81 =>
                            bif (r81.1.1:Bool) then
                              Option.bind (Zh n (a0.2.2.2.2.2.1:(List Int)) (decide ((a0.1:Int)=8))) fun r82 =>
                              bif (r82.1.1:Bool) then
                                Option.bind (Zh n (a0.2.2.2.2.2.2.2.1:(List Int)) (decide ((a0.1:Int)=8))) fun r83 =>
                                some (((r83.1.1:Bool),()),[])
                              else
                                some ((false,()),[])
                            else
                              some ((false,()),[])
                          else
                            some ((false,()),[])
                        else
                          some ((false,()),[])
                  else
                    some ((false,()),[])
                else
                  Option.bind (Zf n (a0.2.2.2.1:Int) (decide ((a0.1:Int)=6))) fun r84 =>
                  bif (r84.1.1:Bool) then
                    bif (decide ((a0.1:Int)=2)) then
                      Option.bind (Zf n (a0.2.2.2.2.1:Int) true) fun r85 =>
                      bif (r85.1.1:Bool) then
                        Option.bind (Zf n (a0.2.2.2.2.2.2.1:Int) (decide ((a0.1:Int)=8))) fun r86 =>
                        bif (r86.1.1:Bool) then
                          Option.bind (Zf n (a0.2.2.2.2.2.2.2.2.1:Int) (decide ((a0.1:Int)=8))) fun r87 =>
                          bif (r87.1.1:Bool) then
                            Option.bind (Zh n (a0.2.2.2.2.2.1:(List Int)) (decide ((a0.1:Int)=8))) fun r88 =>
                            bif (r88.1.1:Bool) then
                              Option.bind (Zh n (a0.2.2.2.2.2.2.2.1:(List Int)) (decide ((a0.1:Int)=8))) fun r89 =>
                              some (((r89.1.1:Bool),()),[])
                            else
                              some ((false,()),[])
                          else
                            some ((false,()),[])
                        else
                          some ((false,()),[])
                      else
                        some ((false,()),[])
                    else
                      bif (decide ((a0.1:Int)=7)) then
                        Option.bind (Zf n (a0.2.2.2.2.1:Int) true) fun r90 =>
                        bif (r90.1.1:Bool) then
                          Option.bind (Zf n (a0.2.2.2.2.2.2.1:Int) (decide ((a0.1:Int)=8))) fun r91 =>
                          bif (r91.1.1:Bool) then
                            Option.bind (Zf n (a0.2.2.2.2.2.2.2.2.1:Int) (decide ((a0.1:Int)=8))) fun r92 =>
                            bif (r92.1.1:Bool) then
                              Option.bind (Zh n (a0.2.2.2.2.2.1:(List Int)) (decide ((a0.1:Int)=8))) fun r93 =>
                              bif (r93.1.1:Bool) then
                                Option.bind (Zh n (a0.2.2.2.2.2.2.2.1:(List Int)) (decide ((a0.1:Int)=8))) fun r94 =>
                                some (((r94.1.1:Bool),()),[])
                              else
                                some ((false,()),[])
                            else
                              some ((false,()),[])
                          else
                            some ((false,()),[])
                        else
                          some ((false,()),[])
                      else
                        Option.bind (Zf n (a0.2.2.2.2.1:Int) (decide ((a0.1:Int)=8))) fun r95 =>
                        bif (r95.1.1:Bool) then
                          Option.bind (Zf n (a0.2.2.2.2.2.2.1:Int) (decide ((a0.1:Int)=8))) fun r96 =>
                          bif (r96.1.1:Bool) then
                            Option.bind (Zf n (a0.2.2.2.2.2.2.2.2.1:Int) (decide ((a0.1:Int)=8))) fun r97 =>
                            bif (r97.1.1:Bool) then
                              Option.bind (Zh n (a0.2.2.2.2.2.1:(List Int)) (decide ((a0.1:Int)=8))) fun r98 =>
                              bif (r98.1.1:Bool) then
                                Option.bind (Zh n (a0.2.2.2.2.2.2.2.1:(List Int)) (decide ((a0.1:Int)=8))) fun r99 =>
                                some (((r99.1.1:Bool),()),[])
                              else
                                some ((false,()),[])
                            else
                              some ((false,()),[])
                          else
                            some ((false,()),[])
                        else
                          some ((false,()),[])
                  else
                    some ((false,()),[])
              else
                some ((false,()),[])
            else
              Option.bind (Zf n (a0.2.2.1:Int) false) fun r100 =>
              bif (r100.1.1:Bool) then
                bif (decide ((a0.1:Int)=5)) then
                  Option.bind (Zf n (a0.2.2.2.1:Int) true) fun r101 =>
                  bif (r101.1.1:Bool) then
                    bif (decide ((a0.1:Int)=2)) then
                      Option.bind (Zf n (a0.2.2.2.2.1:Int) true) fun r102 =>
                      bif (r102.1.1:Bool) then
                        Option.bind (Zf n (a0.2.2.2.2.2.2.1:Int) (decide ((a0.1:Int)=8))) fun r103 =>
                        bif (r103.1.1:Bool) then
                          Option.bind (Zf n (a0.2.2.2.2.2.2.2.2.1:Int) (decide ((a0.1:Int)=8))) fun r104 =>
                          bif (r104.1.1:Bool) then
                            Option.bind (Zh n (a0.2.2.2.2.2.1:(List Int)) (decide ((a0.1:Int)=8))) fun r105 =>
                            bif (r105.1.1:Bool) then
                              Option.bind (Zh n (a0.2.2.2.2.2.2.2.1:(List Int)) (decide ((a0.1:Int)=8))) fun r106 =>
                              some (((r106.1.1:Bool),()),[])
                            else
                              some ((false,()),[])
                          else
                            some ((false,()),[])
                        else
                          some ((false,()),[])
                      else
                        some ((false,()),[])
                    else
                      bif (decide ((a0.1:Int)=7)) then
                        Option.bind (Zf n (a0.2.2.2.2.1:Int) true) fun r107 =>
                        bif (r107.1.1:Bool) then
                          Option.bind (Zf n (a0.2.2.2.2.2.2.1:Int) (decide ((a0.1:Int)=8))) fun r108 =>
                          bif (r108.1.1:Bool) then
                            Option.bind (Zf n (a0.2.2.2.2.2.2.2.2.1:Int) (decide ((a0.1:Int)=8))) fun r109 =>
                            bif (r109.1.1:Bool) then
                              Option.bind (Zh n (a0.2.2.2.2.2.1:(List Int)) (decide ((a0.1:Int)=8))) fun r110 =>
                              bif (r110.1.1:Bool) then
                                Option.bind (Zh n (a0.2.2.2.2.2.2.2.1:(List Int)) (decide ((a0.1:Int)=8))) fun r111 =>
                                some (((r111.1.1:Bool),()),[])
                              else
                                some ((false,()),[])
                            else
                              some ((false,()),[])
                          else
                            some ((false,()),[])
                        else
                          some ((false,()),[])
                      else
                        Option.bind (Zf n (a0.2.2.2.2.1:Int) (decide ((a0.1:Int)=8))) fun r112 =>
                        bif (r112.1.1:Bool) then
                          Option.bind (Zf n (a0.2.2.2.2.2.2.1:Int) (decide ((a0.1:Int)=8))) fun r113 =>
                          bif (r113.1.1:Bool) then
                            Option.bind (Zf n (a0.2.2.2.2.2.2.2.2.1:Int) (decide ((a0.1:Int)=8))) fun r114 =>
                            bif (r114.1.1:Bool) then
                              Option.bind (Zh n (a0.2.2.2.2.2.1:(List Int)) (decide ((a0.1:Int)=8))) fun r115 =>
                              bif (r115.1.1:Bool) then
                                Option.bind (Zh n (a0.2.2.2.2.2.2.2.1:(List Int)) (decide ((a0.1:Int)=8))) fun r116 =>
                                some (((r116.1.1:Bool),()),[])
                              else
                                some ((false,()),[])
                            else
                              some ((false,()),[])
                          else
                            some ((false,()),[])
                        else
                          some ((false,()),[])
                  else
                    some ((false,()),[])
                else
                  Option.bind (Zf n (a0.2.2.2.1:Int) (decide ((a0.1:Int)=6))) fun r117 =>
                  bif (r117.1.1:Bool) then
                    bif (decide ((a0.1:Int)=2)) then
                      Option.bind (Zf n (a0.2.2.2.2.1:Int) true) fun r118 =>
                      bif (r118.1.1:Bool) then
                        Option.bind (Zf n (a0.2.2.2.2.2.2.1:Int) (decide ((a0.1:Int)=8))) fun r119 =>
                        bif (r119.1.1:Bool) then
                          Option.bind (Zf n (a0.2.2.2.2.2.2.2.2.1:Int) (decide ((a0.1:Int)=8))) fun r120 =>
                          bif (r120.1.1:Bool) then
                            Option.bind (Zh n (a0.2.2.2.2.2.1:(List Int)) (decide ((a0.1:Int)=8))) fun r121 =>
                            bif (r121.1.1:Bool) then
                              Option.bind (Zh n (a0.2.2.2.2.2.2.2.1:(List Int)) (decide ((a0.1:Int)=8))) fun r122 =>
                              some (((r122.1.1:Bool),()),[])
                            else
                              some ((false,()),[])
                          else
                            some ((false,()),[])
                        else
                          some ((false,()),[])
                      else
                        some ((false,()),[])
                    else
                      bif (decide ((a0.1:Int)=7)) then
                        Option.bind (Zf n (a0.2.2.2.2.1:Int) true) fun r123 =>
                        bif (r123.1.1:Bool) then
                          Option.bind (Zf n (a0.2.2.2.2.2.2.1:Int) (decide ((a0.1:Int)=8))) fun r124 =>
                          bif (r124.1.1:Bool) then
                            Option.bind (Zf n (a0.2.2.2.2.2.2.2.2.1:Int) (decide ((a0.1:Int)=8))) fun r125 =>
                            bif (r125.1.1:Bool) then
                              Option.bind (Zh n (a0.2.2.2.2.2.1:(List Int)) (decide ((a0.1:Int)=8))) fun r126 =>
                              bif (r126.1.1:Bool) then
                                Option.bind (Zh n (a0.2.2.2.2.2.2.2.1:(List Int)) (decide ((a0.1:Int)=8))) fun r127 =>
                                some (((r127.1.1:Bool),()),[])
                              else
                                some ((false,()),[])
                            else
                              some ((false,()),[])
                          else
                            some ((false,()),[])
                        else
                          some ((false,()),[])
                      else
                        Option.bind (Zf n (a0.2.2.2.2.1:Int) (decide ((a0.1:Int)=8))) fun r128 =>
                        bif (r128.1.1:Bool) then
                          Option.bind (Zf n (a0.2.2.2.2.2.2.1:Int) (decide ((a0.1:Int)=8))) fun r129 =>
                          bif (r129.1.1:Bool) then
                            Option.bind (Zf n (a0.2.2.2.2.2.2.2.2.1:Int) (decide ((a0.1:Int)=8))) fun r130 =>
                            bif (r130.1.1:Bool) then
                              Option.bind (Zh n (a0.2.2.2.2.2.1:(List Int)) (decide ((a0.1:Int)=8))) fun r131 =>
                              bif (r131.1.1:Bool) then
                                Option.bind (Zh n (a0.2.2.2.2.2.2.2.1:(List Int)) (decide ((a0.1:Int)=8))) fun r132 =>
                                some (((r132.1.1:Bool),()),[])
                              else
                                some ((false,()),[])
                            else
                              some ((false,()),[])
                          else
                            some ((false,()),[])
                        else
                          some ((false,()),[])
                  else
                    some ((false,()),[])
              else
                some ((false,()),[]):=by kernel_rfl
def Zi.res:List Sh:=[.d .bool]
@[reducible] def Zi.R:Type:=Z9 [.d .bool]×Zy
def Zi (n:Nat) (a0:(den Za)) (a1:Int) (a2:(den Zw)):Option Zi.R:=gc n 6 [.dat Za a0 [],.dat (.int .u8) a1 [],.dat Zw a2 []] [.d .bool]
def Zi.l0 (n m0:Nat) (t0:(den Za)) (t1:Int) (t2:(den Zw)) (t6:Bool) (t7:Int) (t14:Int) (t16:(List (den Z2))) (t71:Int) (t79:Bool) (t17:Int) (t18:Int) (o0:(den Za)) (o1:(den Zw)) (o2:(den Za)) (o3:(den Zn)) (o4:(den Za)) (o5:(den Zn)) (o6:(den Za)) (o7:(den Zn)) (o8:(den Zb)):Option Zi.R :=
  lpN n AKr m0 (Jy 1 (Jc (run (gc n) n) AKq (Xd Zi.fn Zi.res) (Xd Zi.fn Zi.res)) (Xd Zi.fn Zi.res))
    [(0,.dat Za t0 []),(1,.dat (.int .u8) t1 []),(2,.dat Zw t2 []),(3,.ptr 0 []),(5,.ptr 1 []),(6,.dat .bool t6 []),(7,.dat (.int .i64) t7 []),(8,.ptr 2 []),(9,.ptr 3 []),(11,.ptr 5 []),(13,.ptr 7 []),(14,.dat (.int .i64) t14 []),(15,.ptr 8 []),(16,.dat (.sl Z2) t16 []),(71,.dat (.int .i64) t71 []),(79,.dat .bool t79 []),(17,.dat (.int .i64) t17 []),(18,.dat (.int .i64) t18 [])]
    [.box Za o0 [],.box Zw o1 [],.box Za o2 [],.box Zn o3 [],.box Za o4 [],.box Zn o5 [],.box Za o6 [],.box Zn o7 [],.box Zb o8 []]
def Zi.l1 (n m0:Nat) (t0_1:(den Za)) (t1_1:Int) (t2_1:(den Zw)) (t6_1:Bool) (t7_1:Int) (t14_1:Int) (t71_1:Int) (t79_1:Bool) (t17_1:Int) (t18_1:Int) (o0_1:(den Za)) (o1_1:(den Zw)) (o2_1:(den Za)) (o3_1:(den Zn)) (o4_1:(den Za)) (o5_1:(den Zn)) (o6_1:(den Za)) (o7_1:(den Zn)) (o8_1:(den Zb)) (o11_1:(List (den Z2))):Option Zi.R :=
  lpN n AKr m0 (Jy 1 (Jc (run (gc n) n) AKq (Xd Zi.fn Zi.res) (Xd Zi.fn Zi.res)) (Xd Zi.fn Zi.res))
    [(0,.dat Za t0_1 []),(1,.dat (.int .u8) t1_1 []),(2,.dat Zw t2_1 []),(3,.ptr 0 []),(5,.ptr 1 []),(6,.dat .bool t6_1 []),(7,.dat (.int .i64) t7_1 []),(8,.ptr 2 []),(9,.ptr 3 []),(11,.ptr 5 []),(13,.ptr 7 []),(14,.dat (.int .i64) t14_1 []),(15,.ptr 8 []),(16,.dat (.sl Z2) ([]:List (den Z2)) [([],some 11)]),(71,.dat (.int .i64) t71_1 []),(79,.dat .bool t79_1 []),(17,.dat (.int .i64) t17_1 []),(18,.dat (.int .i64) t18_1 [])]
    [.box Za o0_1 [],.box Zw o1_1 [],.box Za o2_1 [],.box Zn o3_1 [],.box Za o4_1 [],.box Zn o5_1 [],.box Za o6_1 [],.box Zn o7_1 [],.box Zb o8_1 [],.dead,.dead,.arr Z2 o11_1]
theorem Zi.l0_eq (n m0:Nat) (t0:(den Za)) (t1:Int) (t2:(den Zw)) (t6:Bool) (t7:Int) (t14:Int) (t16:(List (den Z2))) (t71:Int) (t79:Bool) (t17:Int) (t18:Int) (o0:(den Za)) (o1:(den Zw)) (o2:(den Za)) (o3:(den Zn)) (o4:(den Za)) (o5:(den Zn)) (o6:(den Za)) (o7:(den Zn)) (o8:(den Zb)):Zi.l0 n (m0+1) t0 t1 t2 t6 t7 t14 t16 t71 t79 t17 t18 o0 o1 o2 o3 o4 o5 o6 o7 o8 =
  bif (decide (t18<((List.length t16):Int))) then
    if (0:Int)≤t18∧t18<(((List.length t16):Nat):Int) then
    bif (eqT Z2 (List.getD t16 (Int.toNat t18) (dft Z2):(den Z2)) (t14,o8,())) then
      Zi.l0 n m0 t0 t1 t2 t6 t7 t14 t16 t71 t79 (IntKind.wrap .i64 (t17+1)) (IntKind.wrap .i64 (t18+1)) o0 o1 o2 o3 o4 o5 o6 o7 o8
    else
      Zi.l0 n m0 t0 t1 t2 t6 t7 t14 t16 t71 t79 t17 (IntKind.wrap .i64 (t18+1)) o0 o1 o2 o3 o4 o5 o6 o7 o8
    else none
  else
    some (((decide (t17=1)),()),[]):=by kernel_rfl
theorem Zi.l1_eq (n m0:Nat) (t0_1:(den Za)) (t1_1:Int) (t2_1:(den Zw)) (t6_1:Bool) (t7_1:Int) (t14_1:Int) (t71_1:Int) (t79_1:Bool) (t17_1:Int) (t18_1:Int) (o0_1:(den Za)) (o1_1:(den Zw)) (o2_1:(den Za)) (o3_1:(den Zn)) (o4_1:(den Za)) (o5_1:(den Zn)) (o6_1:(den Za)) (o7_1:(den Zn)) (o8_1:(den Zb)) (o11_1:(List (den Z2))):Zi.l1 n (m0+1) t0_1 t1_1 t2_1 t6_1 t7_1 t14_1 t71_1 t79_1 t17_1 t18_1 o0_1 o1_1 o2_1 o3_1 o4_1 o5_1 o6_1 o7_1 o8_1 o11_1 =
  bif (decide (t18_1<((List.length o11_1):Int))) then
    if (0:Int)≤t18_1∧t18_1<(((List.length o11_1):Nat):Int) then
    bif (eqT Z2 (List.getD o11_1 (Int.toNat t18_1) (dft Z2):(den Z2)) (t14_1,o8_1,())) then
      Zi.l1 n m0 t0_1 t1_1 t2_1 t6_1 t7_1 t14_1 t71_1 t79_1 (IntKind.wrap .i64 (t17_1+1)) (IntKind.wrap .i64 (t18_1+1)) o0_1 o1_1 o2_1 o3_1 o4_1 o5_1 o6_1 o7_1 o8_1 o11_1
    else
      Zi.l1 n m0 t0_1 t1_1 t2_1 t6_1 t7_1 t14_1 t71_1 t79_1 t17_1 (IntKind.wrap .i64 (t18_1+1)) o0_1 o1_1 o2_1 o3_1 o4_1 o5_1 o6_1 o7_1 o8_1 o11_1
    else none
  else
    some (((decide (t17_1=1)),()),[]):=by kernel_rfl
theorem Zi.eq (n:Nat) (a0:(den Za)) (a1:Int) (a2:(den Zw)):Zi (n+1) a0 a1 a2 =
  Option.bind (Xw n) fun r1 =>
  bif (!(r1.1.1:Bool)) then
    Option.bind (Xw n) fun r2 =>
    some (((r2.1.1:Bool),()),[])
  else
    Option.bind (X4 n a0) fun r3 =>
    bif (!(r3.1.1:Bool)) then
      Option.bind (Xw n) fun r4 =>
      some (((r4.1.1:Bool),()),[])
    else
      Option.bind (X8 n a2) fun r5 =>
      bif (!(r5.1.1:Bool)) then
        Option.bind (Xw n) fun r6 =>
        some (((r6.1.1:Bool),()),[])
      else
        Option.bind (X2 n a2) fun r7 =>
        bif (!(r7.1.1:Bool)) then
          Option.bind (Xw n) fun r8 =>
          some (((r8.1.1:Bool),()),[])
        else
          if ((List.length (a0.2.1:(List Int))):Int)=0 then none else
          Option.bind (Q0 n a0 (Int.tmod (IntKind.wrap .i64 (a1)) ((List.length (a0.2.1:(List Int))):Int)) a2) fun r9 =>
          bif (!(decide ((r9.1.2.1.1:Int)=0))) then
            some ((true,()),[])
          else
            Option.bind (Q0 n r9.1.1 (Int.tmod (IntKind.wrap .i64 (a1)) ((List.length (a0.2.1:(List Int))):Int)) (10,0,0,0,0,([]:List Int),0,([]:List Int),0,())) fun r10 =>
            Option.bind (Q0 n r9.1.1 (Int.tmod (IntKind.wrap .i64 (a1)) ((List.length (a0.2.1:(List Int))):Int)) (9,0,0,0,0,([]:List Int),0,([]:List Int),0,())) fun r11 =>
            bif (decide ((a2.1:Int)=1)) then
              some (((decide ((r11.1.2.1.2.2.1:Int)=(r9.1.2.1.2.2.1:Int))),()),[])
            else
              bif (decide ((a2.1:Int)=3)) then
                bif (decide ((a2.1:Int)=3)) then
                  bif (decide ((a2.2.2.1:Int)<0)) then
                    some ((true,()),[])
                  else
                    Zi.l0 n n a0 a1 a2 false (Int.tmod (IntKind.wrap .i64 (a1)) ((List.length (a0.2.1:(List Int))):Int)) (a2.2.2.1:Int) (r10.1.2.1.2.2.2.2.1:(List (den Z2))) (a2.1:Int) (decide ((a2.1:Int)=3)) 0 0 a0 a2 r9.1.1 r9.1.2.1 r10.1.1 r10.1.2.1 r11.1.1 r11.1.2.1 (1,(Int.tmod (IntKind.wrap .i64 (a1)) ((List.length (a0.2.1:(List Int))):Int)),())
                else
                  bif (decide ((a2.1:Int)=4)) then
                    bif (decide ((a2.2.2.1:Int)<0)) then
                      some ((true,()),[])
                    else
                      Zi.l0 n n a0 a1 a2 false (Int.tmod (IntKind.wrap .i64 (a1)) ((List.length (a0.2.1:(List Int))):Int)) (a2.2.2.1:Int) (r11.1.2.1.2.2.2.2.1:(List (den Z2))) (a2.1:Int) (decide ((a2.1:Int)=3)) 0 0 a0 a2 r9.1.1 r9.1.2.1 r10.1.1 r10.1.2.1 r11.1.1 r11.1.2.1 (0,(r11.1.2.1.2.2.1:Int),())
                  else
                    bif (decide ((a2.1:Int)=5)) then
                      if 0+(List.length (r10.1.2.1.2.2.2.2.1:(List (den Z2))))≤1048576 then
                      if (List.length (([]:List (den Z2)) ++ (r10.1.2.1.2.2.2.2.1:(List (den Z2)))))+(List.length (r11.1.2.1.2.2.2.2.1:(List (den Z2))))≤1048576 then
                      bif (decide ((a2.2.2.1:Int)<0)) then
                        some ((true,()),[])
                      else
                        Zi.l1 n n a0 a1 a2 false (Int.tmod (IntKind.wrap .i64 (a1)) ((List.length (a0.2.1:(List Int))):Int)) (a2.2.2.1:Int) (a2.1:Int) (decide ((a2.1:Int)=3)) 0 0 a0 a2 r9.1.1 r9.1.2.1 r10.1.1 r10.1.2.1 r11.1.1 r11.1.2.1 (2,(a2.2.2.2.1:Int),()) ((([]:List (den Z2)) ++ (r10.1.2.1.2.2.2.2.1:(List (den Z2)))) ++ (r11.1.2.1.2.2.2.2.1:(List (den Z2))))
                      else none
                      else none
                    else
                      some ((true,()),[])
              else
                bif (decide ((a2.1:Int)=6)) then
                  bif (decide ((a2.2.2.1:Int)<0)) then
                    some ((true,()),[])
                  else
                    Zi.l0 n n a0 a1 a2 false (Int.tmod (IntKind.wrap .i64 (a1)) ((List.length (a0.2.1:(List Int))):Int)) (a2.2.2.1:Int) (r10.1.2.1.2.2.2.2.1:(List (den Z2))) (a2.1:Int) (decide ((a2.1:Int)=6)) 0 0 a0 a2 r9.1.1 r9.1.2.1 r10.1.1 r10.1.2.1 r11.1.1 r11.1.2.1 (1,(Int.tmod (IntKind.wrap .i64 (a1)) ((List.length (a0.2.1:(List Int))):Int)),())
                else
                  bif (decide ((a2.1:Int)=4)) then
                    bif (decide ((a2.2.2.1:Int)<0)) then
                      some ((true,()),[])
                    else
                      Zi.l0 n n a0 a1 a2 false (Int.tmod (IntKind.wrap .i64 (a1)) ((List.length (a0.2.1:(List Int))):Int)) (a2.2.2.1:Int) (r11.1.2.1.2.2.2.2.1:(List (den Z2))) (a2.1:Int) (decide ((a2.1:Int)=6)) 0 0 a0 a2 r9.1.1 r9.1.2.1 r10.1.1 r10.1.2.1 r11.1.1 r11.1.2.1 (0,(r11.1.2.1.2.2.1:Int),())
                  else
                    bif (decide ((a2.1:Int)=5)) then
                      if 0+(List.length (r10.1.2.1.2.2.2.2.1:(List (den Z2))))≤1048576 then
                      if (List.length (([]:List (den Z2)) ++ (r10.1.2.1.2.2.2.2.1:(List (den Z2)))))+(List.length (r11.1.2.1.2.2.2.2.1:(List (den Z2))))≤1048576 then
                      bif (decide ((a2.2.2.1:Int)<0)) then
                        some ((true,()),[])
                      else
                        Zi.l1 n n a0 a1 a2 false (Int.tmod (IntKind.wrap .i64 (a1)) ((List.length (a0.2.1:(List Int))):Int)) (a2.2.2.1:Int) (a2.1:Int) (decide ((a2.1:Int)=6)) 0 0 a0 a2 r9.1.1 r9.1.2.1 r10.1.1 r10.1.2.1 r11.1.1 r11.1.2.1 (2,(a2.2.2.2.1:Int),()) ((([]:List (den Z2)) ++ (r10.1.2.1.2.2.2.2.1:(List (den Z2)))) ++ (r11.1.2.1.2.2.2.2.1:(List (den Z2))))
                      else none
                      else none
                    else
                      some ((true,()),[]):=by kernel_rfl
end Go.Proofs.YtpemapoblhleoaaGreatDoor.Ghost
