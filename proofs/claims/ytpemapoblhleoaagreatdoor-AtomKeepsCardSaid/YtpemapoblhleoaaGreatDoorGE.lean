/- What each function and each loop comes to, one step. Conditions: none. -/
import Derived.Test.YtpemapoblhleoaaGreatDoorGSp
import Derived.KernelRfl
set_option linter.unusedVariables false
set_option linter.unusedSimpArgs false
set_option linter.unusedSectionVars false
set_option linter.unnecessarySimpa false
namespace Go.Proofs.YtpemapoblhleoaaGreatDoor.Ghost
open Go
abbrev gc (n:Nat):Calls:=Kq prog sp n
abbrev lpN {R:Type} (n:Nat) (c:Cd) (m:Nat) (K:Kt R) (s:Xs) (h:Y7):Option R:=Mo (fun Kn K s h=>run (gc n) n c Kn K s h) m K s h
@[reducible] def Ju.R:Type:=Xd [.d Za]×Z1
def Ju (n:Nat) (a0:(den Zx)):Option Ju.R:=gc n 18 [.dat Zx a0 []] [.d Za]
@[reducible] def Kp.R:Type:=Xd [.d .str]×Z1
def Kp (n:Nat) (a0:(List ByteArray)) (a1:Int):Option Kp.R:=gc n 81 [.dat (.sl .str) a0 [],.dat (.int .i64) a1 []] [.d .str]
theorem Kp.eq (n:Nat) (a0:(List ByteArray)) (a1:Int):Kp (n+1) a0 a1 =
  bif (decide (a1<0)) then
    some (((⟨#[]⟩:ByteArray),()),[])
  else
    bif (decide (((List.length a0):Int)≤a1)) then
      some (((⟨#[]⟩:ByteArray),()),[])
    else
      if (0:Int)≤a1∧a1<(((List.length a0):Nat):Int) then
      some (((List.getD a0 (Int.toNat a1) (dft .str):ByteArray),()),[])
      else none:=by kernel_rfl
@[reducible] def K8.R:Type:=Xd [.d .str]×Z1
def K8 (n:Nat) (a0:Int):Option K8.R:=gc n 45 [.dat (.int .i64) a0 []] [.d .str]
theorem K8.eq (n:Nat) (a0:Int):K8 (n+1) a0 =
  Option.bind (Kp n (Ly:(List ByteArray)) a0) fun r1 =>
  some (((r1.1.1:ByteArray),()),[]):=by kernel_rfl
@[reducible] def Qe.R:Type:=Xd [.d Z5]×Z1
def Qe (n:Nat) (a0:(den Z5)):Option Qe.R:=gc n 47 [.dat Z5 a0 []] [.d Z5]
theorem Qe.eq (n:Nat) (a0:(den Z5)):Qe (n+1) a0 =
  bif (decide ((a0.1:Int)=1)) then
    some ((((a0.1:Int),(a0.2.1:Int),0,0,0,([]:List Int),0,([]:List Int),0,()),()),[])
  else
    bif (decide ((a0.1:Int)=2)) then
      some ((((a0.1:Int),(a0.2.1:Int),0,0,(a0.2.2.2.2.1:Int),([]:List Int),0,([]:List Int),0,()),()),[])
    else
      bif (decide ((a0.1:Int)=3)) then
        bif (decide ((a0.1:Int)=3)) then
          some ((((a0.1:Int),0,(a0.2.2.1:Int),0,0,([]:List Int),0,([]:List Int),0,()),()),[])
        else
          bif (decide ((a0.1:Int)=5)) then
            bif (decide ((a0.1:Int)=5)) then
              some ((((a0.1:Int),0,(a0.2.2.1:Int),(a0.2.2.2.1:Int),0,([]:List Int),0,([]:List Int),0,()),()),[])
            else
              bif (decide ((a0.1:Int)=7)) then
                some ((((a0.1:Int),0,(a0.2.2.1:Int),0,(a0.2.2.2.2.1:Int),([]:List Int),0,([]:List Int),0,()),()),[])
              else
                bif (decide ((a0.1:Int)=8)) then
                  some ((((a0.1:Int),0,0,0,(a0.2.2.2.2.1:Int),(a0.2.2.2.2.2.1:(List Int)),(a0.2.2.2.2.2.2.1:Int),(a0.2.2.2.2.2.2.2.1:(List Int)),(a0.2.2.2.2.2.2.2.2.1:Int),()),()),[])
                else
                  some ((((a0.1:Int),0,0,0,0,([]:List Int),0,([]:List Int),0,()),()),[])
          else
            bif (decide ((a0.1:Int)=6)) then
              some ((((a0.1:Int),0,(a0.2.2.1:Int),(a0.2.2.2.1:Int),0,([]:List Int),0,([]:List Int),0,()),()),[])
            else
              bif (decide ((a0.1:Int)=7)) then
                some ((((a0.1:Int),0,(a0.2.2.1:Int),0,(a0.2.2.2.2.1:Int),([]:List Int),0,([]:List Int),0,()),()),[])
              else
                bif (decide ((a0.1:Int)=8)) then
                  some ((((a0.1:Int),0,0,0,(a0.2.2.2.2.1:Int),(a0.2.2.2.2.2.1:(List Int)),(a0.2.2.2.2.2.2.1:Int),(a0.2.2.2.2.2.2.2.1:(List Int)),(a0.2.2.2.2.2.2.2.2.1:Int),()),()),[])
                else
                  some ((((a0.1:Int),0,0,0,0,([]:List Int),0,([]:List Int),0,()),()),[])
      else
        bif (decide ((a0.1:Int)=4)) then
          some ((((a0.1:Int),0,(a0.2.2.1:Int),0,0,([]:List Int),0,([]:List Int),0,()),()),[])
        else
          bif (decide ((a0.1:Int)=5)) then
            bif (decide ((a0.1:Int)=5)) then
              some ((((a0.1:Int),0,(a0.2.2.1:Int),(a0.2.2.2.1:Int),0,([]:List Int),0,([]:List Int),0,()),()),[])
            else
              bif (decide ((a0.1:Int)=7)) then
                some ((((a0.1:Int),0,(a0.2.2.1:Int),0,(a0.2.2.2.2.1:Int),([]:List Int),0,([]:List Int),0,()),()),[])
              else
                bif (decide ((a0.1:Int)=8)) then
                  some ((((a0.1:Int),0,0,0,(a0.2.2.2.2.1:Int),(a0.2.2.2.2.2.1:(List Int)),(a0.2.2.2.2.2.2.1:Int),(a0.2.2.2.2.2.2.2.1:(List Int)),(a0.2.2.2.2.2.2.2.2.1:Int),()),()),[])
                else
                  some ((((a0.1:Int),0,0,0,0,([]:List Int),0,([]:List Int),0,()),()),[])
          else
            bif (decide ((a0.1:Int)=6)) then
              some ((((a0.1:Int),0,(a0.2.2.1:Int),(a0.2.2.2.1:Int),0,([]:List Int),0,([]:List Int),0,()),()),[])
            else
              bif (decide ((a0.1:Int)=7)) then
                some ((((a0.1:Int),0,(a0.2.2.1:Int),0,(a0.2.2.2.2.1:Int),([]:List Int),0,([]:List Int),0,()),()),[])
              else
                bif (decide ((a0.1:Int)=8)) then
                  some ((((a0.1:Int),0,0,0,(a0.2.2.2.2.1:Int),(a0.2.2.2.2.2.1:(List Int)),(a0.2.2.2.2.2.2.1:Int),(a0.2.2.2.2.2.2.2.1:(List Int)),(a0.2.2.2.2.2.2.2.2.1:Int),()),()),[])
                else
                  some ((((a0.1:Int),0,0,0,0,([]:List Int),0,([]:List Int),0,()),()),[]):=by kernel_rfl
@[reducible] def Ui.R:Type:=Xd [.d Ud]×Z1
def Ui (n:Nat) (a0:(den Z5)):Option Ui.R:=gc n 82 [.dat Z5 a0 []] [.d Ud]
theorem Ui.eq (n:Nat) (a0:(den Z5)):Ui (n+1) a0 =
  some ((((a0.1:Int),(a0.2.1:Int),(a0.2.2.1:Int),(a0.2.2.2.1:Int),(a0.2.2.2.2.1:Int),(a0.2.2.2.2.2.2.1:Int),(a0.2.2.2.2.2.2.2.2.1:Int),()),()),[]):=by kernel_rfl
def Zo.res:List Sh:=[.d .bool]
@[reducible] def Zo.R:Type:=Xd [.d .bool]×Z1
def Zo (n:Nat) (a0:(List Int)) (a1:(List Int)):Option Zo.R:=gc n 83 [.dat (.sl (.int .i64)) a0 [],.dat (.sl (.int .i64)) a1 []] [.d .bool]
def Zo.l0 (n m0:Nat) (t0:(List Int)) (t1:(List Int)) (t4:Bool) (t12:Int) (t13:Int):Option Zo.R :=
  lpN n AKx m0 (Q6 0 (Qw (run (gc n) n) ARo (Xc Zo.fn Zo.res) (Xc Zo.fn Zo.res)) (Xc Zo.fn Zo.res))
    [(0,.dat (.sl (.int .i64)) t0 []),(1,.dat (.sl (.int .i64)) t1 []),(4,.dat .bool t4 []),(12,.dat (.int .i64) t12 []),(13,.dat (.int .i64) t13 [])]
    []
theorem Zo.l0_eq (n m0:Nat) (t0:(List Int)) (t1:(List Int)) (t4:Bool) (t12:Int) (t13:Int):Zo.l0 n (m0+1) t0 t1 t4 t12 t13 =
  bif (decide (t13<t12)) then
    if (0:Int)≤t13∧t13<(((List.length t0):Nat):Int) then
    if (0:Int)≤t13∧t13<(((List.length t1):Nat):Int) then
    bif (!(decide ((List.getD t0 (Int.toNat t13) (0:Int):Int)=(List.getD t1 (Int.toNat t13) (0:Int):Int)))) then
      some ((false,()),[])
    else
      Zo.l0 n m0 t0 t1 t4 t12 (IntKind.wrap .i64 (t13+1))
    else none
    else none
  else
    some ((true,()),[]):=by kernel_rfl
theorem Zo.eq (n:Nat) (a0:(List Int)) (a1:(List Int)):Zo (n+1) a0 a1 =
  bif (!(decide (((List.length a0):Int)=((List.length a1):Int)))) then
    some ((false,()),[])
  else
    Zo.l0 n n a0 a1 false ((List.length a0):Int) 0:=by kernel_rfl
@[reducible] def K9.R:Type:=Xd [.d .bool]×Z1
def K9 (n:Nat) (a0:(den Z5)) (a1:(den Z5)):Option K9.R:=gc n 46 [.dat Z5 a0 [],.dat Z5 a1 []] [.d .bool]
theorem K9.eq (n:Nat) (a0:(den Z5)) (a1:(den Z5)):K9 (n+1) a0 a1 =
  Option.bind (Ui n a0) fun r1 =>
  Option.bind (Ui n a1) fun r2 =>
  bif (eqT Ud r1.1.1 r2.1.1) then
    Option.bind (Zo n (a0.2.2.2.2.2.1:(List Int)) (a1.2.2.2.2.2.1:(List Int))) fun r3 =>
    bif (r3.1.1:Bool) then
      Option.bind (Zo n (a0.2.2.2.2.2.2.2.1:(List Int)) (a1.2.2.2.2.2.2.2.1:(List Int))) fun r4 =>
      some (((r4.1.1:Bool),()),[])
    else
      some ((false,()),[])
  else
    some ((false,()),[]):=by kernel_rfl
@[reducible] def Gj.R:Type:=Xd [.d .str]×Z1
def Gj (n:Nat) (a0:Int):Option Gj.R:=gc n 48 [.dat (.int .i64) a0 []] [.d .str]
theorem Gj.eq (n:Nat) (a0:Int):Gj (n+1) a0 =
  Option.bind (Kp n (Lz:(List ByteArray)) a0) fun r1 =>
  some (((r1.1.1:ByteArray),()),[]):=by kernel_rfl
@[reducible] def Kd.R:Type:=Xd [.d .bool]×Z1
def Kd (n:Nat) (a0:Int):Option Kd.R:=gc n 49 [.dat (.int .i64) a0 []] [.d .bool]
theorem Kd.eq (n:Nat) (a0:Int):Kd (n+1) a0 =
  bif (decide (0≤a0)) then
    some (((decide (a0≤1073741824)),()),[])
  else
    some ((false,()),[]):=by kernel_rfl
@[reducible] def V5.R:Type:=Xd [.d .bool]×Z1
def V5 (n:Nat) (a0:Int):Option V5.R:=gc n 85 [.dat (.int .i64) a0 []] [.d .bool]
theorem V5.eq (n:Nat) (a0:Int):V5 (n+1) a0 =
  Option.bind (Kd n a0) fun r1 =>
  some (((!(r1.1.1:Bool)),()),[]):=by kernel_rfl
def Zt.res:List Sh:=[.d (.int .i64)]
@[reducible] def Zt.R:Type:=Xd [.d (.int .i64)]×Z1
def Zt (n:Nat) (a0:(List Int)):Option Zt.R:=gc n 127 [.dat (.sl (.int .i64)) a0 [],.clo 85 []] [.d (.int .i64)]
def Zt.l0 (n m0:Nat) (t0:(List Int)) (t4:Int) (t7:Int) (t8:Int):Option Zt.R :=
  lpN n AA2 m0 (Q6 0 (Qw (run (gc n) n) AA1 (Xc Zh.fn Zt.res) (Xc Zh.fn Zt.res)) (Xc Zh.fn Zt.res))
    [(0,.dat (.sl (.int .i64)) t0 []),(1,.clo 85 []),(4,.dat (.int .i64) t4 []),(7,.dat (.int .i64) t7 []),(8,.dat (.int .i64) t8 [])]
    []
theorem Zt.l0_eq (n m0:Nat) (t0:(List Int)) (t4:Int) (t7:Int) (t8:Int):Zt.l0 n (m0+1) t0 t4 t7 t8 =
  bif (decide (t8<t7)) then
    if (0:Int)≤t8∧t8<(((List.length t0):Nat):Int) then
    Option.bind (V5 n (List.getD t0 (Int.toNat t8) (0:Int):Int)) fun r1 =>
    bif (r1.1.1:Bool) then
      some ((t8,()),[])
    else
      Zt.l0 n m0 t0 t4 t7 (IntKind.wrap .i64 (t8+1))
    else none
  else
    some (((-1),()),[]):=by kernel_rfl
theorem Zt.eq (n:Nat) (a0:(List Int)):Zt (n+1) a0 =
  Zt.l0 n n a0 0 ((List.length a0):Int) 0:=by kernel_rfl
@[reducible] def Xy.R:Type:=Xd [.d .bool]×Z1
def Xy (n:Nat) (a0:(List Int)):Option Xy.R:=gc n 84 [.dat (.sl (.int .i64)) a0 [],.clo 85 []] [.d .bool]
theorem Xy.eq (n:Nat) (a0:(List Int)):Xy (n+1) a0 =
  Option.bind (Zt n a0) fun r1 =>
  some (((decide (0≤(r1.1.1:Int))),()),[]):=by kernel_rfl
@[reducible] def Hz.R:Type:=Xd [.d .bool]×Z1
def Hz (n:Nat) (a0:(List Int)):Option Hz.R:=gc n 50 [.dat (.sl (.int .i64)) a0 []] [.d .bool]
theorem Hz.eq (n:Nat) (a0:(List Int)):Hz (n+1) a0 =
  bif (decide (((List.length a0):Int)≤16)) then
    Option.bind (Xy n a0) fun r1 =>
    some (((!(r1.1.1:Bool)),()),[])
  else
    some ((false,()),[]):=by kernel_rfl
@[reducible] def K0.R:Type:=Xd [.d .bool]×Z1
def K0 (n:Nat) (a0:(den Z5)):Option K0.R:=gc n 21 [.dat Z5 a0 []] [.d .bool]
theorem K0.eq (n:Nat) (a0:(den Z5)):K0 (n+1) a0 =
  Option.bind (K8 n (a0.1:Int)) fun r1 =>
  bif (!(eqT .str (r1.1.1:ByteArray) (⟨#[]⟩:ByteArray))) then
    Option.bind (Qe n a0) fun r2 =>
    Option.bind (K9 n a0 r2.1.1) fun r3 =>
    bif (r3.1.1:Bool) then
      Option.bind (Gj n (a0.2.1:Int)) fun r4 =>
      bif (!(eqT .str (r4.1.1:ByteArray) (⟨#[]⟩:ByteArray))) then
        Option.bind (Kd n (a0.2.2.1:Int)) fun r5 =>
        bif (r5.1.1:Bool) then
          Option.bind (Kd n (a0.2.2.2.1:Int)) fun r6 =>
          bif (r6.1.1:Bool) then
            Option.bind (Kd n (a0.2.2.2.2.1:Int)) fun r7 =>
            bif (r7.1.1:Bool) then
              Option.bind (Kd n (a0.2.2.2.2.2.2.1:Int)) fun r8 =>
              bif (r8.1.1:Bool) then
                Option.bind (Kd n (a0.2.2.2.2.2.2.2.2.1:Int)) fun r9 =>
                bif (r9.1.1:Bool) then
                  Option.bind (Hz n (a0.2.2.2.2.2.1:(List Int))) fun r10 =>
                  bif (r10.1.1:Bool) then
                    Option.bind (Hz n (a0.2.2.2.2.2.2.2.1:(List Int))) fun r11 =>
                    some (((r11.1.1:Bool),()),[])
                  else
                    some ((false,()),[])
                else
                  some ((false,()),[])
              else
                some ((false,()),[])
            else
              some ((false,()),[])
          else
            some ((false,()),[])
        else
          some ((false,()),[])
      else
        some ((false,()),[])
    else
      some ((false,()),[])
  else
    some ((false,()),[]):=by kernel_rfl
@[reducible] def Ta.R:Type:=Xd [.fmap [1,2,3,4,5,6,7,8,9,10] [.clo 86 [.refv (.clo 52 [])],.clo 86 [.refv (.clo 54 [])],.clo 91 [.refv (.clo 57 [])],.clo 91 [.refv (.clo 59 [])],.clo 91 [.refv (.clo 61 [])],.clo 91 [.refv (.clo 63 [])],.clo 91 [.refv (.clo 65 [])],.clo 91 [.refv (.clo 67 [])],.clo 123 [.refv (.clo 69 [])],.clo 123 [.refv (.clo 70 [])]]]×Z1
def Ta (n:Nat):Option Ta.R:=gc n 22 [] [.fmap [1,2,3,4,5,6,7,8,9,10] [.clo 86 [.refv (.clo 52 [])],.clo 86 [.refv (.clo 54 [])],.clo 91 [.refv (.clo 57 [])],.clo 91 [.refv (.clo 59 [])],.clo 91 [.refv (.clo 61 [])],.clo 91 [.refv (.clo 63 [])],.clo 91 [.refv (.clo 65 [])],.clo 91 [.refv (.clo 67 [])],.clo 123 [.refv (.clo 69 [])],.clo 123 [.refv (.clo 70 [])]]]
@[reducible] def H6.R:Type:=Xd [.clo 138 [.ref Za,.ref (.int .i64)]]×Z1
def H6 (n:Nat) (a0:(den Za)) (a1:Int):Option H6.R:=gc n 131 [.dat Za a0 [],.dat (.int .i64) a1 []] [.clo 138 [.ref Za,.ref (.int .i64)]]
theorem H6.eq (n:Nat) (a0:(den Za)) (a1:Int):H6 (n+1) a0 a1 =
  some (((a0,a1,()),()),[]):=by kernel_rfl
@[reducible] def Qf.R:Type:=Xd [.d (.sl Zb)]×Z1
def Qf (n:Nat) (a0:(den Za)) (a1:Int):Option Qf.R:=gc n 132 [.clo 138 [.ref Za a0,.ref (.int .i64) a1]] [.d (.sl Zb)]
@[reducible] def Vu.R:Type:=Xd [.d Zb]×Z1
def Vu (n:Nat) (a0:(den Za)) (a1:Int):Option Vu.R:=gc n 130 [.dat Za a0 [],.dat (.int .i64) a1 []] [.d Zb]
theorem Vu.eq (n:Nat) (a0:(den Za)) (a1:Int):Vu (n+1) a0 a1 =
  Option.bind (H6 n a0 a1) fun r1 =>
  Option.bind (Qf n r1.1.1.1 (r1.1.1.2.1:Int)) fun r2 =>
  if (0:Int)≤(IntKind.wrap .i64 (((List.length (r2.1.1:(List (den Zb)))):Int) - 1))∧(IntKind.wrap .i64 (((List.length (r2.1.1:(List (den Zb)))):Int) - 1))<(((List.length (r2.1.1:(List (den Zb)))):Nat):Int) then
  some (((List.getD (r2.1.1:(List (den Zb))) (Int.toNat (IntKind.wrap .i64 (((List.length (r2.1.1:(List (den Zb)))):Int) - 1))) (dft Zb):(den Zb)),()),[])
  else none:=by kernel_rfl
def Xt.res:List Sh:=[.d (.sl Z7)]
@[reducible] def Xt.R:Type:=Xd [.d (.sl Z7)]×Z1
def Xt (n:Nat) (a0:(den Za)) (a1:(den Zb)):Option Xt.R:=gc n 125 [.dat Za a0 [],.dat Zb a1 []] [.d (.sl Z7)]
def Xt.l0 (n m0:Nat) (t0:(den Za)) (t1:(den Zb)) (t4:(List (den Z7))) (t9:(List (den Zb))) (t10:Int) (t11:Int) (o0:(den Za)) (o1:(den Zb)) (o5:(List (den Z7))):Option Xt.R :=
  lpN n AJ5 m0 (Q6 0 (Qw (run (gc n) n) AJ4 (Xc Xt.fn Xt.res) (Xc Xt.fn Xt.res)) (Xc Xt.fn Xt.res))
    [(0,.dat Za t0 []),(1,.dat Zb t1 []),(2,.ptr 0 []),(3,.ptr 1 []),(4,.dat (.sl Z7) t4 []),(5,.dat (.sl Z7) ([]:List (den Z7)) [([],some 5)]),(9,.dat (.sl Zb) t9 []),(10,.dat (.int .i64) t10 []),(11,.dat (.int .i64) t11 [])]
    [.box Za o0 [],.box Zb o1 [],.none,.none,.none,.arr Z7 o5]
theorem Xt.l0_eq (n m0:Nat) (t0:(den Za)) (t1:(den Zb)) (t4:(List (den Z7))) (t9:(List (den Zb))) (t10:Int) (t11:Int) (o0:(den Za)) (o1:(den Zb)) (o5:(List (den Z7))):Xt.l0 n (m0+1) t0 t1 t4 t9 t10 t11 o0 o1 o5 =
  bif (decide (t11<t10)) then
    if (0:Int)≤t11∧t11<(((List.length t9):Nat):Int) then
    Option.bind (Vu n o0 t11) fun r1 =>
    bif (eqT Zb r1.1.1 o1) then
      if (List.length o5)+1≤1048576 then
      Xt.l0 n m0 t0 t1 t4 t9 t10 (IntKind.wrap .i64 (t11+1)) o0 o1 (o5 ++ ([(t11,(List.getD t9 (Int.toNat t11) (dft Zb):(den Zb)),())]:List (den Z7)))
      else none
    else
      Xt.l0 n m0 t0 t1 t4 t9 t10 (IntKind.wrap .i64 (t11+1)) o0 o1 o5
    else none
  else
    some ((o5,()),[(0,[])]):=by kernel_rfl
theorem Xt.eq (n:Nat) (a0:(den Za)) (a1:(den Zb)):Xt (n+1) a0 a1 =
  Xt.l0 n n a0 a1 ([]:List (den Z7)) (a0.2.2.2.1:(List (den Zb))) ((List.length (a0.2.2.2.1:(List (den Zb)))):Int) 0 a0 a1 ([]:List (den Z7)):=by kernel_rfl
@[reducible] def V9.R:Type:=Xd [.d Zm]×Z1
def V9 (n:Nat) (a0:(den Za)) (a1:Int):Option V9.R:=gc n 70 [.dat Za a0 [],.dat (.int .i64) a1 []] [.d Zm]
theorem V9.eq (n:Nat) (a0:(den Za)) (a1:Int):V9 (n+1) a0 a1 =
  if (0:Int)≤a1∧a1<(((List.length (a0.2.2.1:(List Int))):Nat):Int) then
  Option.bind (Xt n a0 (1,a1,())) fun r1 =>
  some (((0,10,0,([]:List Int),(r1.1.1:(List (den Z7))),(List.getD (a0.2.2.1:(List Int)) (Int.toNat a1) (0:Int):Int),()),()),[])
  else none:=by kernel_rfl
@[reducible] def Y3.R:Type:=Xd [.d Za,.d Zm]×Z1
def Y3 (n:Nat) (a0:(den Za)) (a1:Int) (a2:(den Z5)):Option Y3.R:=gc n 123 [.dat Za a0 [],.dat (.int .i64) a1 [],.dat Z5 a2 [],.refv (.clo 70 [])] [.d Za,.d Zm]
theorem Y3.eq (n:Nat) (a0:(den Za)) (a1:Int) (a2:(den Z5)):Y3 (n+1) a0 a1 a2 =
  Option.bind (V9 n a0 a1) fun r1 =>
  some ((a0,r1.1.1,()),[]):=by kernel_rfl
def Xb.res:List Sh:=[.d (.sl (.int .i64))]
@[reducible] def Xb.R:Type:=Xd [.d (.sl (.int .i64))]×Z1
def Xb (n:Nat) (a0:(den Za)) (a1:Int):Option Xb.R:=gc n 124 [.dat Za a0 [],.dat (.int .i64) a1 []] [.d (.sl (.int .i64))]
def Xb.l0 (n m0:Nat) (t0:(den Za)) (t1:Int) (t4:(List Int)) (t9:Int) (t10:Int) (o0:(den Za)) (o3:(List Int)):Option Xb.R :=
  lpN n AJ3 m0 (Q6 0 (Qw (run (gc n) n) AJ2 (Xc Xb.fn Xb.res) (Xc Xb.fn Xb.res)) (Xc Xb.fn Xb.res))
    [(0,.dat Za t0 []),(1,.dat (.int .i64) t1 []),(2,.ptr 0 []),(4,.dat (.sl (.int .i64)) t4 []),(5,.dat (.sl (.int .i64)) ([]:List Int) [([],some 3)]),(9,.dat (.int .i64) t9 []),(10,.dat (.int .i64) t10 [])]
    [.box Za o0 [],.none,.none,.arr (.int .i64) o3]
theorem Xb.l0_eq (n m0:Nat) (t0:(den Za)) (t1:Int) (t4:(List Int)) (t9:Int) (t10:Int) (o0:(den Za)) (o3:(List Int)):Xb.l0 n (m0+1) t0 t1 t4 t9 t10 o0 o3 =
  bif (decide (t10<t9)) then
    if (0:Int)≤t10∧t10<(((List.length (o0.2.1:(List Int))):Nat):Int) then
    bif (decide ((List.getD (o0.2.1:(List Int)) (Int.toNat t10) (0:Int):Int)=t1)) then
      if (List.length o3)+1≤1048576 then
      Xb.l0 n m0 t0 t1 t4 t9 (IntKind.wrap .i64 (t10+1)) o0 (o3 ++ ([t10]:List Int))
      else none
    else
      Xb.l0 n m0 t0 t1 t4 t9 (IntKind.wrap .i64 (t10+1)) o0 o3
    else none
  else
    some ((o3,()),[(0,[])]):=by kernel_rfl
theorem Xb.eq (n:Nat) (a0:(den Za)) (a1:Int):Xb (n+1) a0 a1 =
  Xb.l0 n n a0 a1 ([]:List Int) ((List.length (a0.2.1:(List Int))):Int) 0 a0 ([]:List Int):=by kernel_rfl
@[reducible] def Vi.R:Type:=Xd [.d Zm]×Z1
def Vi (n:Nat) (a0:(den Za)) (a1:Int):Option Vi.R:=gc n 69 [.dat Za a0 [],.dat (.int .i64) a1 []] [.d Zm]
theorem Vi.eq (n:Nat) (a0:(den Za)) (a1:Int):Vi (n+1) a0 a1 =
  if (0:Int)≤a1∧a1<(((List.length (a0.2.1:(List Int))):Nat):Int) then
  Option.bind (Xb n a0 (List.getD (a0.2.1:(List Int)) (Int.toNat a1) (0:Int):Int)) fun r1 =>
  Option.bind (Xt n a0 (0,(List.getD (a0.2.1:(List Int)) (Int.toNat a1) (0:Int):Int),())) fun r2 =>
  some (((0,9,(List.getD (a0.2.1:(List Int)) (Int.toNat a1) (0:Int):Int),(r1.1.1:(List Int)),(r2.1.1:(List (den Z7))),0,()),()),[])
  else none:=by kernel_rfl
@[reducible] def Js.R:Type:=Xd [.d Za,.d Zm]×Z1
def Js (n:Nat) (a0:(den Za)) (a1:Int) (a2:(den Z5)):Option Js.R:=gc n 123 [.dat Za a0 [],.dat (.int .i64) a1 [],.dat Z5 a2 [],.refv (.clo 69 [])] [.d Za,.d Zm]
theorem Js.eq (n:Nat) (a0:(den Za)) (a1:Int) (a2:(den Z5)):Js (n+1) a0 a1 a2 =
  Option.bind (Vi n a0 a1) fun r1 =>
  some ((a0,r1.1.1,()),[]):=by kernel_rfl
@[reducible] def Vn.R:Type:=Xd [.d (.sl (.int .i64))]×Z1
def Vn (n:Nat) (a0:(List (List Int))):Option Vn.R:=gc n 116 [.dat (.sl (.sl (.int .i64))) a0 []] [.d (.sl (.int .i64))]
@[reducible] def Y6.R:Type:=Xd [.d .bool]×Z1
def Y6 (n:Nat) (a0:(den Za)) (a1:Int):Option Y6.R:=gc n 114 [.dat Za a0 [],.dat (.int .i64) a1 []] [.d .bool]
theorem Y6.eq (n:Nat) (a0:(den Za)) (a1:Int):Y6 (n+1) a0 a1 =
  bif (decide (0≤a1)) then
    some (((decide (a1<((List.length (a0.2.1:(List Int))):Int))),()),[])
  else
    some ((false,()),[]):=by kernel_rfl
@[reducible] def Kr.R:Type:=Xd [.d .bool]×Z1
def Kr (n:Nat) (a0:(den Za)) (a1:Int):Option Kr.R:=gc n 113 [.dat Za a0 [],.dat (.int .i64) a1 []] [.d .bool]
theorem Kr.eq (n:Nat) (a0:(den Za)) (a1:Int):Kr (n+1) a0 a1 =
  bif (decide (0≤a1)) then
    some (((decide (a1<((List.length (a0.2.2.2.1:(List (den Zb)))):Int))),()),[])
  else
    some ((false,()),[]):=by kernel_rfl
@[reducible] def Y4.R:Type:=Xd [.d .bool]×Z1
def Y4 (n:Nat) (a0:Int) (a1:(den Za)):Option Y4.R:=gc n 119 [.dat (.int .i64) a0 [],.ref Za a1] [.d .bool]
theorem Y4.eq (n:Nat) (a0:Int) (a1:(den Za)):Y4 (n+1) a0 a1 =
  Option.bind (Kr n a1 a0) fun r1 =>
  some (((!(r1.1.1:Bool)),()),[]):=by kernel_rfl
def Zh.res:List Sh:=[.d (.int .i64)]
@[reducible] def Zh.R:Type:=Xd [.d (.int .i64)]×Z1
def Zh (n:Nat) (a0:(List Int)) (a1:(den Za)):Option Zh.R:=gc n 127 [.dat (.sl (.int .i64)) a0 [],.clo 119 [.ref Za a1]] [.d (.int .i64)]
def Zh.l0 (n m0:Nat) (t0:(List Int)) (t1:(den Za)) (t4:Int) (t7:Int) (t8:Int):Option Zh.R :=
  lpN n AA2 m0 (Q6 0 (Qw (run (gc n) n) AA1 (Xc Zh.fn Zh.res) (Xc Zh.fn Zh.res)) (Xc Zh.fn Zh.res))
    [(0,.dat (.sl (.int .i64)) t0 []),(1,.clo 119 [.ref Za t1]),(4,.dat (.int .i64) t4 []),(7,.dat (.int .i64) t7 []),(8,.dat (.int .i64) t8 [])]
    []
theorem Zh.l0_eq (n m0:Nat) (t0:(List Int)) (t1:(den Za)) (t4:Int) (t7:Int) (t8:Int):Zh.l0 n (m0+1) t0 t1 t4 t7 t8 =
  bif (decide (t8<t7)) then
    if (0:Int)≤t8∧t8<(((List.length t0):Nat):Int) then
    Option.bind (Y4 n (List.getD t0 (Int.toNat t8) (0:Int):Int) t1) fun r1 =>
    bif (r1.1.1:Bool) then
      some ((t8,()),[])
    else
      Zh.l0 n m0 t0 t1 t4 t7 (IntKind.wrap .i64 (t8+1))
    else none
  else
    some (((-1),()),[]):=by kernel_rfl
theorem Zh.eq (n:Nat) (a0:(List Int)) (a1:(den Za)):Zh (n+1) a0 a1 =
  Zh.l0 n n a0 a1 0 ((List.length a0):Int) 0:=by kernel_rfl
@[reducible] def Xa.R:Type:=Xd [.d .bool]×Z1
def Xa (n:Nat) (a0:(List Int)) (a1:(den Za)):Option Xa.R:=gc n 84 [.dat (.sl (.int .i64)) a0 [],.clo 119 [.ref Za a1]] [.d .bool]
theorem Xa.eq (n:Nat) (a0:(List Int)) (a1:(den Za)):Xa (n+1) a0 a1 =
  Option.bind (Zh n a0 a1) fun r1 =>
  some (((decide (0≤(r1.1.1:Int))),()),[]):=by kernel_rfl
def Xo.res:List Sh:=[.d .bool]
@[reducible] def Xo.R:Type:=Xd [.d .bool]×Z1
def Xo (n:Nat) (a0:(List Int)):Option Xo.R:=gc n 120 [.dat (.sl (.int .i64)) a0 []] [.d .bool]
def Xo.l0 (n m0:Nat) (t0:(List Int)) (t2:Bool) (t7:(List Int)) (t8:Int) (t9:Int) (o0:(List (Int×Bool))):Option Xo.R :=
  lpN n AJ1 m0 (Q6 0 (Qw (run (gc n) n) AJ0 (Xc Xo.fn Xo.res) (Xc Xo.fn Xo.res)) (Xc Xo.fn Xo.res))
    [(0,.dat (.sl (.int .i64)) t0 []),(2,.dat .bool t2 []),(3,.ptr 0 []),(7,.dat (.sl (.int .i64)) t7 []),(8,.dat (.int .i64) t8 []),(9,.dat (.int .i64) t9 [])]
    [.map (.int .i64) .bool o0]
theorem Xo.l0_eq (n m0:Nat) (t0:(List Int)) (t2:Bool) (t7:(List Int)) (t8:Int) (t9:Int) (o0:(List (Int×Bool))):Xo.l0 n (m0+1) t0 t2 t7 t8 t9 o0 =
  bif (decide (t9<t8)) then
    if (0:Int)≤t9∧t9<(((List.length t7):Nat):Int) then
    bif ((Option.getD (Yp (.int .i64) .bool (List.getD t7 (Int.toNat t9) (0:Int):Int) o0) false):Bool) then
      some ((true,()),[])
    else
      Xo.l0 n m0 t0 t2 t7 t8 (IntKind.wrap .i64 (t9+1)) (Gp (.int .i64) .bool (List.getD t7 (Int.toNat t9) (0:Int):Int) true o0)
    else none
  else
    some ((false,()),[]):=by kernel_rfl
theorem Xo.eq (n:Nat) (a0:(List Int)):Xo (n+1) a0 =
  Xo.l0 n n a0 false a0 ((List.length a0):Int) 0 []:=by kernel_rfl
@[reducible] def Ys.R:Type:=Xd [.d Zb]×Z1
def Ys (n:Nat) (a0:Int):Option Ys.R:=gc n 115 [.dat (.int .i64) a0 []] [.d Zb]
theorem Ys.eq (n:Nat) (a0:Int):Ys (n+1) a0 =
  some (((1,a0,()),()),[]):=by kernel_rfl
@[reducible] def Ym.R:Type:=Xd [.d .bool]×Z1
def Ym (n:Nat) (a0:Int) (a1:(den Za)) (a2:Int):Option Ym.R:=gc n 118 [.dat (.int .i64) a0 [],.ref Za a1,.ref (.int .i64) a2] [.d .bool]
theorem Ym.eq (n:Nat) (a0:Int) (a1:(den Za)) (a2:Int):Ym (n+1) a0 a1 a2 =
  if (0:Int)≤a0∧a0<(((List.length (a1.2.2.2.1:(List (den Zb)))):Nat):Int) then
  Option.bind (Ys n a2) fun r1 =>
  some (((!(eqT Zb (List.getD (a1.2.2.2.1:(List (den Zb))) (Int.toNat a0) (dft Zb):(den Zb)) r1.1.1)),()),[])
  else none:=by kernel_rfl
def Zs.res:List Sh:=[.d (.int .i64)]
@[reducible] def Zs.R:Type:=Xd [.d (.int .i64)]×Z1
def Zs (n:Nat) (a0:(List Int)) (a1:(den Za)) (a2:Int):Option Zs.R:=gc n 127 [.dat (.sl (.int .i64)) a0 [],.clo 118 [.ref Za a1,.ref (.int .i64) a2]] [.d (.int .i64)]
def Zs.l0 (n m0:Nat) (t0:(List Int)) (t1:(den Za)) (t1':Int) (t4:Int) (t7:Int) (t8:Int):Option Zs.R :=
  lpN n AA2 m0 (Q6 0 (Qw (run (gc n) n) AA1 (Xc Zh.fn Zs.res) (Xc Zh.fn Zs.res)) (Xc Zh.fn Zs.res))
    [(0,.dat (.sl (.int .i64)) t0 []),(1,.clo 118 [.ref Za t1,.ref (.int .i64) t1']),(4,.dat (.int .i64) t4 []),(7,.dat (.int .i64) t7 []),(8,.dat (.int .i64) t8 [])]
    []
theorem Zs.l0_eq (n m0:Nat) (t0:(List Int)) (t1:(den Za)) (t1':Int) (t4:Int) (t7:Int) (t8:Int):Zs.l0 n (m0+1) t0 t1 t1' t4 t7 t8 =
  bif (decide (t8<t7)) then
    if (0:Int)≤t8∧t8<(((List.length t0):Nat):Int) then
    Option.bind (Ym n (List.getD t0 (Int.toNat t8) (0:Int):Int) t1 t1') fun r1 =>
    bif (r1.1.1:Bool) then
      some ((t8,()),[])
    else
      Zs.l0 n m0 t0 t1 t1' t4 t7 (IntKind.wrap .i64 (t8+1))
    else none
  else
    some (((-1),()),[]):=by kernel_rfl
theorem Zs.eq (n:Nat) (a0:(List Int)) (a1:(den Za)) (a2:Int):Zs (n+1) a0 a1 a2 =
  Zs.l0 n n a0 a1 a2 0 ((List.length a0):Int) 0:=by kernel_rfl
@[reducible] def Xx.R:Type:=Xd [.d .bool]×Z1
def Xx (n:Nat) (a0:(List Int)) (a1:(den Za)) (a2:Int):Option Xx.R:=gc n 84 [.dat (.sl (.int .i64)) a0 [],.clo 118 [.ref Za a1,.ref (.int .i64) a2]] [.d .bool]
theorem Xx.eq (n:Nat) (a0:(List Int)) (a1:(den Za)) (a2:Int):Xx (n+1) a0 a1 a2 =
  Option.bind (Zs n a0 a1 a2) fun r1 =>
  some (((decide (0≤(r1.1.1:Int))),()),[]):=by kernel_rfl
@[reducible] def Yw.R:Type:=Xd [.d .bool]×Z1
def Yw (n:Nat) (a0:(List Int)) (a1:Int) (a2:(den Za)):Option Yw.R:=gc n 117 [.dat (.sl (.int .i64)) a0 [],.dat (.int .i64) a1 [],.ref Za a2] [.d .bool]
theorem Yw.eq (n:Nat) (a0:(List Int)) (a1:Int) (a2:(den Za)):Yw (n+1) a0 a1 a2 =
  Option.bind (Xx n a0 a2 a1) fun r1 =>
  some (((r1.1.1:Bool),()),[]):=by kernel_rfl
def Yv.res:List Sh:=[.d (.sl (.int .i64))]
@[reducible] def Yv.R:Type:=Xd [.d (.sl (.int .i64))]×Z1
def Yv (n:Nat) (a0:(den Za)) (a1:(den Zb)):Option Yv.R:=gc n 133 [.dat Za a0 [],.dat Zb a1 []] [.d (.sl (.int .i64))]
def Yv.l0 (n m0:Nat) (t0:(den Za)) (t1:(den Zb)) (t4:(List Int)) (t9:(List (den Zb))) (t10:Int) (t11:Int) (o0:(den Za)) (o1:(den Zb)) (o5:(List Int)):Option Yv.R :=
  lpN n AKb m0 (Q6 0 (Qw (run (gc n) n) AKa (Xc Yv.fn Yv.res) (Xc Yv.fn Yv.res)) (Xc Yv.fn Yv.res))
    [(0,.dat Za t0 []),(1,.dat Zb t1 []),(2,.ptr 0 []),(3,.ptr 1 []),(4,.dat (.sl (.int .i64)) t4 []),(5,.dat (.sl (.int .i64)) ([]:List Int) [([],some 5)]),(9,.dat (.sl Zb) t9 []),(10,.dat (.int .i64) t10 []),(11,.dat (.int .i64) t11 [])]
    [.box Za o0 [],.box Zb o1 [],.none,.none,.none,.arr (.int .i64) o5]
theorem Yv.l0_eq (n m0:Nat) (t0:(den Za)) (t1:(den Zb)) (t4:(List Int)) (t9:(List (den Zb))) (t10:Int) (t11:Int) (o0:(den Za)) (o1:(den Zb)) (o5:(List Int)):Yv.l0 n (m0+1) t0 t1 t4 t9 t10 t11 o0 o1 o5 =
  bif (decide (t11<t10)) then
    if (0:Int)≤t11∧t11<(((List.length t9):Nat):Int) then
    bif (eqT Zb o1 (List.getD t9 (Int.toNat t11) (dft Zb):(den Zb))) then
      if (List.length o5)+1≤1048576 then
      Yv.l0 n m0 t0 t1 t4 t9 t10 (IntKind.wrap .i64 (t11+1)) o0 o1 (o5 ++ ([t11]:List Int))
      else none
    else
      Yv.l0 n m0 t0 t1 t4 t9 t10 (IntKind.wrap .i64 (t11+1)) o0 o1 o5
    else none
  else
    some ((o5,()),[(0,[])]):=by kernel_rfl
theorem Yv.eq (n:Nat) (a0:(den Za)) (a1:(den Zb)):Yv (n+1) a0 a1 =
  Yv.l0 n n a0 a1 ([]:List Int) (a0.2.2.2.1:(List (den Zb))) ((List.length (a0.2.2.2.1:(List (den Zb)))):Int) 0 a0 a1 ([]:List Int):=by kernel_rfl
@[reducible] def Q4.R:Type:=Xd [.d (.int .i64)]×Z1
def Q4 (n:Nat) (a0:(den Za)) (a1:(den Zb)):Option Q4.R:=gc n 106 [.dat Za a0 [],.dat Zb a1 []] [.d (.int .i64)]
theorem Q4.eq (n:Nat) (a0:(den Za)) (a1:(den Zb)):Q4 (n+1) a0 a1 =
  if (0:Int)≤(a1.1:Int)∧(a1.1:Int)<((3:Nat):Int) then
  Option.bind (Yv n a0 a1) fun r1 =>
  some (((IntKind.wrap .i64 ((List.getD ([(a0.1.2.2.2.2.2.1:Int),(a0.1.2.2.2.2.2.2.1:Int),(a0.1.2.2.2.2.2.2.2.1:Int)]:List Int) (Int.toNat (a1.1:Int)) (0:Int):Int) - ((List.length (r1.1.1:(List Int))):Int))),()),[])
  else none:=by kernel_rfl
@[reducible] def H0.R:Type:=Xd [.d .bool]×Z1
def H0 (n:Nat) (a0:Int):Option H0.R:=gc n 135 [.dat (.int .i64) a0 []] [.d .bool]
theorem H0.eq (n:Nat) (a0:Int):H0 (n+1) a0 =
  bif (decide (0≤a0)) then
    some (((decide (a0≤1073741824)),()),[])
  else
    some ((false,()),[]):=by kernel_rfl
@[reducible] def V6.R:Type:=Xd [.d (.int .i64),.d (.int .i64),.d (.int .i64)]×Z1
def V6 (n:Nat) (a0:Int) (a1:Int) (a2:Int) (a3:Int):Option V6.R:=gc n 121 [.dat (.int .i64) a0 [],.dat (.int .i64) a1 [],.dat (.int .i64) a2 [],.dat (.int .i64) a3 []] [.d (.int .i64),.d (.int .i64),.d (.int .i64)]
theorem V6.eq (n:Nat) (a0:Int) (a1:Int) (a2:Int) (a3:Int):V6 (n+1) a0 a1 a2 a3 =
  bif (decide (a2<0)) then
    some ((a0,a1,1,()),[])
  else
    bif (decide (a3<0)) then
      some ((a0,a1,1,()),[])
    else
      bif (decide (a0<a2)) then
        some ((a0,a1,10,()),[])
      else
        bif (decide (a1<a3)) then
          some ((a0,a1,10,()),[])
        else
          Option.bind (H0 n (IntKind.wrap .i64 ((IntKind.wrap .i64 (a0 - a2))+a3))) fun r1 =>
          bif (!(r1.1.1:Bool)) then
            some ((a0,a1,11,()),[])
          else
            Option.bind (H0 n (IntKind.wrap .i64 ((IntKind.wrap .i64 (a1 - a3))+a2))) fun r2 =>
            bif (!(r2.1.1:Bool)) then
              some ((a0,a1,11,()),[])
            else
              some (((IntKind.wrap .i64 ((IntKind.wrap .i64 (a0 - a2))+a3)),(IntKind.wrap .i64 ((IntKind.wrap .i64 (a1 - a3))+a2)),0,()),[]):=by kernel_rfl
@[reducible] def Jr.R:Type:=Xd [.d (.sl (.int .i64))]×Z1
def Jr (n:Nat) (a0:(List Int)):Option Jr.R:=gc n 136 [.dat (.sl (.int .i64)) a0 []] [.d (.sl (.int .i64))]
@[reducible] def Yu.R:Type:=Xd [.d (.sl Zb)]×Z1
def Yu (n:Nat) (a0:(List (den Zb))):Option Yu.R:=gc n 137 [.dat (.sl Zb) a0 []] [.d (.sl Zb)]
@[reducible] def Jd.R:Type:=Xd [.d Za]×Z1
def Jd (n:Nat) (a0:(den Za)):Option Jd.R:=gc n 122 [.dat Za a0 []] [.d Za]
theorem Jd.eq (n:Nat) (a0:(den Za)):Jd (n+1) a0 =
  Option.bind (Jr n (a0.2.1:(List Int))) fun r1 =>
  bif (Zr r1.2 [((0,[]),2)]) then
    Option.bind (Jr n (a0.2.2.1:(List Int))) fun r2 =>
    bif (Zr r2.2 [((0,[]),3)]) then
      Option.bind (Yu n (a0.2.2.2.1:(List (den Zb)))) fun r3 =>
      bif (Zr r3.2 [((0,[]),4)]) then
        some (((a0.1,(r1.1.1:(List Int)),(r2.1.1:(List Int)),(r3.1.1:(List (den Zb))),()),()),[(0,[1]),(0,[2]),(0,[3])])
      else
        none
    else
      none
  else
    none:=by kernel_rfl
def Z6.res:List Sh:=[.d Za,.d (.int .i64)]
@[reducible] def Z6.R:Type:=Xd [.d Za,.d (.int .i64)]×Z1
def Z6 (n:Nat) (a0:(den Za)) (a1:Int) (a2:(den Z5)):Option Z6.R:=gc n 67 [.dat Za a0 [],.dat (.int .i64) a1 [],.dat Z5 a2 []] [.d Za,.d (.int .i64)]
def Z6.l0 (n m0:Nat) (t0:(den Za)) (t1:Int) (t2:(den Z5)) (t7:Int) (t8:Int) (t9:(List Int)) (t11:Int) (t12:Int) (t13:Int) (t14:Int) (t135:(List Int)) (t136:Int) (t137:Int) (o0:(den Za)) (o1:(den Z5)) (o2:(den Za)) (o3:(List (List Int))) (o4:(den Za)) (o5:(List Int)) (o6:(List (den Zb))):Option Z6.R :=
  lpN n AKu m0 (Q6 1 (Qw (run (gc n) n) AKt (Xc Z6.fn Z6.res) (Xc Z6.fn Z6.res)) (Xc Z6.fn Z6.res))
    [(0,.dat Za t0 []),(1,.dat (.int .i64) t1 []),(2,.dat Z5 t2 []),(3,.ptr 0 []),(5,.ptr 1 []),(6,.ptr 2 []),(7,.dat (.int .i64) t7 []),(8,.dat (.int .i64) t8 []),(9,.dat (.sl (.int .i64)) t9 []),(10,.clo 117 [.ptr 0 []]),(11,.dat (.int .i64) t11 []),(12,.dat (.int .i64) t12 []),(13,.dat (.int .i64) t13 []),(14,.dat (.int .i64) t14 []),(15,.ptr 4 []),(135,.dat (.sl (.int .i64)) t135 []),(136,.dat (.int .i64) t136 []),(137,.dat (.int .i64) t137 [])]
    [.box Za o0 [],.box Z5 o1 [],.box Za o2 [],.frz (.sl (.int .i64)) o3,.box Za o4 [([2],some 5),([3],some 6)],.arr (.int .i64) o5,.arr Zb o6]
def Z6.l1 (n m0:Nat) (t0_1:(den Za)) (t1_1:Int) (t2_1:(den Z5)) (t7_1:Int) (t8_1:Int) (t9_1:(List Int)) (t11_1:Int) (t12_1:Int) (t13_1:Int) (t14_1:Int) (t135_1:(List Int)) (t136_1:Int) (t137_1:Int) (t149_1:(List Int)) (t150_1:Int) (t151_1:Int) (o0_1:(den Za)) (o1_1:(den Z5)) (o2_1:(den Za)) (o3_1:(List (List Int))) (o4_1:(den Za)) (o5_1:(List Int)) (o6_1:(List (den Zb))):Option Z6.R :=
  lpN n AKw m0 (Q6 3 (Qw (run (gc n) n) AKv (Xc Z6.fn Z6.res) (Xc Z6.fn Z6.res)) (Xc Z6.fn Z6.res))
    [(0,.dat Za t0_1 []),(1,.dat (.int .i64) t1_1 []),(2,.dat Z5 t2_1 []),(3,.ptr 0 []),(5,.ptr 1 []),(6,.ptr 2 []),(7,.dat (.int .i64) t7_1 []),(8,.dat (.int .i64) t8_1 []),(9,.dat (.sl (.int .i64)) t9_1 []),(10,.clo 117 [.ptr 0 []]),(11,.dat (.int .i64) t11_1 []),(12,.dat (.int .i64) t12_1 []),(13,.dat (.int .i64) t13_1 []),(14,.dat (.int .i64) t14_1 []),(15,.ptr 4 []),(135,.dat (.sl (.int .i64)) t135_1 []),(136,.dat (.int .i64) t136_1 []),(137,.dat (.int .i64) t137_1 []),(149,.dat (.sl (.int .i64)) t149_1 []),(150,.dat (.int .i64) t150_1 []),(151,.dat (.int .i64) t151_1 [])]
    [.box Za o0_1 [],.box Z5 o1_1 [],.box Za o2_1 [],.frz (.sl (.int .i64)) o3_1,.box Za o4_1 [([2],some 5),([3],some 6)],.arr (.int .i64) o5_1,.arr Zb o6_1]
theorem Z6.l0_eq (n m0:Nat) (t0:(den Za)) (t1:Int) (t2:(den Z5)) (t7:Int) (t8:Int) (t9:(List Int)) (t11:Int) (t12:Int) (t13:Int) (t14:Int) (t135:(List Int)) (t136:Int) (t137:Int) (o0:(den Za)) (o1:(den Z5)) (o2:(den Za)) (o3:(List (List Int))) (o4:(den Za)) (o5:(List Int)) (o6:(List (den Zb))):Z6.l0 n (m0+1) t0 t1 t2 t7 t8 t9 t11 t12 t13 t14 t135 t136 t137 o0 o1 o2 o3 o4 o5 o6 =
  bif (decide (t137<t136)) then
    if (0:Int)≤t137∧t137<(((List.length t135):Nat):Int) then
    Option.bind (Ys n t8) fun r13 =>
    if (0:Int)≤(List.getD t135 (Int.toNat t137) (0:Int):Int)∧(List.getD t135 (Int.toNat t137) (0:Int):Int)<(((List.length o6):Nat):Int) then
    Z6.l0 n m0 t0 t1 t2 t7 t8 t9 t11 t12 t13 t14 t135 t136 (IntKind.wrap .i64 (t137+1)) o0 o1 o2 o3 o4 o5 (List.set o6 (Int.toNat (List.getD t135 (Int.toNat t137) (0:Int):Int)) r13.1.1:(List (den Zb)))
    else none
    else none
  else
    Z6.l1 n n t0 t1 t2 t7 t8 t9 t11 t12 t13 t14 t135 t136 t137 (o1.2.2.2.2.2.2.2.1:(List Int)) ((List.length (o1.2.2.2.2.2.2.2.1:(List Int))):Int) 0 o0 o1 o2 o3 o4 o5 o6:=by kernel_rfl
theorem Z6.l1_eq (n m0:Nat) (t0_1:(den Za)) (t1_1:Int) (t2_1:(den Z5)) (t7_1:Int) (t8_1:Int) (t9_1:(List Int)) (t11_1:Int) (t12_1:Int) (t13_1:Int) (t14_1:Int) (t135_1:(List Int)) (t136_1:Int) (t137_1:Int) (t149_1:(List Int)) (t150_1:Int) (t151_1:Int) (o0_1:(den Za)) (o1_1:(den Z5)) (o2_1:(den Za)) (o3_1:(List (List Int))) (o4_1:(den Za)) (o5_1:(List Int)) (o6_1:(List (den Zb))):Z6.l1 n (m0+1) t0_1 t1_1 t2_1 t7_1 t8_1 t9_1 t11_1 t12_1 t13_1 t14_1 t135_1 t136_1 t137_1 t149_1 t150_1 t151_1 o0_1 o1_1 o2_1 o3_1 o4_1 o5_1 o6_1 =
  bif (decide (t151_1<t150_1)) then
    if (0:Int)≤t151_1∧t151_1<(((List.length t149_1):Nat):Int) then
    Option.bind (Ys n t1_1) fun r14 =>
    if (0:Int)≤(List.getD t149_1 (Int.toNat t151_1) (0:Int):Int)∧(List.getD t149_1 (Int.toNat t151_1) (0:Int):Int)<(((List.length o6_1):Nat):Int) then
    Z6.l1 n m0 t0_1 t1_1 t2_1 t7_1 t8_1 t9_1 t11_1 t12_1 t13_1 t14_1 t135_1 t136_1 t137_1 t149_1 t150_1 (IntKind.wrap .i64 (t151_1+1)) o0_1 o1_1 o2_1 o3_1 o4_1 o5_1 (List.set o6_1 (Int.toNat (List.getD t149_1 (Int.toNat t151_1) (0:Int):Int)) r14.1.1:(List (den Zb)))
    else none
    else none
  else
    some (((o4_1.1,(o4_1.2.1:(List Int)),o5_1,o6_1,()),0,()),[(0,[2]),(0,[3])]):=by kernel_rfl
theorem Z6.eq (n:Nat) (a0:(den Za)) (a1:Int) (a2:(den Z5)):Z6 (n+1) a0 a1 a2 =
  Option.bind (Vn n ([(a2.2.2.2.2.2.1:(List Int)),(a2.2.2.2.2.2.2.2.1:(List Int))]:List (List Int))) fun r1 =>
  Option.bind (Y6 n a0 (a2.2.2.2.2.1:Int)) fun r2 =>
  bif (!(r2.1.1:Bool)) then
    some ((a0,3,()),[])
  else
    Option.bind (Xa n (r1.1.1:(List Int)) a0) fun r3 =>
    bif (r3.1.1:Bool) then
      some ((a0,3,()),[])
    else
      bif (decide ((a2.2.2.2.2.1:Int)=a1)) then
        some ((a0,12,()),[])
      else
        if (0:Int)≤(a2.2.2.2.2.1:Int)∧(a2.2.2.2.2.1:Int)<(((List.length (a0.2.1:(List Int))):Nat):Int) then
        if (0:Int)≤a1∧a1<(((List.length (a0.2.1:(List Int))):Nat):Int) then
        bif (!(decide ((List.getD (a0.2.1:(List Int)) (Int.toNat (a2.2.2.2.2.1:Int)) (0:Int):Int)=(List.getD (a0.2.1:(List Int)) (Int.toNat a1) (0:Int):Int)))) then
          some ((a0,5,()),[])
        else
          Option.bind (Xo n (r1.1.1:(List Int))) fun r4 =>
          bif (r4.1.1:Bool) then
            some ((a0,13,()),[])
          else
            Option.bind (Yw n (a2.2.2.2.2.2.1:(List Int)) a1 a0) fun r5 =>
            bif (r5.1.1:Bool) then
              some ((a0,5,()),[])
            else
              Option.bind (Yw n (a2.2.2.2.2.2.2.2.1:(List Int)) (a2.2.2.2.2.1:Int) a0) fun r6 =>
              bif (r6.1.1:Bool) then
                some ((a0,5,()),[])
              else
                Option.bind (Ys n a1) fun r7 =>
                Option.bind (Q4 n a0 r7.1.1) fun r8 =>
                bif (decide ((r8.1.1:Int)<(IntKind.wrap .i64 (((List.length (a2.2.2.2.2.2.2.2.1:(List Int))):Int) - ((List.length (a2.2.2.2.2.2.1:(List Int))):Int))))) then
                  some ((a0,9,()),[])
                else
                  Option.bind (Ys n (a2.2.2.2.2.1:Int)) fun r9 =>
                  Option.bind (Q4 n a0 r9.1.1) fun r10 =>
                  bif (decide ((r10.1.1:Int)<(IntKind.wrap .i64 (0 - (IntKind.wrap .i64 (((List.length (a2.2.2.2.2.2.2.2.1:(List Int))):Int) - ((List.length (a2.2.2.2.2.2.1:(List Int))):Int))))))) then
                    some ((a0,9,()),[])
                  else
                    if (0:Int)≤a1∧a1<(((List.length (a0.2.2.1:(List Int))):Nat):Int) then
                    if (0:Int)≤(a2.2.2.2.2.1:Int)∧(a2.2.2.2.2.1:Int)<(((List.length (a0.2.2.1:(List Int))):Nat):Int) then
                    Option.bind (V6 n (List.getD (a0.2.2.1:(List Int)) (Int.toNat a1) (0:Int):Int) (List.getD (a0.2.2.1:(List Int)) (Int.toNat (a2.2.2.2.2.1:Int)) (0:Int):Int) (a2.2.2.2.2.2.2.1:Int) (a2.2.2.2.2.2.2.2.2.1:Int)) fun r11 =>
                    bif (!(decide ((r11.1.2.2.1:Int)=0))) then
                      some ((a0,(r11.1.2.2.1:Int),()),[])
                    else
                      Option.bind (Jd n a0) fun r12 =>
                      bif (Zr r12.2 [((0,[2]),5),((0,[3]),6)]) then
                        if (0:Int)≤a1∧a1<(((List.length (r12.1.1.2.2.1:(List Int))):Nat):Int) then
                        if (0:Int)≤(a2.2.2.2.2.1:Int)∧(a2.2.2.2.2.1:Int)<(((List.length (List.set (r12.1.1.2.2.1:(List Int)) (Int.toNat a1) (r11.1.1:Int):(List Int))):Nat):Int) then
                        Z6.l0 n n a0 a1 a2 0 (a2.2.2.2.2.1:Int) (r1.1.1:(List Int)) (IntKind.wrap .i64 (((List.length (a2.2.2.2.2.2.2.2.1:(List Int))):Int) - ((List.length (a2.2.2.2.2.2.1:(List Int))):Int))) (r11.1.1:Int) (r11.1.2.1:Int) (r11.1.2.2.1:Int) (a2.2.2.2.2.2.1:(List Int)) ((List.length (a2.2.2.2.2.2.1:(List Int))):Int) 0 a0 a2 ((([]:List (List Int)),([]:List Int),([]:List Int),([]:List Int),([]:List Bool),0,0,0,()),([]:List Int),([]:List Int),([]:List (den Zb)),()) ([(a2.2.2.2.2.2.1:(List Int)),(a2.2.2.2.2.2.2.2.1:(List Int))]:List (List Int)) (r12.1.1.1,(r12.1.1.2.1:(List Int)),([]:List Int),([]:List (den Zb)),()) (List.set (List.set (r12.1.1.2.2.1:(List Int)) (Int.toNat a1) (r11.1.1:Int):(List Int)) (Int.toNat (a2.2.2.2.2.1:Int)) (r11.1.2.1:Int):(List Int)) (r12.1.1.2.2.2.1:(List (den Zb)))
                        else none
                        else none
                      else
                        none
                    else none
                    else none
        else none
        else none:=by kernel_rfl
@[reducible] def Yg.R:Type:=Xd [.d Zm]×Z1
def Yg (n:Nat) (a0:Int) (a1:Int) (a2:Int):Option Yg.R:=gc n 87 [.dat (.int .i64) a0 [],.dat (.int .i64) a1 [],.dat (.int .i64) a2 []] [.d Zm]
theorem Yg.eq (n:Nat) (a0:Int) (a1:Int) (a2:Int):Yg (n+1) a0 a1 a2 =
  bif (!(decide (a2=0))) then
    some (((a2,0,0,([]:List Int),([]:List (den Z7)),0,()),()),[])
  else
    some (((0,a0,a1,([]:List Int),([]:List (den Z7)),0,()),()),[]):=by kernel_rfl
@[reducible] def Qp.R:Type:=Xd [.d Za,.d Zm]×Z1
def Qp (n:Nat) (a0:(den Za)) (a1:Int) (a2:(den Z5)):Option Qp.R:=gc n 91 [.dat Za a0 [],.dat (.int .i64) a1 [],.dat Z5 a2 [],.refv (.clo 67 [])] [.d Za,.d Zm]
theorem Qp.eq (n:Nat) (a0:(den Za)) (a1:Int) (a2:(den Z5)):Qp (n+1) a0 a1 a2 =
  Option.bind (Z6 n a0 a1 a2) fun r1 =>
  Option.bind (Yg n (a2.1:Int) 0 (r1.1.2.1:Int)) fun r2 =>
  some ((r1.1.1,r2.1.1,()),[]):=by kernel_rfl
@[reducible] def K2.R:Type:=Xd [.d Za]×Z1
def K2 (n:Nat) (a0:(den Za)) (a1:Int) (a2:(den Zb)):Option K2.R:=gc n 107 [.dat Za a0 [],.dat (.int .i64) a1 [],.dat Zb a2 []] [.d Za]
theorem K2.eq (n:Nat) (a0:(den Za)) (a1:Int) (a2:(den Zb)):K2 (n+1) a0 a1 a2 =
  Option.bind (Jd n a0) fun r1 =>
  bif (Zr r1.2 [((0,[3]),4)]) then
    if (0:Int)≤a1∧a1<(((List.length (r1.1.1.2.2.2.1:(List (den Zb)))):Nat):Int) then
    some (((r1.1.1.1,(r1.1.1.2.1:(List Int)),(r1.1.1.2.2.1:(List Int)),(List.set (r1.1.1.2.2.2.1:(List (den Zb))) (Int.toNat a1) a2:(List (den Zb))),()),()),[(0,[3])])
    else none
  else
    none:=by kernel_rfl
@[reducible] def Vh.R:Type:=Xd [.d Za,.d (.int .i64)]×Z1
def Vh (n:Nat) (a0:(den Za)) (a1:Int) (a2:Int) (a3:Int):Option Vh.R:=gc n 66 [.dat Za a0 [],.dat (.int .i64) a1 [],.dat (.int .i64) a2 [],.dat (.int .i64) a3 []] [.d Za,.d (.int .i64)]
theorem Vh.eq (n:Nat) (a0:(den Za)) (a1:Int) (a2:Int) (a3:Int):Vh (n+1) a0 a1 a2 a3 =
  Option.bind (Kr n a0 a2) fun r1 =>
  bif (!(r1.1.1:Bool)) then
    some ((a0,3,()),[])
  else
    Option.bind (Y6 n a0 a3) fun r2 =>
    bif (!(r2.1.1:Bool)) then
      some ((a0,3,()),[])
    else
      bif (decide (a3=a1)) then
        some ((a0,12,()),[])
      else
        if (0:Int)≤a3∧a3<(((List.length (a0.2.1:(List Int))):Nat):Int) then
        if (0:Int)≤a1∧a1<(((List.length (a0.2.1:(List Int))):Nat):Int) then
        bif (!(decide ((List.getD (a0.2.1:(List Int)) (Int.toNat a3) (0:Int):Int)=(List.getD (a0.2.1:(List Int)) (Int.toNat a1) (0:Int):Int)))) then
          some ((a0,5,()),[])
        else
          if (0:Int)≤a2∧a2<(((List.length (a0.2.2.2.1:(List (den Zb)))):Nat):Int) then
          Option.bind (Ys n a1) fun r3 =>
          bif (!(eqT Zb (List.getD (a0.2.2.2.1:(List (den Zb))) (Int.toNat a2) (dft Zb):(den Zb)) r3.1.1)) then
            some ((a0,5,()),[])
          else
            Option.bind (Ys n a3) fun r4 =>
            Option.bind (Q4 n a0 r4.1.1) fun r5 =>
            bif (decide ((r5.1.1:Int)<1)) then
              some ((a0,9,()),[])
            else
              Option.bind (Ys n a3) fun r6 =>
              Option.bind (K2 n a0 a2 r6.1.1) fun r7 =>
              some ((r7.1.1,0,()),[])
          else none
        else none
        else none:=by kernel_rfl
@[reducible] def Qn.R:Type:=Xd [.d Za,.d (.int .i64)]×Z1
def Qn (n:Nat) (a0:(den Za)) (a1:Int) (a2:(den Z5)):Option Qn.R:=gc n 65 [.dat Za a0 [],.dat (.int .i64) a1 [],.dat Z5 a2 []] [.d Za,.d (.int .i64)]
theorem Qn.eq (n:Nat) (a0:(den Za)) (a1:Int) (a2:(den Z5)):Qn (n+1) a0 a1 a2 =
  Option.bind (Vh n a0 a1 (a2.2.2.1:Int) (a2.2.2.2.2.1:Int)) fun r1 =>
  some ((r1.1.1,(r1.1.2.1:Int),()),[]):=by kernel_rfl
@[reducible] def Vb.R:Type:=Xd [.d Za,.d Zm]×Z1
def Vb (n:Nat) (a0:(den Za)) (a1:Int) (a2:(den Z5)):Option Vb.R:=gc n 91 [.dat Za a0 [],.dat (.int .i64) a1 [],.dat Z5 a2 [],.refv (.clo 65 [])] [.d Za,.d Zm]
theorem Vb.eq (n:Nat) (a0:(den Za)) (a1:Int) (a2:(den Z5)):Vb (n+1) a0 a1 a2 =
  Option.bind (Qn n a0 a1 a2) fun r1 =>
  Option.bind (Yg n (a2.1:Int) 0 (r1.1.2.1:Int)) fun r2 =>
  some ((r1.1.1,r2.1.1,()),[]):=by kernel_rfl
@[reducible] def Qy.R:Type:=Xd [.d .bool]×Z1
def Qy (n:Nat) (a0:(den Za)) (a1:Int):Option Qy.R:=gc n 96 [.dat Za a0 [],.dat (.int .i64) a1 []] [.d .bool]
theorem Qy.eq (n:Nat) (a0:(den Za)) (a1:Int):Qy (n+1) a0 a1 =
  bif (decide (a1<0)) then
    some ((true,()),[])
  else
    some (((decide (((List.length (a0.2.2.2.1:(List (den Zb)))):Int)≤a1)),()),[]):=by kernel_rfl
@[reducible] def Yk.R:Type:=Xd [.d .bool]×Z1
def Yk (n:Nat) (a0:(den Za)) (a1:Int) (a2:Int):Option Yk.R:=gc n 108 [.ref Za a0,.ref (.int .i64) a1,.ref (.int .i64) a2] [.d .bool]
theorem Yk.eq (n:Nat) (a0:(den Za)) (a1:Int) (a2:Int):Yk (n+1) a0 a1 a2 =
  Option.bind (Qy n a0 a1) fun r1 =>
  bif (r1.1.1:Bool) then
    some ((true,()),[])
  else
    Option.bind (Qy n a0 a2) fun r2 =>
    some (((r2.1.1:Bool),()),[]):=by kernel_rfl
@[reducible] def Jt.R:Type:=Xd [.d .bool]×Z1
def Jt (n:Nat) (a0:(den Za)) (a1:Int) (a2:Int):Option Jt.R:=gc n 98 [.dat Za a0 [],.dat (.int .i64) a1 [],.dat (.int .i64) a2 []] [.d .bool]
theorem Jt.eq (n:Nat) (a0:(den Za)) (a1:Int) (a2:Int):Jt (n+1) a0 a1 a2 =
  Option.bind (Vu n a0 a2) fun r1 =>
  if (0:Int)≤a1∧a1<(((List.length (a0.2.1:(List Int))):Nat):Int) then
  bif (eqT Zb r1.1.1 (0,(List.getD (a0.2.1:(List Int)) (Int.toNat a1) (0:Int):Int),())) then
    some ((true,()),[])
  else
    some (((eqT Zb r1.1.1 (1,a1,())),()),[])
  else none:=by kernel_rfl
@[reducible] def Qq.R:Type:=Xd [.d .bool]×Z1
def Qq (n:Nat) (a0:(den Za)) (a1:Int) (a2:Int):Option Qq.R:=gc n 109 [.ref Za a0,.ref (.int .i64) a1,.ref (.int .i64) a2] [.d .bool]
theorem Qq.eq (n:Nat) (a0:(den Za)) (a1:Int) (a2:Int):Qq (n+1) a0 a1 a2 =
  Option.bind (Jt n a0 a1 a2) fun r1 =>
  some (((!(r1.1.1:Bool)),()),[]):=by kernel_rfl
@[reducible] def Qr.R:Type:=Xd [.d .bool]×Z1
def Qr (n:Nat) (a0:(den Za)) (a1:Int):Option Qr.R:=gc n 110 [.ref Za a0,.ref (.int .i64) a1] [.d .bool]
theorem Qr.eq (n:Nat) (a0:(den Za)) (a1:Int):Qr (n+1) a0 a1 =
  if (0:Int)≤a1∧a1<(((List.length (a0.1.2.2.2.2.1:(List Bool))):Nat):Int) then
  some (((!(List.getD (a0.1.2.2.2.2.1:(List Bool)) (Int.toNat a1) false:Bool)),()),[])
  else none:=by kernel_rfl
@[reducible] def Qs.R:Type:=Xd [.d .bool]×Z1
def Qs (n:Nat) (a0:(den Za)) (a1:Int) (a2:(den Zb)):Option Qs.R:=gc n 111 [.ref Za a0,.ref (.int .i64) a1,.ref Zb a2] [.d .bool]
theorem Qs.eq (n:Nat) (a0:(den Za)) (a1:Int) (a2:(den Zb)):Qs (n+1) a0 a1 a2 =
  if (0:Int)≤a1∧a1<(((List.length (a0.2.2.2.1:(List (den Zb)))):Nat):Int) then
  some (((!(eqT Zb (List.getD (a0.2.2.2.1:(List (den Zb))) (Int.toNat a1) (dft Zb):(den Zb)) a2)),()),[])
  else none:=by kernel_rfl
@[reducible] def Qt.R:Type:=Xd [.d .bool]×Z1
def Qt (n:Nat) (a0:(den Za)) (a1:(den Zb)):Option Qt.R:=gc n 112 [.ref Za a0,.ref Zb a1] [.d .bool]
theorem Qt.eq (n:Nat) (a0:(den Za)) (a1:(den Zb)):Qt (n+1) a0 a1 =
  Option.bind (Q4 n a0 a1) fun r1 =>
  some (((decide ((r1.1.1:Int)<1)),()),[]):=by kernel_rfl
@[reducible] def Qc.R:Type:=Xd [.d (.int .i64)]×Z1
def Qc (n:Nat) (a0:(den Za)) (a1:Int) (a2:Int) (a3:Int) (a4:(den Za)) (a5:Int) (a6:Int) (a7:Int) (a8:(den Za)) (a9:Int) (a10:Int) (a11:(den Za)) (a12:Int) (a13:(den Zb)) (a14:Int) (a15:(den Za)) (a16:(den Zb)) (a17:Int):Option Qc.R:=gc n 94 [.slv [.agv [.clo 108 [.ref Za a0,.ref (.int .i64) a1,.ref (.int .i64) a2],.dat (.int .i64) a3 []],.agv [.clo 109 [.ref Za a4,.ref (.int .i64) a5,.ref (.int .i64) a6],.dat (.int .i64) a7 []],.agv [.clo 110 [.ref Za a8,.ref (.int .i64) a9],.dat (.int .i64) a10 []],.agv [.clo 111 [.ref Za a11,.ref (.int .i64) a12,.ref Zb a13],.dat (.int .i64) a14 []],.agv [.clo 112 [.ref Za a15,.ref Zb a16],.dat (.int .i64) a17 []]]] [.d (.int .i64)]
theorem Qc.eq (n:Nat) (a0:(den Za)) (a1:Int) (a2:Int) (a3:Int) (a4:(den Za)) (a5:Int) (a6:Int) (a7:Int) (a8:(den Za)) (a9:Int) (a10:Int) (a11:(den Za)) (a12:Int) (a13:(den Zb)) (a14:Int) (a15:(den Za)) (a16:(den Zb)) (a17:Int):Qc (n+14) a0 a1 a2 a3 a4 a5 a6 a7 a8 a9 a10 a11 a12 a13 a14 a15 a16 a17 =
  Option.bind (Yk (n+13) a0 a1 a2) fun r1 =>
  bif (r1.1.1:Bool) then
    some ((a3,()),[])
  else
    Option.bind (Qq (n+13) a4 a5 a6) fun r2 =>
    bif (r2.1.1:Bool) then
      some ((a7,()),[])
    else
      Option.bind (Qr (n+13) a8 a9) fun r3 =>
      bif (r3.1.1:Bool) then
        some ((a10,()),[])
      else
        Option.bind (Qs (n+13) a11 a12 a13) fun r4 =>
        bif (r4.1.1:Bool) then
          some ((a14,()),[])
        else
          Option.bind (Qt (n+13) a15 a16) fun r5 =>
          bif (r5.1.1:Bool) then
            some ((a17,()),[])
          else
            some ((0,()),[]):=by kernel_rfl
@[reducible] def Vg.R:Type:=Xd [.d Za,.d (.int .i64)]×Z1
def Vg (n:Nat) (a0:(den Za)) (a1:Int) (a2:Int) (a3:Int):Option Vg.R:=gc n 64 [.dat Za a0 [],.dat (.int .i64) a1 [],.dat (.int .i64) a2 [],.dat (.int .i64) a3 []] [.d Za,.d (.int .i64)]
theorem Vg.eq (n:Nat) (a0:(den Za)) (a1:Int) (a2:Int) (a3:Int):Vg (n+1) a0 a1 a2 a3 =
  Option.bind (Qc n a0 a2 a3 3 a0 a1 a3 5 a0 a3 6 a0 a2 (2,a3,()) 5 a0 (1,a1,()) 9) fun r1 =>
  bif (!(decide ((r1.1.1:Int)=0))) then
    some ((a0,(r1.1.1:Int),()),[])
  else
    Option.bind (K2 n a0 a2 (1,a1,())) fun r2 =>
    some ((r2.1.1,0,()),[]):=by kernel_rfl
@[reducible] def Qm.R:Type:=Xd [.d Za,.d (.int .i64)]×Z1
def Qm (n:Nat) (a0:(den Za)) (a1:Int) (a2:(den Z5)):Option Qm.R:=gc n 63 [.dat Za a0 [],.dat (.int .i64) a1 [],.dat Z5 a2 []] [.d Za,.d (.int .i64)]
theorem Qm.eq (n:Nat) (a0:(den Za)) (a1:Int) (a2:(den Z5)):Qm (n+1) a0 a1 a2 =
  Option.bind (Vg n a0 a1 (a2.2.2.1:Int) (a2.2.2.2.1:Int)) fun r1 =>
  some ((r1.1.1,(r1.1.2.1:Int),()),[]):=by kernel_rfl
@[reducible] def Vc.R:Type:=Xd [.d Za,.d Zm]×Z1
def Vc (n:Nat) (a0:(den Za)) (a1:Int) (a2:(den Z5)):Option Vc.R:=gc n 91 [.dat Za a0 [],.dat (.int .i64) a1 [],.dat Z5 a2 [],.refv (.clo 63 [])] [.d Za,.d Zm]
theorem Vc.eq (n:Nat) (a0:(den Za)) (a1:Int) (a2:(den Z5)):Vc (n+1) a0 a1 a2 =
  Option.bind (Qm n a0 a1 a2) fun r1 =>
  Option.bind (Yg n (a2.1:Int) 0 (r1.1.2.1:Int)) fun r2 =>
  some ((r1.1.1,r2.1.1,()),[]):=by kernel_rfl
@[reducible] def Yy.R:Type:=Xd [.d .bool]×Z1
def Yy (n:Nat) (a0:(den Za)) (a1:Int) (a2:Int):Option Yy.R:=gc n 95 [.ref Za a0,.ref (.int .i64) a1,.ref (.int .i64) a2] [.d .bool]
theorem Yy.eq (n:Nat) (a0:(den Za)) (a1:Int) (a2:Int):Yy (n+1) a0 a1 a2 =
  Option.bind (Qy n a0 a1) fun r1 =>
  bif (r1.1.1:Bool) then
    some ((true,()),[])
  else
    Option.bind (Qy n a0 a2) fun r2 =>
    some (((r2.1.1:Bool),()),[]):=by kernel_rfl
@[reducible] def Je.R:Type:=Xd [.d .bool]×Z1
def Je (n:Nat) (a0:(den Za)) (a1:Int) (a2:(den Zb)) (a3:Int) (a4:Int):Option Je.R:=gc n 97 [.ref Za a0,.ref (.int .i64) a1,.ref Zb a2,.ref (.int .i64) a3,.ref (.int .i64) a4] [.d .bool]
theorem Je.eq (n:Nat) (a0:(den Za)) (a1:Int) (a2:(den Zb)) (a3:Int) (a4:Int):Je (n+1) a0 a1 a2 a3 a4 =
  if (0:Int)≤a1∧a1<(((List.length (a0.2.2.2.1:(List (den Zb)))):Nat):Int) then
  bif (!(eqT Zb (List.getD (a0.2.2.2.1:(List (den Zb))) (Int.toNat a1) (dft Zb):(den Zb)) a2)) then
    some ((true,()),[])
  else
    Option.bind (Jt n a0 a3 a4) fun r1 =>
    some (((!(r1.1.1:Bool)),()),[])
  else none:=by kernel_rfl
@[reducible] def Jf.R:Type:=Xd [.d .bool]×Z1
def Jf (n:Nat) (a0:(den Za)) (a1:Int):Option Jf.R:=gc n 99 [.ref Za a0,.ref (.int .i64) a1] [.d .bool]
theorem Jf.eq (n:Nat) (a0:(den Za)) (a1:Int):Jf (n+1) a0 a1 =
  if (0:Int)≤a1∧a1<(((List.length (a0.1.2.2.2.2.1:(List Bool))):Nat):Int) then
  some (((!(List.getD (a0.1.2.2.2.2.1:(List Bool)) (Int.toNat a1) false:Bool)),()),[])
  else none:=by kernel_rfl
@[reducible] def U5.R:Type:=Xd [.d .bool]×Z1
def U5 (n:Nat) (a0:(den Za)) (a1:Int) (a2:Int):Option U5.R:=gc n 101 [.dat Za a0 [],.dat (.int .i64) a1 [],.dat (.int .i64) a2 []] [.d .bool]
@[reducible] def Jg.R:Type:=Xd [.d .bool]×Z1
def Jg (n:Nat) (a0:(den Za)) (a1:Int) (a2:Int):Option Jg.R:=gc n 100 [.ref Za a0,.ref (.int .i64) a1,.ref (.int .i64) a2] [.d .bool]
theorem Jg.eq (n:Nat) (a0:(den Za)) (a1:Int) (a2:Int):Jg (n+1) a0 a1 a2 =
  Option.bind (U5 n a0 a1 a2) fun r1 =>
  some (((r1.1.1:Bool),()),[]):=by kernel_rfl
@[reducible] def Jc.R:Type:=Xd [.d (.int .i64)]×Z1
def Jc (n:Nat) (a0:(den Za)) (a1:Int):Option Jc.R:=gc n 103 [.dat Za a0 [],.dat (.int .i64) a1 []] [.d (.int .i64)]
theorem Jc.eq (n:Nat) (a0:(den Za)) (a1:Int):Jc (n+1) a0 a1 =
  Option.bind (H6 n a0 a1) fun r1 =>
  Option.bind (Qf n r1.1.1.1 (r1.1.1.2.1:Int)) fun r2 =>
  some (((IntKind.wrap .i64 (((List.length (r2.1.1:(List (den Zb)))):Int) - 1)),()),[]):=by kernel_rfl
def Xl.res:List Sh:=[.d (.int .i64)]
@[reducible] def Xl.R:Type:=Xd [.d (.int .i64)]×Z1
def Xl (n:Nat) (a0:(den Za)) (a1:Int):Option Xl.R:=gc n 104 [.dat Za a0 [],.dat (.int .i64) a1 []] [.d (.int .i64)]
def Xl.l0 (n m0:Nat) (t0:(den Za)) (t1:Int) (t4:Int) (t5:Int) (t9:Int) (t10:Int) (o0:(den Za)):Option Xl.R :=
  lpN n AJz m0 (Q6 0 (Qw (run (gc n) n) AJy (Xc Xl.fn Xl.res) (Xc Xl.fn Xl.res)) (Xc Xl.fn Xl.res))
    [(0,.dat Za t0 []),(1,.dat (.int .i64) t1 []),(2,.ptr 0 []),(4,.dat (.int .i64) t4 []),(5,.dat (.int .i64) t5 []),(9,.dat (.int .i64) t9 []),(10,.dat (.int .i64) t10 [])]
    [.box Za o0 []]
theorem Xl.l0_eq (n m0:Nat) (t0:(den Za)) (t1:Int) (t4:Int) (t5:Int) (t9:Int) (t10:Int) (o0:(den Za)):Xl.l0 n (m0+1) t0 t1 t4 t5 t9 t10 o0 =
  bif (decide (t10<t9)) then
    Option.bind (U5 n o0 t10 t1) fun r1 =>
    bif (r1.1.1:Bool) then
      Option.bind (Jc n o0 t10) fun r2 =>
      Option.bind (Jc n o0 t1) fun r3 =>
      Xl.l0 n m0 t0 t1 t4 (if t5<(IntKind.wrap .i64 ((r2.1.1:Int) - (r3.1.1:Int))) then (IntKind.wrap .i64 ((r2.1.1:Int) - (r3.1.1:Int))) else t5) t9 (IntKind.wrap .i64 (t10+1)) o0
    else
      Xl.l0 n m0 t0 t1 t4 t5 t9 (IntKind.wrap .i64 (t10+1)) o0
  else
    some ((t5,()),[]):=by kernel_rfl
theorem Xl.eq (n:Nat) (a0:(den Za)) (a1:Int):Xl (n+1) a0 a1 =
  Xl.l0 n n a0 a1 0 0 ((List.length (a0.2.2.2.1:(List (den Zb)))):Int) 0 a0:=by kernel_rfl
@[reducible] def Jh.R:Type:=Xd [.d .bool]×Z1
def Jh (n:Nat) (a0:(den Za)) (a1:Int) (a2:Int):Option Jh.R:=gc n 102 [.ref Za a0,.ref (.int .i64) a1,.ref (.int .i64) a2] [.d .bool]
theorem Jh.eq (n:Nat) (a0:(den Za)) (a1:Int) (a2:Int):Jh (n+1) a0 a1 a2 =
  Option.bind (Jc n a0 a1) fun r1 =>
  Option.bind (Xl n a0 a2) fun r2 =>
  some (((decide (4<(IntKind.wrap .i64 ((IntKind.wrap .i64 ((r1.1.1:Int)+1))+(r2.1.1:Int))))),()),[]):=by kernel_rfl
@[reducible] def Ji.R:Type:=Xd [.d .bool]×Z1
def Ji (n:Nat) (a0:(den Za)) (a1:(den Zb)):Option Ji.R:=gc n 105 [.ref Za a0,.ref Zb a1] [.d .bool]
theorem Ji.eq (n:Nat) (a0:(den Za)) (a1:(den Zb)):Ji (n+1) a0 a1 =
  Option.bind (Q4 n a0 a1) fun r1 =>
  some (((decide ((r1.1.1:Int)<1)),()),[]):=by kernel_rfl
@[reducible] def Y1.R:Type:=Xd [.d (.int .i64)]×Z1
def Y1 (n:Nat) (a0:(den Za)) (a1:Int) (a2:Int) (a3:Int) (a4:(den Za)) (a5:Int) (a6:(den Zb)) (a7:Int) (a8:Int) (a9:Int) (a10:(den Za)) (a11:Int) (a12:Int) (a13:(den Za)) (a14:Int) (a15:Int) (a16:Int) (a17:(den Za)) (a18:Int) (a19:Int) (a20:Int) (a21:(den Za)) (a22:(den Zb)) (a23:Int):Option Y1.R:=gc n 94 [.slv [.agv [.clo 95 [.ref Za a0,.ref (.int .i64) a1,.ref (.int .i64) a2],.dat (.int .i64) a3 []],.agv [.clo 97 [.ref Za a4,.ref (.int .i64) a5,.ref Zb a6,.ref (.int .i64) a7,.ref (.int .i64) a8],.dat (.int .i64) a9 []],.agv [.clo 99 [.ref Za a10,.ref (.int .i64) a11],.dat (.int .i64) a12 []],.agv [.clo 100 [.ref Za a13,.ref (.int .i64) a14,.ref (.int .i64) a15],.dat (.int .i64) a16 []],.agv [.clo 102 [.ref Za a17,.ref (.int .i64) a18,.ref (.int .i64) a19],.dat (.int .i64) a20 []],.agv [.clo 105 [.ref Za a21,.ref Zb a22],.dat (.int .i64) a23 []]]] [.d (.int .i64)]
theorem Y1.eq (n:Nat) (a0:(den Za)) (a1:Int) (a2:Int) (a3:Int) (a4:(den Za)) (a5:Int) (a6:(den Zb)) (a7:Int) (a8:Int) (a9:Int) (a10:(den Za)) (a11:Int) (a12:Int) (a13:(den Za)) (a14:Int) (a15:Int) (a16:Int) (a17:(den Za)) (a18:Int) (a19:Int) (a20:Int) (a21:(den Za)) (a22:(den Zb)) (a23:Int):Y1 (n+14) a0 a1 a2 a3 a4 a5 a6 a7 a8 a9 a10 a11 a12 a13 a14 a15 a16 a17 a18 a19 a20 a21 a22 a23 =
  Option.bind (Yy (n+13) a0 a1 a2) fun r1 =>
  bif (r1.1.1:Bool) then
    some ((a3,()),[])
  else
    Option.bind (Je (n+13) a4 a5 a6 a7 a8) fun r2 =>
    bif (r2.1.1:Bool) then
      some ((a9,()),[])
    else
      Option.bind (Jf (n+13) a10 a11) fun r3 =>
      bif (r3.1.1:Bool) then
        some ((a12,()),[])
      else
        Option.bind (Jg (n+13) a13 a14 a15) fun r4 =>
        bif (r4.1.1:Bool) then
          some ((a16,()),[])
        else
          Option.bind (Jh (n+13) a17 a18 a19) fun r5 =>
          bif (r5.1.1:Bool) then
            some ((a20,()),[])
          else
            Option.bind (Ji (n+13) a21 a22) fun r6 =>
            bif (r6.1.1:Bool) then
              some ((a23,()),[])
            else
              some ((0,()),[]):=by kernel_rfl
@[reducible] def V4.R:Type:=Xd [.d Za,.d (.int .i64)]×Z1
def V4 (n:Nat) (a0:(den Za)) (a1:Int) (a2:Int) (a3:Int):Option V4.R:=gc n 62 [.dat Za a0 [],.dat (.int .i64) a1 [],.dat (.int .i64) a2 [],.dat (.int .i64) a3 []] [.d Za,.d (.int .i64)]
theorem V4.eq (n:Nat) (a0:(den Za)) (a1:Int) (a2:Int) (a3:Int):V4 (n+1) a0 a1 a2 a3 =
  Option.bind (Y1 n a0 a2 a3 3 a0 a2 (1,a1,()) a1 a3 5 a0 a3 6 a0 a3 a2 7 a0 a3 a2 8 a0 (2,a3,()) 9) fun r1 =>
  bif (!(decide ((r1.1.1:Int)=0))) then
    some ((a0,(r1.1.1:Int),()),[])
  else
    Option.bind (K2 n a0 a2 (2,a3,())) fun r2 =>
    some ((r2.1.1,0,()),[]):=by kernel_rfl
@[reducible] def Ql.R:Type:=Xd [.d Za,.d (.int .i64)]×Z1
def Ql (n:Nat) (a0:(den Za)) (a1:Int) (a2:(den Z5)):Option Ql.R:=gc n 61 [.dat Za a0 [],.dat (.int .i64) a1 [],.dat Z5 a2 []] [.d Za,.d (.int .i64)]
theorem Ql.eq (n:Nat) (a0:(den Za)) (a1:Int) (a2:(den Z5)):Ql (n+1) a0 a1 a2 =
  Option.bind (V4 n a0 a1 (a2.2.2.1:Int) (a2.2.2.2.1:Int)) fun r1 =>
  some ((r1.1.1,(r1.1.2.1:Int),()),[]):=by kernel_rfl
@[reducible] def Vd.R:Type:=Xd [.d Za,.d Zm]×Z1
def Vd (n:Nat) (a0:(den Za)) (a1:Int) (a2:(den Z5)):Option Vd.R:=gc n 91 [.dat Za a0 [],.dat (.int .i64) a1 [],.dat Z5 a2 [],.refv (.clo 61 [])] [.d Za,.d Zm]
theorem Vd.eq (n:Nat) (a0:(den Za)) (a1:Int) (a2:(den Z5)):Vd (n+1) a0 a1 a2 =
  Option.bind (Ql n a0 a1 a2) fun r1 =>
  Option.bind (Yg n (a2.1:Int) 0 (r1.1.2.1:Int)) fun r2 =>
  some ((r1.1.1,r2.1.1,()),[]):=by kernel_rfl
@[reducible] def Q2.R:Type:=Xd [.d Zb,.d Zb]×Z1
def Q2 (n:Nat) (a0:(den Za)) (a1:Int):Option Q2.R:=gc n 92 [.dat Za a0 [],.dat (.int .i64) a1 []] [.d Zb,.d Zb]
theorem Q2.eq (n:Nat) (a0:(den Za)) (a1:Int):Q2 (n+1) a0 a1 =
  if (0:Int)≤a1∧a1<(((List.length (a0.2.1:(List Int))):Nat):Int) then
  some (((0,(List.getD (a0.2.1:(List Int)) (Int.toNat a1) (0:Int):Int),()),(1,a1,()),()),[])
  else none:=by kernel_rfl
@[reducible] def Vr.R:Type:=Xd [.d Za,.d (.int .i64)]×Z1
def Vr (n:Nat) (a0:(den Za)) (a1:Int) (a2:(den Zb)) (a3:(den Zb)):Option Vr.R:=gc n 93 [.dat Za a0 [],.dat (.int .i64) a1 [],.dat Zb a2 [],.dat Zb a3 []] [.d Za,.d (.int .i64)]
theorem Vr.eq (n:Nat) (a0:(den Za)) (a1:Int) (a2:(den Zb)) (a3:(den Zb)):Vr (n+1) a0 a1 a2 a3 =
  bif (decide (a1<0)) then
    some ((a0,3,()),[])
  else
    bif (decide (((List.length (a0.2.2.2.1:(List (den Zb)))):Int)≤a1)) then
      some ((a0,3,()),[])
    else
      if (0:Int)≤a1∧a1<(((List.length (a0.2.2.2.1:(List (den Zb)))):Nat):Int) then
      bif (!(eqT Zb (List.getD (a0.2.2.2.1:(List (den Zb))) (Int.toNat a1) (dft Zb):(den Zb)) a2)) then
        some ((a0,5,()),[])
      else
        Option.bind (Q4 n a0 a3) fun r1 =>
        bif (decide ((r1.1.1:Int)<1)) then
          some ((a0,9,()),[])
        else
          Option.bind (K2 n a0 a1 a3) fun r2 =>
          some ((r2.1.1,0,()),[])
      else none:=by kernel_rfl
@[reducible] def V8.R:Type:=Xd [.d Za,.d (.int .i64)]×Z1
def V8 (n:Nat) (a0:(den Za)) (a1:Int) (a2:Int):Option V8.R:=gc n 60 [.dat Za a0 [],.dat (.int .i64) a1 [],.dat (.int .i64) a2 []] [.d Za,.d (.int .i64)]
theorem V8.eq (n:Nat) (a0:(den Za)) (a1:Int) (a2:Int):V8 (n+1) a0 a1 a2 =
  Option.bind (Q2 n a0 a1) fun r1 =>
  Option.bind (Vr n a0 a2 r1.1.2.1 r1.1.1) fun r2 =>
  some ((r2.1.1,(r2.1.2.1:Int),()),[]):=by kernel_rfl
@[reducible] def Qk.R:Type:=Xd [.d Za,.d (.int .i64)]×Z1
def Qk (n:Nat) (a0:(den Za)) (a1:Int) (a2:(den Z5)):Option Qk.R:=gc n 59 [.dat Za a0 [],.dat (.int .i64) a1 [],.dat Z5 a2 []] [.d Za,.d (.int .i64)]
theorem Qk.eq (n:Nat) (a0:(den Za)) (a1:Int) (a2:(den Z5)):Qk (n+1) a0 a1 a2 =
  Option.bind (V8 n a0 a1 (a2.2.2.1:Int)) fun r1 =>
  some ((r1.1.1,(r1.1.2.1:Int),()),[]):=by kernel_rfl
@[reducible] def Ve.R:Type:=Xd [.d Za,.d Zm]×Z1
def Ve (n:Nat) (a0:(den Za)) (a1:Int) (a2:(den Z5)):Option Ve.R:=gc n 91 [.dat Za a0 [],.dat (.int .i64) a1 [],.dat Z5 a2 [],.refv (.clo 59 [])] [.d Za,.d Zm]
theorem Ve.eq (n:Nat) (a0:(den Za)) (a1:Int) (a2:(den Z5)):Ve (n+1) a0 a1 a2 =
  Option.bind (Qk n a0 a1 a2) fun r1 =>
  Option.bind (Yg n (a2.1:Int) 0 (r1.1.2.1:Int)) fun r2 =>
  some ((r1.1.1,r2.1.1,()),[]):=by kernel_rfl
@[reducible] def Hc.R:Type:=Xd [.d Za,.d (.int .i64)]×Z1
def Hc (n:Nat) (a0:(den Za)) (a1:Int) (a2:Int):Option Hc.R:=gc n 58 [.dat Za a0 [],.dat (.int .i64) a1 [],.dat (.int .i64) a2 []] [.d Za,.d (.int .i64)]
theorem Hc.eq (n:Nat) (a0:(den Za)) (a1:Int) (a2:Int):Hc (n+1) a0 a1 a2 =
  Option.bind (Q2 n a0 a1) fun r1 =>
  Option.bind (Vr n a0 a2 r1.1.1 r1.1.2.1) fun r2 =>
  some ((r2.1.1,(r2.1.2.1:Int),()),[]):=by kernel_rfl
@[reducible] def Qj.R:Type:=Xd [.d Za,.d (.int .i64)]×Z1
def Qj (n:Nat) (a0:(den Za)) (a1:Int) (a2:(den Z5)):Option Qj.R:=gc n 57 [.dat Za a0 [],.dat (.int .i64) a1 [],.dat Z5 a2 []] [.d Za,.d (.int .i64)]
theorem Qj.eq (n:Nat) (a0:(den Za)) (a1:Int) (a2:(den Z5)):Qj (n+1) a0 a1 a2 =
  Option.bind (Hc n a0 a1 (a2.2.2.1:Int)) fun r1 =>
  some ((r1.1.1,(r1.1.2.1:Int),()),[]):=by kernel_rfl
@[reducible] def Vf.R:Type:=Xd [.d Za,.d Zm]×Z1
def Vf (n:Nat) (a0:(den Za)) (a1:Int) (a2:(den Z5)):Option Vf.R:=gc n 91 [.dat Za a0 [],.dat (.int .i64) a1 [],.dat Z5 a2 [],.refv (.clo 57 [])] [.d Za,.d Zm]
theorem Vf.eq (n:Nat) (a0:(den Za)) (a1:Int) (a2:(den Z5)):Vf (n+1) a0 a1 a2 =
  Option.bind (Qj n a0 a1 a2) fun r1 =>
  Option.bind (Yg n (a2.1:Int) 0 (r1.1.2.1:Int)) fun r2 =>
  some ((r1.1.1,r2.1.1,()),[]):=by kernel_rfl
@[reducible] def Hj.R:Type:=Xd [.clo 128 [.refv (.clo 90 [.ref (.int .i64),.ref Za,.ref (.int .i64)]),.ref Za,.ref (.int .i64)]]×Z1
def Hj (n:Nat) (a0:(den Za)) (a1:Int) (a2:Int) (a3:(den Za)) (a4:Int):Option Hj.R:=gc n 88 [.dat Za a0 [],.dat (.int .i64) a1 [],.clo 90 [.ref (.int .i64) a2,.ref Za a3,.ref (.int .i64) a4]] [.clo 128 [.refv (.clo 90 [.ref (.int .i64),.ref Za,.ref (.int .i64)]),.ref Za,.ref (.int .i64)]]
theorem Hj.eq (n:Nat) (a0:(den Za)) (a1:Int) (a2:Int) (a3:(den Za)) (a4:Int):Hj (n+1) a0 a1 a2 a3 a4 =
  some ((((a2,a3,a4,()),a0,a1,()),()),[]):=by kernel_rfl
@[reducible] def Jk.R:Type:=Xd [.d (.int .i64)]×Z1
def Jk (n:Nat) (a0:Int) (a1:(den Za)) (a2:Int):Option Jk.R:=gc n 90 [.ref (.int .i64) a0,.ref Za a1,.ref (.int .i64) a2] [.d (.int .i64)]
theorem Jk.eq (n:Nat) (a0:Int) (a1:(den Za)) (a2:Int):Jk (n+1) a0 a1 a2 =
  bif (decide (a0<0)) then
    some ((3,()),[])
  else
    bif (decide (((List.length (a1.2.1:(List Int))):Int)≤a0)) then
      some ((3,()),[])
    else
      bif (decide (a0=a2)) then
        some ((12,()),[])
      else
        if (0:Int)≤a0∧a0<(((List.length (a1.2.1:(List Int))):Nat):Int) then
        if (0:Int)≤a2∧a2<(((List.length (a1.2.1:(List Int))):Nat):Int) then
        bif (!(decide ((List.getD (a1.2.1:(List Int)) (Int.toNat a0) (0:Int):Int)=(List.getD (a1.2.1:(List Int)) (Int.toNat a2) (0:Int):Int)))) then
          some ((5,()),[])
        else
          some ((0,()),[])
        else none
        else none:=by kernel_rfl
@[reducible] def J9.R:Type:=Xd [.d (.int .i64),.d .bool]×Z1
def J9 (n:Nat) (a0:(den Za)) (a1:Int) (a2:Int):Option J9.R:=gc n 129 [.dat Za a0 [],.dat (.int .i64) a1 [],.dat (.int .i64) a2 []] [.d (.int .i64),.d .bool]
theorem J9.eq (n:Nat) (a0:(den Za)) (a1:Int) (a2:Int):J9 (n+1) a0 a1 a2 =
  if (0:Int)≤a1∧a1<(((List.length (a0.1.1:(List (List Int)))):Nat):Int) then
  if (0:Int)≤a2∧a2<((4:Nat):Int) then
  some (((if (List.getD (List.getD (a0.1.1:(List (List Int))) (Int.toNat a1) (dft (.arr 4 (.int .i64))):(List Int)) (Int.toNat a2) (0:Int):Int)<0 then 0 else (List.getD (List.getD (a0.1.1:(List (List Int))) (Int.toNat a1) (dft (.arr 4 (.int .i64))):(List Int)) (Int.toNat a2) (0:Int):Int)),(decide (0≤(List.getD (List.getD (a0.1.1:(List (List Int))) (Int.toNat a1) (dft (.arr 4 (.int .i64))):(List Int)) (Int.toNat a2) (0:Int):Int))),()),[])
  else none
  else none:=by kernel_rfl
@[reducible] def Kc.R:Type:=Xd [.d Za,.d (.int .i64),.d (.int .i64)]×Z1
def Kc (n:Nat) (a0:Int) (a1:Int) (a2:(den Za)) (a3:Int) (a4:(den Za)) (a5:Int):Option Kc.R:=gc n 128 [.dat (.int .i64) a0 [],.refv (.clo 90 [.ref (.int .i64) a1,.ref Za a2,.ref (.int .i64) a3]),.ref Za a4,.ref (.int .i64) a5] [.d Za,.d (.int .i64),.d (.int .i64)]
theorem Kc.eq (n:Nat) (a0:Int) (a1:Int) (a2:(den Za)) (a3:Int) (a4:(den Za)) (a5:Int):Kc (n+1) a0 a1 a2 a3 a4 a5 =
  Option.bind (Jk n a1 a2 a3) fun r1 =>
  bif (!(decide ((r1.1.1:Int)=0))) then
    some ((a4,0,(r1.1.1:Int),()),[])
  else
    if (0:Int)≤a0∧a0<(((List.length (a4.2.1:(List Int))):Nat):Int) then
    Option.bind (J9 n a4 (List.getD (a4.2.1:(List Int)) (Int.toNat a0) (0:Int):Int) a5) fun r2 =>
    bif (!(r2.1.2.1:Bool)) then
      some ((a4,0,4,()),[])
    else
      Option.bind (Jd n a4) fun r3 =>
      bif (Zr r3.2 [((0,[1]),2)]) then
        if (0:Int)≤a0∧a0<(((List.length (r3.1.1.2.1:(List Int))):Nat):Int) then
        some (((r3.1.1.1,(List.set (r3.1.1.2.1:(List Int)) (Int.toNat a0) (r2.1.1:Int):(List Int)),(r3.1.1.2.2.1:(List Int)),(r3.1.1.2.2.2.1:(List (den Zb))),()),(r2.1.1:Int),0,()),[(0,[1])])
        else none
      else
        none
    else none:=by kernel_rfl
@[reducible] def Kb.R:Type:=Xd [.d Za,.d (.int .i64),.d (.int .i64)]×Z1
def Kb (n:Nat) (a0:(den Za)) (a1:Int) (a2:Int) (a3:Int):Option Kb.R:=gc n 55 [.dat Za a0 [],.dat (.int .i64) a1 [],.dat (.int .i64) a2 [],.dat (.int .i64) a3 []] [.d Za,.d (.int .i64),.d (.int .i64)]
theorem Kb.eq (n:Nat) (a0:(den Za)) (a1:Int) (a2:Int) (a3:Int):Kb (n+1) a0 a1 a2 a3 =
  Option.bind (Hj n a0 a3 a2 a0 a1) fun r1 =>
  Option.bind (Kc n a2 (r1.1.1.1.1:Int) r1.1.1.1.2.1 (r1.1.1.1.2.2.1:Int) r1.1.1.2.1 (r1.1.1.2.2.1:Int)) fun r2 =>
  some ((r2.1.1,(r2.1.2.1:Int),(r2.1.2.2.1:Int),()),[]):=by kernel_rfl
@[reducible] def Qi.R:Type:=Xd [.d Za,.d (.int .i64),.d (.int .i64)]×Z1
def Qi (n:Nat) (a0:(den Za)) (a1:Int) (a2:(den Z5)):Option Qi.R:=gc n 54 [.dat Za a0 [],.dat (.int .i64) a1 [],.dat Z5 a2 []] [.d Za,.d (.int .i64),.d (.int .i64)]
theorem Qi.eq (n:Nat) (a0:(den Za)) (a1:Int) (a2:(den Z5)):Qi (n+1) a0 a1 a2 =
  Option.bind (Kb n a0 a1 (a2.2.2.2.2.1:Int) (a2.2.1:Int)) fun r1 =>
  some ((r1.1.1,(r1.1.2.1:Int),(r1.1.2.2.1:Int),()),[]):=by kernel_rfl
@[reducible] def Qo.R:Type:=Xd [.d Za,.d Zm]×Z1
def Qo (n:Nat) (a0:(den Za)) (a1:Int) (a2:(den Z5)):Option Qo.R:=gc n 86 [.dat Za a0 [],.dat (.int .i64) a1 [],.dat Z5 a2 [],.refv (.clo 54 [])] [.d Za,.d Zm]
theorem Qo.eq (n:Nat) (a0:(den Za)) (a1:Int) (a2:(den Z5)):Qo (n+1) a0 a1 a2 =
  Option.bind (Qi n a0 a1 a2) fun r1 =>
  Option.bind (Yg n (a2.1:Int) (r1.1.2.1:Int) (r1.1.2.2.1:Int)) fun r2 =>
  some ((r1.1.1,r2.1.1,()),[]):=by kernel_rfl
@[reducible] def Vx.R:Type:=Xd [.clo 128 [.refv (.clo 89 []),.ref Za,.ref (.int .i64)]]×Z1
def Vx (n:Nat) (a0:(den Za)) (a1:Int):Option Vx.R:=gc n 88 [.dat Za a0 [],.dat (.int .i64) a1 [],.clo 89 []] [.clo 128 [.refv (.clo 89 []),.ref Za,.ref (.int .i64)]]
theorem Vx.eq (n:Nat) (a0:(den Za)) (a1:Int):Vx (n+1) a0 a1 =
  some ((((()),a0,a1,()),()),[]):=by kernel_rfl
@[reducible] def J5.R:Type:=Xd [.d (.int .i64)]×Z1
def J5 (n:Nat):Option J5.R:=gc n 89 [] [.d (.int .i64)]
theorem J5.eq (n:Nat):J5 (n+1) =
  some ((0,()),[]):=by kernel_rfl
@[reducible] def Qx.R:Type:=Xd [.d Za,.d (.int .i64),.d (.int .i64)]×Z1
def Qx (n:Nat) (a0:Int) (a1:(den Za)) (a2:Int):Option Qx.R:=gc n 128 [.dat (.int .i64) a0 [],.refv (.clo 89 []),.ref Za a1,.ref (.int .i64) a2] [.d Za,.d (.int .i64),.d (.int .i64)]
theorem Qx.eq (n:Nat) (a0:Int) (a1:(den Za)) (a2:Int):Qx (n+1) a0 a1 a2 =
  Option.bind (J5 n) fun r1 =>
  bif (!(decide ((r1.1.1:Int)=0))) then
    some ((a1,0,(r1.1.1:Int),()),[])
  else
    if (0:Int)≤a0∧a0<(((List.length (a1.2.1:(List Int))):Nat):Int) then
    Option.bind (J9 n a1 (List.getD (a1.2.1:(List Int)) (Int.toNat a0) (0:Int):Int) a2) fun r2 =>
    bif (!(r2.1.2.1:Bool)) then
      some ((a1,0,4,()),[])
    else
      Option.bind (Jd n a1) fun r3 =>
      bif (Zr r3.2 [((0,[1]),2)]) then
        if (0:Int)≤a0∧a0<(((List.length (r3.1.1.2.1:(List Int))):Nat):Int) then
        some (((r3.1.1.1,(List.set (r3.1.1.2.1:(List Int)) (Int.toNat a0) (r2.1.1:Int):(List Int)),(r3.1.1.2.2.1:(List Int)),(r3.1.1.2.2.2.1:(List (den Zb))),()),(r2.1.1:Int),0,()),[(0,[1])])
        else none
      else
        none
    else none:=by kernel_rfl
@[reducible] def Ka.R:Type:=Xd [.d Za,.d (.int .i64),.d (.int .i64)]×Z1
def Ka (n:Nat) (a0:(den Za)) (a1:Int) (a2:Int):Option Ka.R:=gc n 53 [.dat Za a0 [],.dat (.int .i64) a1 [],.dat (.int .i64) a2 []] [.d Za,.d (.int .i64),.d (.int .i64)]
theorem Ka.eq (n:Nat) (a0:(den Za)) (a1:Int) (a2:Int):Ka (n+1) a0 a1 a2 =
  Option.bind (Vx n a0 a2) fun r1 =>
  Option.bind (Qx n a1 r1.1.1.2.1 (r1.1.1.2.2.1:Int)) fun r2 =>
  some ((r2.1.1,(r2.1.2.1:Int),(r2.1.2.2.1:Int),()),[]):=by kernel_rfl
@[reducible] def Qh.R:Type:=Xd [.d Za,.d (.int .i64),.d (.int .i64)]×Z1
def Qh (n:Nat) (a0:(den Za)) (a1:Int) (a2:(den Z5)):Option Qh.R:=gc n 52 [.dat Za a0 [],.dat (.int .i64) a1 [],.dat Z5 a2 []] [.d Za,.d (.int .i64),.d (.int .i64)]
theorem Qh.eq (n:Nat) (a0:(den Za)) (a1:Int) (a2:(den Z5)):Qh (n+1) a0 a1 a2 =
  Option.bind (Ka n a0 a1 (a2.2.1:Int)) fun r1 =>
  some ((r1.1.1,(r1.1.2.1:Int),(r1.1.2.2.1:Int),()),[]):=by kernel_rfl
@[reducible] def Va.R:Type:=Xd [.d Za,.d Zm]×Z1
def Va (n:Nat) (a0:(den Za)) (a1:Int) (a2:(den Z5)):Option Va.R:=gc n 86 [.dat Za a0 [],.dat (.int .i64) a1 [],.dat Z5 a2 [],.refv (.clo 52 [])] [.d Za,.d Zm]
theorem Va.eq (n:Nat) (a0:(den Za)) (a1:Int) (a2:(den Z5)):Va (n+1) a0 a1 a2 =
  Option.bind (Qh n a0 a1 a2) fun r1 =>
  Option.bind (Yg n (a2.1:Int) (r1.1.2.1:Int) (r1.1.2.2.1:Int)) fun r2 =>
  some ((r1.1.1,r2.1.1,()),[]):=by kernel_rfl
@[reducible] def Jo.R:Type:=Xd [.d Za,.d Zm]×Z1
def Jo (n:Nat) (a0:(den Za)) (a1:Int) (a2:(den Z5)):Option Jo.R:=gc n 10 [.dat Za a0 [],.dat (.int .i64) a1 [],.dat Z5 a2 []] [.d Za,.d Zm]
theorem Jo.eq (n:Nat) (a0:(den Za)) (a1:Int) (a2:(den Z5)):Jo (n+1) a0 a1 a2 =
  Option.bind (K0 n a2) fun r1 =>
  bif (!(r1.1.1:Bool)) then
    some ((a0,(2,0,0,([]:List Int),([]:List (den Z7)),0,()),()),[])
  else
    Option.bind (Ta n) fun r2 =>
    bif (decide ((a2.1:Int)=1)) then
      Option.bind (Va n a0 a1 a2) fun r12 =>
      some ((r12.1.1,r12.1.2.1,()),[])
    else
      bif (decide ((a2.1:Int)=2)) then
        Option.bind (Qo n a0 a1 a2) fun r11 =>
        some ((r11.1.1,r11.1.2.1,()),[])
      else
        bif (decide ((a2.1:Int)=3)) then
          Option.bind (Vf n a0 a1 a2) fun r10 =>
          some ((r10.1.1,r10.1.2.1,()),[])
        else
          bif (decide ((a2.1:Int)=4)) then
            Option.bind (Ve n a0 a1 a2) fun r9 =>
            some ((r9.1.1,r9.1.2.1,()),[])
          else
            bif (decide ((a2.1:Int)=5)) then
              Option.bind (Vd n a0 a1 a2) fun r8 =>
              some ((r8.1.1,r8.1.2.1,()),[])
            else
              bif (decide ((a2.1:Int)=6)) then
                Option.bind (Vc n a0 a1 a2) fun r7 =>
                some ((r7.1.1,r7.1.2.1,()),[])
              else
                bif (decide ((a2.1:Int)=7)) then
                  Option.bind (Vb n a0 a1 a2) fun r6 =>
                  some ((r6.1.1,r6.1.2.1,()),[])
                else
                  bif (decide ((a2.1:Int)=8)) then
                    Option.bind (Qp n a0 a1 a2) fun r5 =>
                    some ((r5.1.1,r5.1.2.1,()),[])
                  else
                    bif (decide ((a2.1:Int)=9)) then
                      Option.bind (Js n a0 a1 a2) fun r4 =>
                      some ((r4.1.1,r4.1.2.1,()),[])
                    else
                      bif (decide ((a2.1:Int)=10)) then
                        Option.bind (Y3 n a0 a1 a2) fun r3 =>
                        some ((r3.1.1,r3.1.2.1,()),[])
                      else
                        none:=by kernel_rfl
@[reducible] def W9.R:Type:=Xd [.d Za,.d (.sl Zm)]×Z1
def W9 (n:Nat) (a0:(den Za)) (a1:(List (den Yb))):Option W9.R:=gc n 19 [.dat Za a0 [],.dat (.sl Yb) a1 []] [.d Za,.d (.sl Zm)]
def Zu.res:List Sh:=[.d .bool]
@[reducible] def Zu.R:Type:=Xd [.d .bool]×Z1
def Zu (n:Nat) (a0:(List Int)) (a1:(List Int)):Option Zu.R:=gc n 33 [.dat (.sl (.int .i64)) a0 [],.dat (.sl (.int .i64)) a1 []] [.d .bool]
def Zu.l0 (n m0:Nat) (t0:(List Int)) (t1:(List Int)) (t4:Bool) (t5:Int):Option Zu.R :=
  lpN n ARe m0 (Q6 0 (Qw (run (gc n) n) ARd (Xc Zu.fn Zu.res) (Xc Zu.fn Zu.res)) (Xc Zu.fn Zu.res))
    [(0,.dat (.sl (.int .i64)) t0 []),(1,.dat (.sl (.int .i64)) t1 []),(4,.dat .bool t4 []),(5,.dat (.int .i64) t5 [])]
    []
theorem Zu.l0_eq (n m0:Nat) (t0:(List Int)) (t1:(List Int)) (t4:Bool) (t5:Int):Zu.l0 n (m0+1) t0 t1 t4 t5 =
  bif (decide (t5<((List.length t0):Int))) then
    if (0:Int)≤t5∧t5<(((List.length t0):Nat):Int) then
    if (0:Int)≤t5∧t5<(((List.length t1):Nat):Int) then
    bif (!(decide ((List.getD t0 (Int.toNat t5) (0:Int):Int)=(List.getD t1 (Int.toNat t5) (0:Int):Int)))) then
      some ((false,()),[])
    else
      Zu.l0 n m0 t0 t1 t4 (IntKind.wrap .i64 (t5+1))
    else none
    else none
  else
    some ((true,()),[]):=by kernel_rfl
theorem Zu.eq (n:Nat) (a0:(List Int)) (a1:(List Int)):Zu (n+1) a0 a1 =
  bif (!(decide (((List.length a0):Int)=((List.length a1):Int)))) then
    some ((false,()),[])
  else
    Zu.l0 n n a0 a1 false 0:=by kernel_rfl
def Zz.res:List Sh:=[.d .bool]
@[reducible] def Zz.R:Type:=Xd [.d .bool]×Z1
def Zz (n:Nat) (a0:(List (den Z7))) (a1:(List (den Z7))):Option Zz.R:=gc n 35 [.dat (.sl Z7) a0 [],.dat (.sl Z7) a1 []] [.d .bool]
def Zz.l0 (n m0:Nat) (t0:(List (den Z7))) (t1:(List (den Z7))) (t4:Bool) (t5:Int):Option Zz.R :=
  lpN n ARi m0 (Q6 0 (Qw (run (gc n) n) ARh (Xc Zz.fn Zz.res) (Xc Zz.fn Zz.res)) (Xc Zz.fn Zz.res))
    [(0,.dat (.sl Z7) t0 []),(1,.dat (.sl Z7) t1 []),(4,.dat .bool t4 []),(5,.dat (.int .i64) t5 [])]
    []
theorem Zz.l0_eq (n m0:Nat) (t0:(List (den Z7))) (t1:(List (den Z7))) (t4:Bool) (t5:Int):Zz.l0 n (m0+1) t0 t1 t4 t5 =
  bif (decide (t5<((List.length t0):Int))) then
    if (0:Int)≤t5∧t5<(((List.length t0):Nat):Int) then
    if (0:Int)≤t5∧t5<(((List.length t1):Nat):Int) then
    bif (!(eqT Z7 (List.getD t0 (Int.toNat t5) (dft Z7):(den Z7)) (List.getD t1 (Int.toNat t5) (dft Z7):(den Z7)))) then
      some ((false,()),[])
    else
      Zz.l0 n m0 t0 t1 t4 (IntKind.wrap .i64 (t5+1))
    else none
    else none
  else
    some ((true,()),[]):=by kernel_rfl
theorem Zz.eq (n:Nat) (a0:(List (den Z7))) (a1:(List (den Z7))):Zz (n+1) a0 a1 =
  bif (!(decide (((List.length a0):Int)=((List.length a1):Int)))) then
    some ((false,()),[])
  else
    Zz.l0 n n a0 a1 false 0:=by kernel_rfl
@[reducible] def X2.R:Type:=Xd [.d .bool]×Z1
def X2 (n:Nat) (a0:(den Zm)) (a1:(den Zm)):Option X2.R:=gc n 13 [.dat Zm a0 [],.dat Zm a1 []] [.d .bool]
theorem X2.eq (n:Nat) (a0:(den Zm)) (a1:(den Zm)):X2 (n+1) a0 a1 =
  bif (decide ((a0.1:Int)=(a1.1:Int))) then
    bif (decide ((a0.2.1:Int)=(a1.2.1:Int))) then
      bif (decide ((a0.2.2.1:Int)=(a1.2.2.1:Int))) then
        bif (decide ((a0.2.2.2.2.2.1:Int)=(a1.2.2.2.2.2.1:Int))) then
          Option.bind (Zu n (a0.2.2.2.1:(List Int)) (a1.2.2.2.1:(List Int))) fun r1 =>
          bif (r1.1.1:Bool) then
            Option.bind (Zz n (a0.2.2.2.2.1:(List (den Z7))) (a1.2.2.2.2.1:(List (den Z7)))) fun r2 =>
            some (((r2.1.1:Bool),()),[])
          else
            some ((false,()),[])
        else
          some ((false,()),[])
      else
        some ((false,()),[])
    else
      some ((false,()),[])
  else
    some ((false,()),[]):=by kernel_rfl
@[reducible] def X4.R:Type:=Xd [.d .bool]×Z1
def X4 (n:Nat):Option X4.R:=gc n 7 [] [.d .bool]
@[reducible] def X6.R:Type:=Xd [.d .bool]×Z1
def X6 (n:Nat) (a0:(den Za)):Option X6.R:=gc n 20 [.dat Za a0 []] [.d .bool]
theorem X6.eq (n:Nat) (a0:(den Za)):X6 (n+1) a0 =
  bif (decide (((List.length (a0.1.1:(List (List Int)))):Int)≤20)) then
    bif (decide (((List.length (a0.1.2.1:(List Int))):Int)≤20)) then
      bif (decide (((List.length (a0.1.2.2.1:(List Int))):Int)≤20)) then
        bif (decide (((List.length (a0.1.2.2.2.1:(List Int))):Int)≤40)) then
          bif (decide (((List.length (a0.1.2.2.2.2.1:(List Bool))):Int)≤40)) then
            bif (decide (((List.length (a0.2.1:(List Int))):Int)≤40)) then
              bif (decide (((List.length (a0.2.2.1:(List Int))):Int)≤40)) then
                some (((decide (((List.length (a0.2.2.2.1:(List (den Zb)))):Int)≤40)),()),[])
              else
                some ((false,()),[])
            else
              some ((false,()),[])
          else
            some ((false,()),[])
        else
          some ((false,()),[])
      else
        some ((false,()),[])
    else
      some ((false,()),[])
  else
    some ((false,()),[]):=by kernel_rfl
@[reducible] def Z9.R:Type:=Xd [.d .bool]×Z1
def Z9 (n:Nat) (a0:Int) (a1:Int):Option Z9.R:=gc n 37 [.dat (.int .i64) a0 [],.dat (.int .i64) a1 []] [.d .bool]
theorem Z9.eq (n:Nat) (a0:Int) (a1:Int):Z9 (n+1) a0 a1 =
  bif (decide (0≤a0)) then
    some (((decide (a0<a1)),()),[])
  else
    some ((false,()),[]):=by kernel_rfl
@[reducible] def Yc.R:Type:=Xd [.d .bool]×Z1
def Yc (n:Nat) (a0:Int):Option Yc.R:=gc n 38 [.dat (.int .i64) a0 []] [.d .bool]
theorem Yc.eq (n:Nat) (a0:Int):Yc (n+1) a0 =
  bif (decide (0≤a0)) then
    some (((decide (a0≤1073741824)),()),[])
  else
    some ((false,()),[]):=by kernel_rfl
def Zc.res:List Sh:=[.d .bool]
@[reducible] def Zc.R:Type:=Xd [.d .bool]×Z1
def Zc (n:Nat) (a0:(den Zx)):Option Zc.R:=gc n 36 [.dat Zx a0 []] [.d .bool]
def Zc.l0 (n m0:Nat) (t0:(den Zx)) (t2:Bool) (t3:Int) (t4:Int) (o0:(den Zx)):Option Zc.R :=
  lpN n Ot m0 (Q6 0 (Qw (run (gc n) n) Vl (Xc Zc.fn Zc.res) (Xc Zc.fn Zc.res)) (Xc Zc.fn Zc.res))
    [(0,.dat Zx t0 []),(1,.ptr 0 []),(2,.dat .bool t2 []),(3,.dat (.int .i64) t3 []),(4,.dat (.int .i64) t4 [])]
    [.box Zx o0 []]
def Zc.l1 (n m0 m1:Nat) (t0_1:(den Zx)) (t2_1:Bool) (t3_1:Int) (t4_1:Int) (t5_1:Int) (o0_1:(den Zx)):Option Zc.R :=
  lpN n AKm m1 (Q6 2 (Qw (run (gc n) n) AKl (Qw (run (gc n) n) Mx (Qw (run (gc n) n) Mw (fun _ s h=>lpN n Ot m0 (Q6 0 (Qw (run (gc n) n) Vl (Xc Zc.fn Zc.res) (Xc Zc.fn Zc.res)) (Xc Zc.fn Zc.res)) s h) (Q6 0 (Qw (run (gc n) n) Vl (Xc Zc.fn Zc.res) (Xc Zc.fn Zc.res)) (Xc Zc.fn Zc.res))) (Q6 0 (Qw (run (gc n) n) Vl (Xc Zc.fn Zc.res) (Xc Zc.fn Zc.res)) (Xc Zc.fn Zc.res))) (Q6 1 (Qw (run (gc n) n) Mx (Qw (run (gc n) n) Mw (fun _ s h=>lpN n Ot m0 (Q6 0 (Qw (run (gc n) n) Vl (Xc Zc.fn Zc.res) (Xc Zc.fn Zc.res)) (Xc Zc.fn Zc.res)) s h) (Q6 0 (Qw (run (gc n) n) Vl (Xc Zc.fn Zc.res) (Xc Zc.fn Zc.res)) (Xc Zc.fn Zc.res))) (Q6 0 (Qw (run (gc n) n) Vl (Xc Zc.fn Zc.res) (Xc Zc.fn Zc.res)) (Xc Zc.fn Zc.res))) (Q6 0 (Qw (run (gc n) n) Vl (Xc Zc.fn Zc.res) (Xc Zc.fn Zc.res)) (Xc Zc.fn Zc.res)))) (Q6 1 (Qw (run (gc n) n) Mx (Qw (run (gc n) n) Mw (fun _ s h=>lpN n Ot m0 (Q6 0 (Qw (run (gc n) n) Vl (Xc Zc.fn Zc.res) (Xc Zc.fn Zc.res)) (Xc Zc.fn Zc.res)) s h) (Q6 0 (Qw (run (gc n) n) Vl (Xc Zc.fn Zc.res) (Xc Zc.fn Zc.res)) (Xc Zc.fn Zc.res))) (Q6 0 (Qw (run (gc n) n) Vl (Xc Zc.fn Zc.res) (Xc Zc.fn Zc.res)) (Xc Zc.fn Zc.res))) (Q6 0 (Qw (run (gc n) n) Vl (Xc Zc.fn Zc.res) (Xc Zc.fn Zc.res)) (Xc Zc.fn Zc.res))))
    [(0,.dat Zx t0_1 []),(1,.ptr 0 []),(2,.dat .bool t2_1 []),(3,.dat (.int .i64) t3_1 []),(4,.dat (.int .i64) t4_1 []),(5,.dat (.int .i64) t5_1 [])]
    [.box Zx o0_1 []]
def Zc.l2 (n m0 m1:Nat) (t0_2:(den Zx)) (t2_2:Bool) (t3_2:Int) (t4_2:Int) (t5_2:Int) (t6_2:Int) (t7_2:Int) (o0_2:(den Zx)):Option Zc.R :=
  lpN n AKo m1 (Q6 4 (Qw (run (gc n) n) AKn (Qw (run (gc n) n) Mx (Qw (run (gc n) n) Mw (fun _ s h=>lpN n Ot m0 (Q6 0 (Qw (run (gc n) n) Vl (Xc Zc.fn Zc.res) (Xc Zc.fn Zc.res)) (Xc Zc.fn Zc.res)) s h) (Q6 0 (Qw (run (gc n) n) Vl (Xc Zc.fn Zc.res) (Xc Zc.fn Zc.res)) (Xc Zc.fn Zc.res))) (Q6 0 (Qw (run (gc n) n) Vl (Xc Zc.fn Zc.res) (Xc Zc.fn Zc.res)) (Xc Zc.fn Zc.res))) (Q6 1 (Qw (run (gc n) n) Mx (Qw (run (gc n) n) Mw (fun _ s h=>lpN n Ot m0 (Q6 0 (Qw (run (gc n) n) Vl (Xc Zc.fn Zc.res) (Xc Zc.fn Zc.res)) (Xc Zc.fn Zc.res)) s h) (Q6 0 (Qw (run (gc n) n) Vl (Xc Zc.fn Zc.res) (Xc Zc.fn Zc.res)) (Xc Zc.fn Zc.res))) (Q6 0 (Qw (run (gc n) n) Vl (Xc Zc.fn Zc.res) (Xc Zc.fn Zc.res)) (Xc Zc.fn Zc.res))) (Q6 0 (Qw (run (gc n) n) Vl (Xc Zc.fn Zc.res) (Xc Zc.fn Zc.res)) (Xc Zc.fn Zc.res)))) (Q6 1 (Qw (run (gc n) n) Mx (Qw (run (gc n) n) Mw (fun _ s h=>lpN n Ot m0 (Q6 0 (Qw (run (gc n) n) Vl (Xc Zc.fn Zc.res) (Xc Zc.fn Zc.res)) (Xc Zc.fn Zc.res)) s h) (Q6 0 (Qw (run (gc n) n) Vl (Xc Zc.fn Zc.res) (Xc Zc.fn Zc.res)) (Xc Zc.fn Zc.res))) (Q6 0 (Qw (run (gc n) n) Vl (Xc Zc.fn Zc.res) (Xc Zc.fn Zc.res)) (Xc Zc.fn Zc.res))) (Q6 0 (Qw (run (gc n) n) Vl (Xc Zc.fn Zc.res) (Xc Zc.fn Zc.res)) (Xc Zc.fn Zc.res))))
    [(0,.dat Zx t0_2 []),(1,.ptr 0 []),(2,.dat .bool t2_2 []),(3,.dat (.int .i64) t3_2 []),(4,.dat (.int .i64) t4_2 []),(5,.dat (.int .i64) t5_2 []),(6,.dat (.int .i64) t6_2 []),(7,.dat (.int .i64) t7_2 [])]
    [.box Zx o0_2 []]
def Zc.l3 (n m0:Nat) (t0_3:(den Zx)) (t2_3:Bool) (t3_3:Int) (t4_3:Int) (t8_3:Int) (o0_3:(den Zx)):Option Zc.R :=
  lpN n AKq m0 (Q6 6 (Qw (run (gc n) n) AKp (Xc Zc.fn Zc.res) (Xc Zc.fn Zc.res)) (Xc Zc.fn Zc.res))
    [(0,.dat Zx t0_3 []),(1,.ptr 0 []),(2,.dat .bool t2_3 []),(3,.dat (.int .i64) t3_3 []),(4,.dat (.int .i64) t4_3 []),(8,.dat (.int .i64) t8_3 [])]
    [.box Zx o0_3 []]
def Zc.l4 (n m0:Nat) (t0_4:(den Zx)) (t2_4:Bool) (t3_4:Int) (t4_4:Int) (t8_4:Int) (t9_4:Int) (o0_4:(den Zx)):Option Zc.R :=
  lpN n AKs m0 (Q6 8 (Qw (run (gc n) n) AKr (Xc Zc.fn Zc.res) (Xc Zc.fn Zc.res)) (Xc Zc.fn Zc.res))
    [(0,.dat Zx t0_4 []),(1,.ptr 0 []),(2,.dat .bool t2_4 []),(3,.dat (.int .i64) t3_4 []),(4,.dat (.int .i64) t4_4 []),(8,.dat (.int .i64) t8_4 []),(9,.dat (.int .i64) t9_4 [])]
    [.box Zx o0_4 []]
theorem Zc.l0_eq (n m0:Nat) (t0:(den Zx)) (t2:Bool) (t3:Int) (t4:Int) (o0:(den Zx)):Zc.l0 n (m0+1) t0 t2 t3 t4 o0 =
  bif (decide (t4<t3)) then
    Zc.l1 n m0 n t0 t2 t3 t4 0 o0
  else
    Zc.l3 n n t0 t2 t3 t4 0 o0:=by kernel_rfl
theorem Zc.l1_eq (n m0 m1:Nat) (t0_1:(den Zx)) (t2_1:Bool) (t3_1:Int) (t4_1:Int) (t5_1:Int) (o0_1:(den Zx)):Zc.l1 n m0 (m1+1) t0_1 t2_1 t3_1 t4_1 t5_1 o0_1 =
  bif (decide (t5_1<4)) then
    if (0:Int)≤t4_1∧t4_1<(((List.length (o0_1.1:(List (List Int)))):Nat):Int) then
    if (0:Int)≤t5_1∧t5_1<((4:Nat):Int) then
    bif (!(decide ((List.getD (List.getD (o0_1.1:(List (List Int))) (Int.toNat t4_1) (dft (.arr 4 (.int .i64))):(List Int)) (Int.toNat t5_1) (0:Int):Int)=(-1)))) then
      if (0:Int)≤t4_1∧t4_1<(((List.length (o0_1.1:(List (List Int)))):Nat):Int) then
      if (0:Int)≤t5_1∧t5_1<((4:Nat):Int) then
      Option.bind (Z9 n (List.getD (List.getD (o0_1.1:(List (List Int))) (Int.toNat t4_1) (dft (.arr 4 (.int .i64))):(List Int)) (Int.toNat t5_1) (0:Int):Int) t3_1) fun r4 =>
      bif (!(r4.1.1:Bool)) then
        some ((false,()),[])
      else
        Zc.l1 n m0 m1 t0_1 t2_1 t3_1 t4_1 (IntKind.wrap .i64 (t5_1+1)) o0_1
      else none
      else none
    else
      Zc.l1 n m0 m1 t0_1 t2_1 t3_1 t4_1 (IntKind.wrap .i64 (t5_1+1)) o0_1
    else none
    else none
  else
    Zc.l2 n m0 n t0_1 t2_1 t3_1 t4_1 t5_1 0 0 o0_1:=by kernel_rfl
theorem Zc.l2_eq (n m0 m1:Nat) (t0_2:(den Zx)) (t2_2:Bool) (t3_2:Int) (t4_2:Int) (t5_2:Int) (t6_2:Int) (t7_2:Int) (o0_2:(den Zx)):Zc.l2 n m0 (m1+1) t0_2 t2_2 t3_2 t4_2 t5_2 t6_2 t7_2 o0_2 =
  bif (decide (t7_2<((List.length (o0_2.2.2.2.1:(List Int))):Int))) then
    if (0:Int)≤t7_2∧t7_2<(((List.length (o0_2.2.2.2.1:(List Int))):Nat):Int) then
    bif (decide ((List.getD (o0_2.2.2.2.1:(List Int)) (Int.toNat t7_2) (0:Int):Int)=t4_2)) then
      Zc.l2 n m0 m1 t0_2 t2_2 t3_2 t4_2 t5_2 (IntKind.wrap .i64 (t6_2+1)) (IntKind.wrap .i64 (t7_2+1)) o0_2
    else
      Zc.l2 n m0 m1 t0_2 t2_2 t3_2 t4_2 t5_2 t6_2 (IntKind.wrap .i64 (t7_2+1)) o0_2
    else none
  else
    bif (decide ((o0_2.2.2.2.2.2.1:Int)<t6_2)) then
      some ((false,()),[])
    else
      Zc.l0 n m0 t0_2 t2_2 t3_2 (IntKind.wrap .i64 (t4_2+1)) o0_2:=by kernel_rfl
theorem Zc.l3_eq (n m0:Nat) (t0_3:(den Zx)) (t2_3:Bool) (t3_3:Int) (t4_3:Int) (t8_3:Int) (o0_3:(den Zx)):Zc.l3 n (m0+1) t0_3 t2_3 t3_3 t4_3 t8_3 o0_3 =
  bif (decide (t8_3<((List.length (o0_3.2.1:(List Int))):Int))) then
    if (0:Int)≤t8_3∧t8_3<(((List.length (o0_3.2.1:(List Int))):Nat):Int) then
    Option.bind (Z9 n (List.getD (o0_3.2.1:(List Int)) (Int.toNat t8_3) (0:Int):Int) t3_3) fun r5 =>
    bif (!(r5.1.1:Bool)) then
      some ((false,()),[])
    else
      if (0:Int)≤t8_3∧t8_3<(((List.length (o0_3.2.2.1:(List Int))):Nat):Int) then
      Option.bind (Yc n (List.getD (o0_3.2.2.1:(List Int)) (Int.toNat t8_3) (0:Int):Int)) fun r6 =>
      bif (!(r6.1.1:Bool)) then
        some ((false,()),[])
      else
        Zc.l3 n m0 t0_3 t2_3 t3_3 t4_3 (IntKind.wrap .i64 (t8_3+1)) o0_3
      else none
    else none
  else
    Zc.l4 n n t0_3 t2_3 t3_3 t4_3 t8_3 0 o0_3:=by kernel_rfl
theorem Zc.l4_eq (n m0:Nat) (t0_4:(den Zx)) (t2_4:Bool) (t3_4:Int) (t4_4:Int) (t8_4:Int) (t9_4:Int) (o0_4:(den Zx)):Zc.l4 n (m0+1) t0_4 t2_4 t3_4 t4_4 t8_4 t9_4 o0_4 =
  bif (decide (t9_4<((List.length (o0_4.2.2.2.1:(List Int))):Int))) then
    if (0:Int)≤t9_4∧t9_4<(((List.length (o0_4.2.2.2.1:(List Int))):Nat):Int) then
    Option.bind (Z9 n (List.getD (o0_4.2.2.2.1:(List Int)) (Int.toNat t9_4) (0:Int):Int) t3_4) fun r7 =>
    bif (!(r7.1.1:Bool)) then
      some ((false,()),[])
    else
      Zc.l4 n m0 t0_4 t2_4 t3_4 t4_4 t8_4 (IntKind.wrap .i64 (t9_4+1)) o0_4
    else none
  else
    some ((true,()),[]):=by kernel_rfl
theorem Zc.eq (n:Nat) (a0:(den Zx)):Zc (n+1) a0 =
  bif (decide (((List.length (a0.1:(List (List Int)))):Int)<1)) then
    some ((false,()),[])
  else
    bif (decide (8<((List.length (a0.1:(List (List Int)))):Int))) then
      some ((false,()),[])
    else
      bif (decide (((List.length (a0.2.1:(List Int))):Int)<1)) then
        some ((false,()),[])
      else
        bif (decide (6<((List.length (a0.2.1:(List Int))):Int))) then
          some ((false,()),[])
        else
          bif (!(decide (((List.length (a0.2.2.1:(List Int))):Int)=((List.length (a0.2.1:(List Int))):Int)))) then
            some ((false,()),[])
          else
            bif (decide (16<((List.length (a0.2.2.2.1:(List Int))):Int))) then
              some ((false,()),[])
            else
              bif (!(decide (((List.length (a0.2.2.2.2.1:(List Bool))):Int)=((List.length (a0.2.2.2.1:(List Int))):Int)))) then
                some ((false,()),[])
              else
                Option.bind (Z9 n (a0.2.2.2.2.2.1:Int) 65) fun r1 =>
                bif (!(r1.1.1:Bool)) then
                  some ((false,()),[])
                else
                  Option.bind (Z9 n (a0.2.2.2.2.2.2.1:Int) 65) fun r2 =>
                  bif (!(r2.1.1:Bool)) then
                    some ((false,()),[])
                  else
                    Option.bind (Z9 n (a0.2.2.2.2.2.2.2.1:Int) 65) fun r3 =>
                    bif (!(r3.1.1:Bool)) then
                      some ((false,()),[])
                    else
                      Zc.l0 n n a0 false ((List.length (a0.1:(List (List Int)))):Int) 0 a0:=by kernel_rfl
def Z0.res:List Sh:=[.d (.int .i64)]
@[reducible] def Z0.R:Type:=Xd [.d (.int .i64)]×Z1
def Z0 (n:Nat) (a0:(den Za)) (a1:(den Zb)):Option Z0.R:=gc n 39 [.dat Za a0 [],.dat Zb a1 []] [.d (.int .i64)]
def Z0.l0 (n m0:Nat) (t0:(den Za)) (t1:(den Zb)) (t4:Int) (t5:Int) (o0:(den Za)) (o1:(den Zb)):Option Z0.R :=
  lpN n ARk m0 (Q6 0 (Qw (run (gc n) n) ARj (Xc Z0.fn Z0.res) (Xc Z0.fn Z0.res)) (Xc Z0.fn Z0.res))
    [(0,.dat Za t0 []),(1,.dat Zb t1 []),(2,.ptr 0 []),(3,.ptr 1 []),(4,.dat (.int .i64) t4 []),(5,.dat (.int .i64) t5 [])]
    [.box Za o0 [],.box Zb o1 []]
theorem Z0.l0_eq (n m0:Nat) (t0:(den Za)) (t1:(den Zb)) (t4:Int) (t5:Int) (o0:(den Za)) (o1:(den Zb)):Z0.l0 n (m0+1) t0 t1 t4 t5 o0 o1 =
  bif (decide ((o1.1:Int)=2)) then
    bif (decide (50<(IntKind.wrap .i64 (t5+1)))) then
      some ((99,()),[])
    else
      if (0:Int)≤(o1.2.1:Int)∧(o1.2.1:Int)<(((List.length (o0.2.2.2.1:(List (den Zb)))):Nat):Int) then
      Z0.l0 n m0 t0 t1 t4 (IntKind.wrap .i64 (t5+1)) o0 (List.getD (o0.2.2.2.1:(List (den Zb))) (Int.toNat (o1.2.1:Int)) (dft Zb):(den Zb))
      else none
  else
    some ((t5,()),[]):=by kernel_rfl
theorem Z0.eq (n:Nat) (a0:(den Za)) (a1:(den Zb)):Z0 (n+1) a0 a1 =
  Z0.l0 n n a0 a1 0 0 a0 a1:=by kernel_rfl
def Z2.res:List Sh:=[.d (.int .i64)]
@[reducible] def Z2.R:Type:=Xd [.d (.int .i64)]×Z1
def Z2 (n:Nat) (a0:(den Za)) (a1:(den Zb)):Option Z2.R:=gc n 40 [.dat Za a0 [],.dat Zb a1 []] [.d (.int .i64)]
def Z2.l0 (n m0:Nat) (t0:(den Za)) (t1:(den Zb)) (t4:Int) (t5:Int) (t6:Int) (o0:(den Za)) (o1:(den Zb)):Option Z2.R :=
  lpN n ARm m0 (Q6 0 (Qw (run (gc n) n) ARl (Xc Z2.fn Z2.res) (Xc Z2.fn Z2.res)) (Xc Z2.fn Z2.res))
    [(0,.dat Za t0 []),(1,.dat Zb t1 []),(2,.ptr 0 []),(3,.ptr 1 []),(4,.dat (.int .i64) t4 []),(5,.dat (.int .i64) t5 []),(6,.dat (.int .i64) t6 [])]
    [.box Za o0 [],.box Zb o1 []]
theorem Z2.l0_eq (n m0:Nat) (t0:(den Za)) (t1:(den Zb)) (t4:Int) (t5:Int) (t6:Int) (o0:(den Za)) (o1:(den Zb)):Z2.l0 n (m0+1) t0 t1 t4 t5 t6 o0 o1 =
  bif (decide (t6<((List.length (o0.2.2.2.1:(List (den Zb)))):Int))) then
    if (0:Int)≤t6∧t6<(((List.length (o0.2.2.2.1:(List (den Zb)))):Nat):Int) then
    bif (eqT Zb (List.getD (o0.2.2.2.1:(List (den Zb))) (Int.toNat t6) (dft Zb):(den Zb)) o1) then
      Z2.l0 n m0 t0 t1 t4 (IntKind.wrap .i64 (t5+1)) (IntKind.wrap .i64 (t6+1)) o0 o1
    else
      Z2.l0 n m0 t0 t1 t4 t5 (IntKind.wrap .i64 (t6+1)) o0 o1
    else none
  else
    some ((t5,()),[]):=by kernel_rfl
theorem Z2.eq (n:Nat) (a0:(den Za)) (a1:(den Zb)):Z2 (n+1) a0 a1 =
  Z2.l0 n n a0 a1 0 0 0 a0 a1:=by kernel_rfl
@[reducible] def Ye.R:Type:=Xd [.d (.int .i64)]×Z1
def Ye (n:Nat) (a0:(den Za)) (a1:(den Zb)):Option Ye.R:=gc n 41 [.dat Za a0 [],.dat Zb a1 []] [.d (.int .i64)]
theorem Ye.eq (n:Nat) (a0:(den Za)) (a1:(den Zb)):Ye (n+1) a0 a1 =
  if (0:Int)≤(a1.1:Int)∧(a1.1:Int)<((3:Nat):Int) then
  some (((List.getD ([(a0.1.2.2.2.2.2.1:Int),(a0.1.2.2.2.2.2.2.1:Int),(a0.1.2.2.2.2.2.2.2.1:Int)]:List Int) (Int.toNat (a1.1:Int)) (0:Int):Int),()),[])
  else none:=by kernel_rfl
def Zf.res:List Sh:=[.d .bool]
@[reducible] def Zf.R:Type:=Xd [.d .bool]×Z1
def Zf (n:Nat) (a0:(den Za)):Option Zf.R:=gc n 14 [.dat Za a0 []] [.d .bool]
def Zf.l0 (n m0:Nat) (t0:(den Za)) (t2:Bool) (t4:Int) (o0:(den Za)) (o1:(den Zx)):Option Zf.R :=
  lpN n AKc m0 (Q6 0 (Qw (run (gc n) n) ARa (Xc Zf.fn Zf.res) (Xc Zf.fn Zf.res)) (Xc Zf.fn Zf.res))
    [(0,.dat Za t0 []),(1,.ptr 0 []),(2,.dat .bool t2 []),(3,.ptr 1 []),(4,.dat (.int .i64) t4 [])]
    [.box Za o0 [],.box Zx o1 []]
def Zf.l1 (n m0:Nat) (t0_1:(den Za)) (t2_1:Bool) (t4_1:Int) (t5_1:Int) (o0_1:(den Za)) (o1_1:(den Zx)):Option Zf.R :=
  lpN n AKe m0 (Q6 2 (Qw (run (gc n) n) AKd (Xc Zf.fn Zf.res) (Xc Zf.fn Zf.res)) (Xc Zf.fn Zf.res))
    [(0,.dat Za t0_1 []),(1,.ptr 0 []),(2,.dat .bool t2_1 []),(3,.ptr 1 []),(4,.dat (.int .i64) t4_1 []),(5,.dat (.int .i64) t5_1 [])]
    [.box Za o0_1 [],.box Zx o1_1 []]
def Zf.l2 (n m0:Nat) (t0_2:(den Za)) (t2_2:Bool) (t4_2:Int) (t5_2:Int) (t8_2:Int) (o0_2:(den Za)) (o1_2:(den Zx)):Option Zf.R :=
  lpN n AKg m0 (Q6 4 (Qw (run (gc n) n) AKf (Xc Zf.fn Zf.res) (Xc Zf.fn Zf.res)) (Xc Zf.fn Zf.res))
    [(0,.dat Za t0_2 []),(1,.ptr 0 []),(2,.dat .bool t2_2 []),(3,.ptr 1 []),(4,.dat (.int .i64) t4_2 []),(5,.dat (.int .i64) t5_2 []),(8,.dat (.int .i64) t8_2 [])]
    [.box Za o0_2 [],.box Zx o1_2 []]
theorem Zf.l0_eq (n m0:Nat) (t0:(den Za)) (t2:Bool) (t4:Int) (o0:(den Za)) (o1:(den Zx)):Zf.l0 n (m0+1) t0 t2 t4 o0 o1 =
  bif (decide (t4<((List.length (o0.2.1:(List Int))):Int))) then
    if (0:Int)≤t4∧t4<(((List.length (o0.2.1:(List Int))):Nat):Int) then
    Option.bind (Z9 n (List.getD (o0.2.1:(List Int)) (Int.toNat t4) (0:Int):Int) ((List.length (o1.1:(List (List Int)))):Int)) fun r2 =>
    bif (!(r2.1.1:Bool)) then
      some ((false,()),[])
    else
      if (0:Int)≤t4∧t4<(((List.length (o0.2.2.1:(List Int))):Nat):Int) then
      Option.bind (Yc n (List.getD (o0.2.2.1:(List Int)) (Int.toNat t4) (0:Int):Int)) fun r3 =>
      bif (!(r3.1.1:Bool)) then
        some ((false,()),[])
      else
        Zf.l0 n m0 t0 t2 (IntKind.wrap .i64 (t4+1)) o0 o1
      else none
    else none
  else
    Zf.l1 n n t0 t2 t4 0 o0 o1:=by kernel_rfl
theorem Zf.l1_eq (n m0:Nat) (t0_1:(den Za)) (t2_1:Bool) (t4_1:Int) (t5_1:Int) (o0_1:(den Za)) (o1_1:(den Zx)):Zf.l1 n (m0+1) t0_1 t2_1 t4_1 t5_1 o0_1 o1_1 =
  bif (decide (t5_1<((List.length (o0_1.2.2.2.1:(List (den Zb)))):Int))) then
    if (0:Int)≤t5_1∧t5_1<(((List.length (o0_1.2.2.2.1:(List (den Zb)))):Nat):Int) then
    bif (decide (((List.getD (o0_1.2.2.2.1:(List (den Zb))) (Int.toNat t5_1) (dft Zb):(den Zb)).1:Int)=0)) then
      Option.bind (Z9 n ((List.getD (o0_1.2.2.2.1:(List (den Zb))) (Int.toNat t5_1) (dft Zb):(den Zb)).2.1:Int) ((List.length (o1_1.1:(List (List Int)))):Int)) fun r4 =>
      bif (r4.1.1:Bool) then
        Zf.l1 n m0 t0_1 t2_1 t4_1 (IntKind.wrap .i64 (t5_1+1)) o0_1 o1_1
      else
        bif (decide (((List.getD (o0_1.2.2.2.1:(List (den Zb))) (Int.toNat t5_1) (dft Zb):(den Zb)).1:Int)=1)) then
          Option.bind (Z9 n ((List.getD (o0_1.2.2.2.1:(List (den Zb))) (Int.toNat t5_1) (dft Zb):(den Zb)).2.1:Int) ((List.length (o1_1.2.1:(List Int))):Int)) fun r5 =>
          bif (r5.1.1:Bool) then
            Zf.l1 n m0 t0_1 t2_1 t4_1 (IntKind.wrap .i64 (t5_1+1)) o0_1 o1_1
          else
            bif (decide (((List.getD (o0_1.2.2.2.1:(List (den Zb))) (Int.toNat t5_1) (dft Zb):(den Zb)).1:Int)=2)) then
              Option.bind (Z9 n ((List.getD (o0_1.2.2.2.1:(List (den Zb))) (Int.toNat t5_1) (dft Zb):(den Zb)).2.1:Int) ((List.length (o1_1.2.2.2.1:(List Int))):Int)) fun r6 =>
              bif (r6.1.1:Bool) then
                if (0:Int)≤((List.getD (o0_1.2.2.2.1:(List (den Zb))) (Int.toNat t5_1) (dft Zb):(den Zb)).2.1:Int)∧((List.getD (o0_1.2.2.2.1:(List (den Zb))) (Int.toNat t5_1) (dft Zb):(den Zb)).2.1:Int)<(((List.length (o1_1.2.2.2.2.1:(List Bool))):Nat):Int) then
                bif (!(List.getD (o1_1.2.2.2.2.1:(List Bool)) (Int.toNat ((List.getD (o0_1.2.2.2.1:(List (den Zb))) (Int.toNat t5_1) (dft Zb):(den Zb)).2.1:Int)) false:Bool)) then
                  some ((false,()),[])
                else
                  Zf.l1 n m0 t0_1 t2_1 t4_1 (IntKind.wrap .i64 (t5_1+1)) o0_1 o1_1
                else none
              else
                some ((false,()),[])
            else
              some ((false,()),[])
        else
          bif (decide (((List.getD (o0_1.2.2.2.1:(List (den Zb))) (Int.toNat t5_1) (dft Zb):(den Zb)).1:Int)=2)) then
            Option.bind (Z9 n ((List.getD (o0_1.2.2.2.1:(List (den Zb))) (Int.toNat t5_1) (dft Zb):(den Zb)).2.1:Int) ((List.length (o1_1.2.2.2.1:(List Int))):Int)) fun r7 =>
            bif (r7.1.1:Bool) then
              if (0:Int)≤((List.getD (o0_1.2.2.2.1:(List (den Zb))) (Int.toNat t5_1) (dft Zb):(den Zb)).2.1:Int)∧((List.getD (o0_1.2.2.2.1:(List (den Zb))) (Int.toNat t5_1) (dft Zb):(den Zb)).2.1:Int)<(((List.length (o1_1.2.2.2.2.1:(List Bool))):Nat):Int) then
              bif (!(List.getD (o1_1.2.2.2.2.1:(List Bool)) (Int.toNat ((List.getD (o0_1.2.2.2.1:(List (den Zb))) (Int.toNat t5_1) (dft Zb):(den Zb)).2.1:Int)) false:Bool)) then
                some ((false,()),[])
              else
                Zf.l1 n m0 t0_1 t2_1 t4_1 (IntKind.wrap .i64 (t5_1+1)) o0_1 o1_1
              else none
            else
              some ((false,()),[])
          else
            some ((false,()),[])
    else
      bif (decide (((List.getD (o0_1.2.2.2.1:(List (den Zb))) (Int.toNat t5_1) (dft Zb):(den Zb)).1:Int)=1)) then
        Option.bind (Z9 n ((List.getD (o0_1.2.2.2.1:(List (den Zb))) (Int.toNat t5_1) (dft Zb):(den Zb)).2.1:Int) ((List.length (o1_1.2.1:(List Int))):Int)) fun r8 =>
        bif (r8.1.1:Bool) then
          Zf.l1 n m0 t0_1 t2_1 t4_1 (IntKind.wrap .i64 (t5_1+1)) o0_1 o1_1
        else
          bif (decide (((List.getD (o0_1.2.2.2.1:(List (den Zb))) (Int.toNat t5_1) (dft Zb):(den Zb)).1:Int)=2)) then
            Option.bind (Z9 n ((List.getD (o0_1.2.2.2.1:(List (den Zb))) (Int.toNat t5_1) (dft Zb):(den Zb)).2.1:Int) ((List.length (o1_1.2.2.2.1:(List Int))):Int)) fun r9 =>
            bif (r9.1.1:Bool) then
              if (0:Int)≤((List.getD (o0_1.2.2.2.1:(List (den Zb))) (Int.toNat t5_1) (dft Zb):(den Zb)).2.1:Int)∧((List.getD (o0_1.2.2.2.1:(List (den Zb))) (Int.toNat t5_1) (dft Zb):(den Zb)).2.1:Int)<(((List.length (o1_1.2.2.2.2.1:(List Bool))):Nat):Int) then
              bif (!(List.getD (o1_1.2.2.2.2.1:(List Bool)) (Int.toNat ((List.getD (o0_1.2.2.2.1:(List (den Zb))) (Int.toNat t5_1) (dft Zb):(den Zb)).2.1:Int)) false:Bool)) then
                some ((false,()),[])
              else
                Zf.l1 n m0 t0_1 t2_1 t4_1 (IntKind.wrap .i64 (t5_1+1)) o0_1 o1_1
              else none
            else
              some ((false,()),[])
          else
            some ((false,()),[])
      else
        bif (decide (((List.getD (o0_1.2.2.2.1:(List (den Zb))) (Int.toNat t5_1) (dft Zb):(den Zb)).1:Int)=2)) then
          Option.bind (Z9 n ((List.getD (o0_1.2.2.2.1:(List (den Zb))) (Int.toNat t5_1) (dft Zb):(den Zb)).2.1:Int) ((List.length (o1_1.2.2.2.1:(List Int))):Int)) fun r10 =>
          bif (r10.1.1:Bool) then
            if (0:Int)≤((List.getD (o0_1.2.2.2.1:(List (den Zb))) (Int.toNat t5_1) (dft Zb):(den Zb)).2.1:Int)∧((List.getD (o0_1.2.2.2.1:(List (den Zb))) (Int.toNat t5_1) (dft Zb):(den Zb)).2.1:Int)<(((List.length (o1_1.2.2.2.2.1:(List Bool))):Nat):Int) then
            bif (!(List.getD (o1_1.2.2.2.2.1:(List Bool)) (Int.toNat ((List.getD (o0_1.2.2.2.1:(List (den Zb))) (Int.toNat t5_1) (dft Zb):(den Zb)).2.1:Int)) false:Bool)) then
              some ((false,()),[])
            else
              Zf.l1 n m0 t0_1 t2_1 t4_1 (IntKind.wrap .i64 (t5_1+1)) o0_1 o1_1
            else none
          else
            some ((false,()),[])
        else
          some ((false,()),[])
    else none
  else
    Zf.l2 n n t0_1 t2_1 t4_1 t5_1 0 o0_1 o1_1:=by kernel_rfl
theorem Zf.l2_eq (n m0:Nat) (t0_2:(den Za)) (t2_2:Bool) (t4_2:Int) (t5_2:Int) (t8_2:Int) (o0_2:(den Za)) (o1_2:(den Zx)):Zf.l2 n (m0+1) t0_2 t2_2 t4_2 t5_2 t8_2 o0_2 o1_2 =
  bif (decide (t8_2<((List.length (o0_2.2.2.2.1:(List (den Zb)))):Int))) then
    if (0:Int)≤t8_2∧t8_2<(((List.length (o0_2.2.2.2.1:(List (den Zb)))):Nat):Int) then
    Option.bind (Z0 n o0_2 (List.getD (o0_2.2.2.2.1:(List (den Zb))) (Int.toNat t8_2) (dft Zb):(den Zb))) fun r11 =>
    bif (decide (4<(r11.1.1:Int))) then
      some ((false,()),[])
    else
      if (0:Int)≤t8_2∧t8_2<(((List.length (o0_2.2.2.2.1:(List (den Zb)))):Nat):Int) then
      Option.bind (Z2 n o0_2 (List.getD (o0_2.2.2.2.1:(List (den Zb))) (Int.toNat t8_2) (dft Zb):(den Zb))) fun r12 =>
      if (0:Int)≤t8_2∧t8_2<(((List.length (o0_2.2.2.2.1:(List (den Zb)))):Nat):Int) then
      Option.bind (Ye n o0_2 (List.getD (o0_2.2.2.2.1:(List (den Zb))) (Int.toNat t8_2) (dft Zb):(den Zb))) fun r13 =>
      bif (decide ((r13.1.1:Int)<(r12.1.1:Int))) then
        some ((false,()),[])
      else
        Zf.l2 n m0 t0_2 t2_2 t4_2 t5_2 (IntKind.wrap .i64 (t8_2+1)) o0_2 o1_2
      else none
      else none
    else none
  else
    some ((true,()),[]):=by kernel_rfl
theorem Zf.eq (n:Nat) (a0:(den Za)):Zf (n+1) a0 =
  Option.bind (Zc n a0.1) fun r1 =>
  bif (!(r1.1.1:Bool)) then
    some ((false,()),[])
  else
    bif (!(decide (((List.length (a0.2.1:(List Int))):Int)=((List.length (a0.1.2.1:(List Int))):Int)))) then
      some ((false,()),[])
    else
      bif (!(decide (((List.length (a0.2.2.1:(List Int))):Int)=((List.length (a0.1.2.1:(List Int))):Int)))) then
        some ((false,()),[])
      else
        bif (!(decide (((List.length (a0.2.2.2.1:(List (den Zb)))):Int)=((List.length (a0.1.2.2.2.1:(List Int))):Int)))) then
          some ((false,()),[])
        else
          Zf.l0 n n a0 false 0 a0 a0.1:=by kernel_rfl
@[reducible] def X7.R:Type:=Xd [.d .bool]×Z1
def X7 (n:Nat) (a0:(den Za)):Option X7.R:=gc n 8 [.dat Za a0 []] [.d .bool]
theorem X7.eq (n:Nat) (a0:(den Za)):X7 (n+1) a0 =
  Option.bind (X6 n a0) fun r1 =>
  bif (r1.1.1:Bool) then
    Option.bind (Zf n a0) fun r2 =>
    some (((r2.1.1:Bool),()),[])
  else
    some ((false,()),[]):=by kernel_rfl
@[reducible] def Yd.R:Type:=Xd [.d .bool]×Z1
def Yd (n:Nat) (a0:(den Z5)):Option Yd.R:=gc n 9 [.dat Z5 a0 []] [.d .bool]
theorem Yd.eq (n:Nat) (a0:(den Z5)):Yd (n+1) a0 =
  bif (decide (((List.length (a0.2.2.2.2.2.1:(List Int))):Int)≤40)) then
    some (((decide (((List.length (a0.2.2.2.2.2.2.2.1:(List Int))):Int)≤40)),()),[])
  else
    some ((false,()),[]):=by kernel_rfl
def Zw.res:List Sh:=[.d .bool]
@[reducible] def Zw.R:Type:=Xd [.d .bool]×Z1
def Zw (n:Nat) (a0:(List (den Zb))) (a1:(List (den Zb))):Option Zw.R:=gc n 34 [.dat (.sl Zb) a0 [],.dat (.sl Zb) a1 []] [.d .bool]
def Zw.l0 (n m0:Nat) (t0:(List (den Zb))) (t1:(List (den Zb))) (t4:Bool) (t5:Int):Option Zw.R :=
  lpN n ARg m0 (Q6 0 (Qw (run (gc n) n) ARf (Xc Zw.fn Zw.res) (Xc Zw.fn Zw.res)) (Xc Zw.fn Zw.res))
    [(0,.dat (.sl Zb) t0 []),(1,.dat (.sl Zb) t1 []),(4,.dat .bool t4 []),(5,.dat (.int .i64) t5 [])]
    []
theorem Zw.l0_eq (n m0:Nat) (t0:(List (den Zb))) (t1:(List (den Zb))) (t4:Bool) (t5:Int):Zw.l0 n (m0+1) t0 t1 t4 t5 =
  bif (decide (t5<((List.length t0):Int))) then
    if (0:Int)≤t5∧t5<(((List.length t0):Nat):Int) then
    if (0:Int)≤t5∧t5<(((List.length t1):Nat):Int) then
    bif (!(eqT Zb (List.getD t0 (Int.toNat t5) (dft Zb):(den Zb)) (List.getD t1 (Int.toNat t5) (dft Zb):(den Zb)))) then
      some ((false,()),[])
    else
      Zw.l0 n m0 t0 t1 t4 (IntKind.wrap .i64 (t5+1))
    else none
    else none
  else
    some ((true,()),[]):=by kernel_rfl
theorem Zw.eq (n:Nat) (a0:(List (den Zb))) (a1:(List (den Zb))):Zw (n+1) a0 a1 =
  bif (!(decide (((List.length a0):Int)=((List.length a1):Int)))) then
    some ((false,()),[])
  else
    Zw.l0 n n a0 a1 false 0:=by kernel_rfl
def Zk.res:List Sh:=[.d .bool]
@[reducible] def Zk.R:Type:=Xd [.d .bool]×Z1
def Zk (n:Nat) (a0:(den Za)) (a1:(den Za)):Option Zk.R:=gc n 12 [.dat Za a0 [],.dat Za a1 []] [.d .bool]
def Zk.l0 (n m0:Nat) (t0:(den Za)) (t1:(den Za)) (t4:Bool) (t7:Int) (o0:(den Za)) (o1:(den Za)) (o2:(den Zx)) (o3:(den Zx)):Option Zk.R :=
  lpN n AJ7 m0 (Q6 0 (Qw (run (gc n) n) AJ6 (Xc Zk.fn Zk.res) (Xc Zk.fn Zk.res)) (Xc Zk.fn Zk.res))
    [(0,.dat Za t0 []),(1,.dat Za t1 []),(2,.ptr 0 []),(3,.ptr 1 []),(4,.dat .bool t4 []),(5,.ptr 2 []),(6,.ptr 3 []),(7,.dat (.int .i64) t7 [])]
    [.box Za o0 [],.box Za o1 [],.box Zx o2 [],.box Zx o3 []]
def Zk.l1 (n m0:Nat) (t0_1:(den Za)) (t1_1:(den Za)) (t4_1:Bool) (t7_1:Int) (t8_1:Int) (o0_1:(den Za)) (o1_1:(den Za)) (o2_1:(den Zx)) (o3_1:(den Zx)):Option Zk.R :=
  lpN n AJ9 m0 (Q6 2 (Qw (run (gc n) n) AJ8 (Xc Zk.fn Zk.res) (Xc Zk.fn Zk.res)) (Xc Zk.fn Zk.res))
    [(0,.dat Za t0_1 []),(1,.dat Za t1_1 []),(2,.ptr 0 []),(3,.ptr 1 []),(4,.dat .bool t4_1 []),(5,.ptr 2 []),(6,.ptr 3 []),(7,.dat (.int .i64) t7_1 []),(8,.dat (.int .i64) t8_1 [])]
    [.box Za o0_1 [],.box Za o1_1 [],.box Zx o2_1 [],.box Zx o3_1 []]
theorem Zk.l0_eq (n m0:Nat) (t0:(den Za)) (t1:(den Za)) (t4:Bool) (t7:Int) (o0:(den Za)) (o1:(den Za)) (o2:(den Zx)) (o3:(den Zx)):Zk.l0 n (m0+1) t0 t1 t4 t7 o0 o1 o2 o3 =
  bif (decide (t7<((List.length (o2.1:(List (List Int)))):Int))) then
    if (0:Int)≤t7∧t7<(((List.length (o2.1:(List (List Int)))):Nat):Int) then
    if (0:Int)≤t7∧t7<(((List.length (o3.1:(List (List Int)))):Nat):Int) then
    bif (!(eqT (.arr 4 (.int .i64)) (List.getD (o2.1:(List (List Int))) (Int.toNat t7) (dft (.arr 4 (.int .i64))):(List Int)) (List.getD (o3.1:(List (List Int))) (Int.toNat t7) (dft (.arr 4 (.int .i64))):(List Int)))) then
      some ((false,()),[])
    else
      Zk.l0 n m0 t0 t1 t4 (IntKind.wrap .i64 (t7+1)) o0 o1 o2 o3
    else none
    else none
  else
    Zk.l1 n n t0 t1 t4 t7 0 o0 o1 o2 o3:=by kernel_rfl
theorem Zk.l1_eq (n m0:Nat) (t0_1:(den Za)) (t1_1:(den Za)) (t4_1:Bool) (t7_1:Int) (t8_1:Int) (o0_1:(den Za)) (o1_1:(den Za)) (o2_1:(den Zx)) (o3_1:(den Zx)):Zk.l1 n (m0+1) t0_1 t1_1 t4_1 t7_1 t8_1 o0_1 o1_1 o2_1 o3_1 =
  bif (decide (t8_1<((List.length (o2_1.2.2.2.2.1:(List Bool))):Int))) then
    if (0:Int)≤t8_1∧t8_1<(((List.length (o2_1.2.2.2.2.1:(List Bool))):Nat):Int) then
    if (0:Int)≤t8_1∧t8_1<(((List.length (o3_1.2.2.2.2.1:(List Bool))):Nat):Int) then
    bif (!(eqT .bool (List.getD (o2_1.2.2.2.2.1:(List Bool)) (Int.toNat t8_1) false:Bool) (List.getD (o3_1.2.2.2.2.1:(List Bool)) (Int.toNat t8_1) false:Bool))) then
      some ((false,()),[])
    else
      Zk.l1 n m0 t0_1 t1_1 t4_1 t7_1 (IntKind.wrap .i64 (t8_1+1)) o0_1 o1_1 o2_1 o3_1
    else none
    else none
  else
    Option.bind (Zu n (o2_1.2.1:(List Int)) (o3_1.2.1:(List Int))) fun r1 =>
    bif (r1.1.1:Bool) then
      Option.bind (Zu n (o2_1.2.2.1:(List Int)) (o3_1.2.2.1:(List Int))) fun r2 =>
      bif (r2.1.1:Bool) then
        Option.bind (Zu n (o2_1.2.2.2.1:(List Int)) (o3_1.2.2.2.1:(List Int))) fun r3 =>
        bif (r3.1.1:Bool) then
          Option.bind (Zu n (o0_1.2.1:(List Int)) (o1_1.2.1:(List Int))) fun r4 =>
          bif (r4.1.1:Bool) then
            Option.bind (Zu n (o0_1.2.2.1:(List Int)) (o1_1.2.2.1:(List Int))) fun r5 =>
            bif (r5.1.1:Bool) then
              Option.bind (Zw n (o0_1.2.2.2.1:(List (den Zb))) (o1_1.2.2.2.1:(List (den Zb)))) fun r6 =>
              some (((r6.1.1:Bool),()),[])
            else
              some ((false,()),[])
          else
            some ((false,()),[])
        else
          some ((false,()),[])
      else
        some ((false,()),[])
    else
      some ((false,()),[]):=by kernel_rfl
theorem Zk.eq (n:Nat) (a0:(den Za)) (a1:(den Za)):Zk (n+1) a0 a1 =
  bif (!(decide ((a0.1.2.2.2.2.2.1:Int)=(a1.1.2.2.2.2.2.1:Int)))) then
    some ((false,()),[])
  else
    bif (!(decide ((a0.1.2.2.2.2.2.2.1:Int)=(a1.1.2.2.2.2.2.2.1:Int)))) then
      some ((false,()),[])
    else
      bif (!(decide ((a0.1.2.2.2.2.2.2.2.1:Int)=(a1.1.2.2.2.2.2.2.2.1:Int)))) then
        some ((false,()),[])
      else
        bif (!(decide (((List.length (a0.1.1:(List (List Int)))):Int)=((List.length (a1.1.1:(List (List Int)))):Int)))) then
          some ((false,()),[])
        else
          bif (!(decide (((List.length (a0.1.2.2.2.2.1:(List Bool))):Int)=((List.length (a1.1.2.2.2.2.1:(List Bool))):Int)))) then
            some ((false,()),[])
          else
            Zk.l0 n n a0 a1 false 0 a0 a1 a0.1 a1.1:=by kernel_rfl
def Z3.res:List Sh:=[.d (.int .i64)]
@[reducible] def Z3.R:Type:=Xd [.d (.int .i64)]×Z1
def Z3 (n:Nat) (a0:(den Za)):Option Z3.R:=gc n 15 [.dat Za a0 []] [.d (.int .i64)]
def Z3.l0 (n m0:Nat) (t0:(den Za)) (t2:Int) (t3:Int) (t4:Int) (o0:(den Za)):Option Z3.R :=
  lpN n ARc m0 (Q6 0 (Qw (run (gc n) n) ARb (Xc Z3.fn Z3.res) (Xc Z3.fn Z3.res)) (Xc Z3.fn Z3.res))
    [(0,.dat Za t0 []),(1,.ptr 0 []),(2,.dat (.int .i64) t2 []),(3,.dat (.int .i64) t3 []),(4,.dat (.int .i64) t4 [])]
    [.box Za o0 []]
theorem Z3.l0_eq (n m0:Nat) (t0:(den Za)) (t2:Int) (t3:Int) (t4:Int) (o0:(den Za)):Z3.l0 n (m0+1) t0 t2 t3 t4 o0 =
  bif (decide (t4<((List.length (o0.2.2.1:(List Int))):Int))) then
    if (0:Int)≤t4∧t4<(((List.length (o0.2.2.1:(List Int))):Nat):Int) then
    Z3.l0 n m0 t0 t2 (IntKind.wrap .i64 (t3+(List.getD (o0.2.2.1:(List Int)) (Int.toNat t4) (0:Int):Int))) (IntKind.wrap .i64 (t4+1)) o0
    else none
  else
    some ((t3,()),[]):=by kernel_rfl
theorem Z3.eq (n:Nat) (a0:(den Za)):Z3 (n+1) a0 =
  Z3.l0 n n a0 0 0 0 a0:=by kernel_rfl
@[reducible] def Xw.R:Type:=Xd [.d .bool]×Z1
def Xw (n:Nat) (a0:Int):Option Xw.R:=gc n 42 [.dat (.int .i64) a0 []] [.d .bool]
theorem Xw.eq (n:Nat) (a0:Int):Xw (n+1) a0 =
  bif (decide (0≤a0)) then
    some (((decide (a0≤1073741824)),()),[])
  else
    some ((false,()),[]):=by kernel_rfl
def Zn.res:List Sh:=[.d .bool]
@[reducible] def Zn.R:Type:=Xd [.d .bool]×Z1
def Zn (n:Nat) (a0:(den Zm)):Option Zn.R:=gc n 16 [.dat Zm a0 []] [.d .bool]
def Zn.l0 (n m0:Nat) (t0:(den Zm)) (t2:Bool) (t3:Int) (t4:Int) (o0:(den Zm)):Option Zn.R :=
  lpN n AKi m0 (Q6 0 (Qw (run (gc n) n) AKh (Xc Zn.fn Zn.res) (Xc Zn.fn Zn.res)) (Xc Zn.fn Zn.res))
    [(0,.dat Zm t0 []),(1,.ptr 0 []),(2,.dat .bool t2 []),(3,.dat (.int .i64) t3 []),(4,.dat (.int .i64) t4 [])]
    [.box Zm o0 []]
def Zn.l1 (n m0:Nat) (t0_1:(den Zm)) (t2_1:Bool) (t3_1:Int) (t4_1:Int) (t5_1:Int) (o0_1:(den Zm)):Option Zn.R :=
  lpN n AKk m0 (Q6 2 (Qw (run (gc n) n) AKj (Xc Zn.fn Zn.res) (Xc Zn.fn Zn.res)) (Xc Zn.fn Zn.res))
    [(0,.dat Zm t0_1 []),(1,.ptr 0 []),(2,.dat .bool t2_1 []),(3,.dat (.int .i64) t3_1 []),(4,.dat (.int .i64) t4_1 []),(5,.dat (.int .i64) t5_1 [])]
    [.box Zm o0_1 []]
theorem Zn.l0_eq (n m0:Nat) (t0:(den Zm)) (t2:Bool) (t3:Int) (t4:Int) (o0:(den Zm)):Zn.l0 n (m0+1) t0 t2 t3 t4 o0 =
  bif (decide (t4<((List.length (o0.2.2.2.1:(List Int))):Int))) then
    if (0:Int)≤t4∧t4<(((List.length (o0.2.2.2.1:(List Int))):Nat):Int) then
    Option.bind (Xw n (List.getD (o0.2.2.2.1:(List Int)) (Int.toNat t4) (0:Int):Int)) fun r4 =>
    bif (!(r4.1.1:Bool)) then
      some ((false,()),[])
    else
      Zn.l0 n m0 t0 t2 t3 (IntKind.wrap .i64 (t4+1)) o0
    else none
  else
    Zn.l1 n n t0 t2 t3 t4 0 o0:=by kernel_rfl
theorem Zn.l1_eq (n m0:Nat) (t0_1:(den Zm)) (t2_1:Bool) (t3_1:Int) (t4_1:Int) (t5_1:Int) (o0_1:(den Zm)):Zn.l1 n (m0+1) t0_1 t2_1 t3_1 t4_1 t5_1 o0_1 =
  bif (decide (t5_1<((List.length (o0_1.2.2.2.2.1:(List (den Z7)))):Int))) then
    if (0:Int)≤t5_1∧t5_1<(((List.length (o0_1.2.2.2.2.1:(List (den Z7)))):Nat):Int) then
    Option.bind (Xw n ((List.getD (o0_1.2.2.2.2.1:(List (den Z7))) (Int.toNat t5_1) (dft Z7):(den Z7)).1:Int)) fun r5 =>
    bif (!(r5.1.1:Bool)) then
      some ((false,()),[])
    else
      Option.bind (Xw n (((List.getD (o0_1.2.2.2.2.1:(List (den Z7))) (Int.toNat t5_1) (dft Z7):(den Z7)).2.1).2.1:Int)) fun r6 =>
      bif (!(r6.1.1:Bool)) then
        some ((false,()),[])
      else
        bif (!(decide ((((List.getD (o0_1.2.2.2.2.1:(List (den Z7))) (Int.toNat t5_1) (dft Z7):(den Z7)).2.1).1:Int)=0))) then
          bif (!(decide ((((List.getD (o0_1.2.2.2.2.1:(List (den Z7))) (Int.toNat t5_1) (dft Z7):(den Z7)).2.1).1:Int)=1))) then
            bif (!(decide ((((List.getD (o0_1.2.2.2.2.1:(List (den Z7))) (Int.toNat t5_1) (dft Z7):(den Z7)).2.1).1:Int)=2))) then
              some ((false,()),[])
            else
              Zn.l1 n m0 t0_1 t2_1 t3_1 t4_1 (IntKind.wrap .i64 (t5_1+1)) o0_1
          else
            Zn.l1 n m0 t0_1 t2_1 t3_1 t4_1 (IntKind.wrap .i64 (t5_1+1)) o0_1
        else
          Zn.l1 n m0 t0_1 t2_1 t3_1 t4_1 (IntKind.wrap .i64 (t5_1+1)) o0_1
    else none
  else
    bif (decide (t3_1=1)) then
      bif (decide (t3_1=9)) then
        bif (decide (9≤t3_1)) then
          bif (decide (t3_1=10)) then
            some ((true,()),[])
          else
            some (((decide ((o0_1.2.2.2.2.2.1:Int)=0)),()),[])
        else
          bif (decide (((List.length (o0_1.2.2.2.2.1:(List (den Z7)))):Int)=0)) then
            bif (decide (t3_1=10)) then
              some ((true,()),[])
            else
              some (((decide ((o0_1.2.2.2.2.2.1:Int)=0)),()),[])
          else
            some ((false,()),[])
      else
        bif (decide (((List.length (o0_1.2.2.2.1:(List Int))):Int)=0)) then
          bif (decide (9≤t3_1)) then
            bif (decide (t3_1=10)) then
              some ((true,()),[])
            else
              some (((decide ((o0_1.2.2.2.2.2.1:Int)=0)),()),[])
          else
            bif (decide (((List.length (o0_1.2.2.2.2.1:(List (den Z7)))):Int)=0)) then
              bif (decide (t3_1=10)) then
                some ((true,()),[])
              else
                some (((decide ((o0_1.2.2.2.2.2.1:Int)=0)),()),[])
            else
              some ((false,()),[])
        else
          some ((false,()),[])
    else
      bif (decide (t3_1=2)) then
        bif (decide (t3_1=9)) then
          bif (decide (9≤t3_1)) then
            bif (decide (t3_1=10)) then
              some ((true,()),[])
            else
              some (((decide ((o0_1.2.2.2.2.2.1:Int)=0)),()),[])
          else
            bif (decide (((List.length (o0_1.2.2.2.2.1:(List (den Z7)))):Int)=0)) then
              bif (decide (t3_1=10)) then
                some ((true,()),[])
              else
                some (((decide ((o0_1.2.2.2.2.2.1:Int)=0)),()),[])
            else
              some ((false,()),[])
        else
          bif (decide (((List.length (o0_1.2.2.2.1:(List Int))):Int)=0)) then
            bif (decide (9≤t3_1)) then
              bif (decide (t3_1=10)) then
                some ((true,()),[])
              else
                some (((decide ((o0_1.2.2.2.2.2.1:Int)=0)),()),[])
            else
              bif (decide (((List.length (o0_1.2.2.2.2.1:(List (den Z7)))):Int)=0)) then
                bif (decide (t3_1=10)) then
                  some ((true,()),[])
                else
                  some (((decide ((o0_1.2.2.2.2.2.1:Int)=0)),()),[])
              else
                some ((false,()),[])
          else
            some ((false,()),[])
      else
        bif (decide (t3_1=9)) then
          bif (decide (t3_1=9)) then
            bif (decide (9≤t3_1)) then
              bif (decide (t3_1=10)) then
                some ((true,()),[])
              else
                some (((decide ((o0_1.2.2.2.2.2.1:Int)=0)),()),[])
            else
              bif (decide (((List.length (o0_1.2.2.2.2.1:(List (den Z7)))):Int)=0)) then
                bif (decide (t3_1=10)) then
                  some ((true,()),[])
                else
                  some (((decide ((o0_1.2.2.2.2.2.1:Int)=0)),()),[])
              else
                some ((false,()),[])
          else
            bif (decide (((List.length (o0_1.2.2.2.1:(List Int))):Int)=0)) then
              bif (decide (9≤t3_1)) then
                bif (decide (t3_1=10)) then
                  some ((true,()),[])
                else
                  some (((decide ((o0_1.2.2.2.2.2.1:Int)=0)),()),[])
              else
                bif (decide (((List.length (o0_1.2.2.2.2.1:(List (den Z7)))):Int)=0)) then
                  bif (decide (t3_1=10)) then
                    some ((true,()),[])
                  else
                    some (((decide ((o0_1.2.2.2.2.2.1:Int)=0)),()),[])
                else
                  some ((false,()),[])
            else
              some ((false,()),[])
        else
          bif (decide ((o0_1.2.2.1:Int)=0)) then
            bif (decide (t3_1=9)) then
              bif (decide (9≤t3_1)) then
                bif (decide (t3_1=10)) then
                  some ((true,()),[])
                else
                  some (((decide ((o0_1.2.2.2.2.2.1:Int)=0)),()),[])
              else
                bif (decide (((List.length (o0_1.2.2.2.2.1:(List (den Z7)))):Int)=0)) then
                  bif (decide (t3_1=10)) then
                    some ((true,()),[])
                  else
                    some (((decide ((o0_1.2.2.2.2.2.1:Int)=0)),()),[])
                else
                  some ((false,()),[])
            else
              bif (decide (((List.length (o0_1.2.2.2.1:(List Int))):Int)=0)) then
                bif (decide (9≤t3_1)) then
                  bif (decide (t3_1=10)) then
                    some ((true,()),[])
                  else
                    some (((decide ((o0_1.2.2.2.2.2.1:Int)=0)),()),[])
                else
                  bif (decide (((List.length (o0_1.2.2.2.2.1:(List (den Z7)))):Int)=0)) then
                    bif (decide (t3_1=10)) then
                      some ((true,()),[])
                    else
                      some (((decide ((o0_1.2.2.2.2.2.1:Int)=0)),()),[])
                  else
                    some ((false,()),[])
              else
                some ((false,()),[])
          else
            some ((false,()),[]):=by kernel_rfl
theorem Zn.eq (n:Nat) (a0:(den Zm)):Zn (n+1) a0 =
  bif (decide ((a0.1:Int)<0)) then
    some ((false,()),[])
  else
    bif (decide (13<(a0.1:Int))) then
      some ((false,()),[])
    else
      bif (!(decide ((a0.1:Int)=0))) then
        Option.bind (X2 n a0 ((a0.1:Int),0,0,([]:List Int),([]:List (den Z7)),0,())) fun r1 =>
        some (((r1.1.1:Bool),()),[])
      else
        bif (decide ((a0.2.1:Int)<1)) then
          some ((false,()),[])
        else
          bif (decide (10<(a0.2.1:Int))) then
            some ((false,()),[])
          else
            Option.bind (Xw n (a0.2.2.1:Int)) fun r2 =>
            bif (!(r2.1.1:Bool)) then
              some ((false,()),[])
            else
              Option.bind (Xw n (a0.2.2.2.2.2.1:Int)) fun r3 =>
              bif (!(r3.1.1:Bool)) then
                some ((false,()),[])
              else
                bif (decide (16<((List.length (a0.2.2.2.1:(List Int))):Int))) then
                  some ((false,()),[])
                else
                  bif (decide (16<((List.length (a0.2.2.2.2.1:(List (den Z7)))):Int))) then
                    some ((false,()),[])
                  else
                    Zn.l0 n n a0 false (a0.2.1:Int) 0 a0:=by kernel_rfl
def Zl.res:List Sh:=[.d .bool]
@[reducible] def Zl.R:Type:=Xd [.d .bool]×Z1
def Zl (n:Nat) (a0:(den Za)) (a1:(List (den Yb))):Option Zl.R:=gc n 4 [.dat Za a0 [],.dat (.sl Yb) a1 []] [.d .bool]
def Zl.l0 (n m0:Nat) (t0:(den Za)) (t1:(List (den Yb))) (t4:Bool) (t5:Int) (o0:(den Za)):Option Zl.R :=
  lpN n ARn m0 (Q6 0 (Qw (run (gc n) n) BPq (Xc Zl.fn Zl.res) (Xc Zl.fn Zl.res)) (Xc Zl.fn Zl.res))
    [(0,.dat Za t0 []),(1,.dat (.sl Yb) t1 []),(2,.ptr 0 []),(4,.dat .bool t4 []),(5,.dat (.int .i64) t5 [])]
    [.box Za o0 []]
theorem Zl.l0_eq (n m0:Nat) (t0:(den Za)) (t1:(List (den Yb))) (t4:Bool) (t5:Int) (o0:(den Za)):Zl.l0 n (m0+1) t0 t1 t4 t5 o0 =
  bif (decide (t5<((List.length t1):Int))) then
    if (0:Int)≤t5∧t5<(((List.length t1):Nat):Int) then
    Option.bind (Yd n ((List.getD t1 (Int.toNat t5) (dft Yb):(den Yb)).2.1)) fun r6 =>
    bif (!(r6.1.1:Bool)) then
      some ((true,()),[])
    else
      if (0:Int)≤t5∧t5<(((List.length t1):Nat):Int) then
      bif (decide (((List.getD t1 (Int.toNat t5) (dft Yb):(den Yb)).1:Int)<0)) then
        some ((true,()),[])
      else
        if (0:Int)≤t5∧t5<(((List.length t1):Nat):Int) then
        bif (decide (((List.length (o0.2.1:(List Int))):Int)≤((List.getD t1 (Int.toNat t5) (dft Yb):(den Yb)).1:Int))) then
          some ((true,()),[])
        else
          if (0:Int)≤t5∧t5<(((List.length t1):Nat):Int) then
          Option.bind (Jo n o0 ((List.getD t1 (Int.toNat t5) (dft Yb):(den Yb)).1:Int) ((List.getD t1 (Int.toNat t5) (dft Yb):(den Yb)).2.1)) fun r7 =>
          Option.bind (Zf n r7.1.1) fun r8 =>
          bif (!(r8.1.1:Bool)) then
            some ((false,()),[])
          else
            Option.bind (Z3 n r7.1.1) fun r9 =>
            Option.bind (Z3 n o0) fun r10 =>
            bif (!(decide ((r9.1.1:Int)=(r10.1.1:Int)))) then
              some ((false,()),[])
            else
              bif (!(decide (((List.length (r7.1.1.2.2.2.1:(List (den Zb)))):Int)=((List.length (o0.2.2.2.1:(List (den Zb)))):Int)))) then
                some ((false,()),[])
              else
                Option.bind (Zn n r7.1.2.1) fun r11 =>
                bif (!(r11.1.1:Bool)) then
                  some ((false,()),[])
                else
                  bif (!(decide ((r7.1.2.1.1:Int)=0))) then
                    Option.bind (Zk n r7.1.1 o0) fun r12 =>
                    bif (!(r12.1.1:Bool)) then
                      some ((false,()),[])
                    else
                      bif (decide ((r7.1.2.1.1:Int)=0)) then
                        bif (!(decide ((r7.1.2.1.2.1:Int)=(((List.getD t1 (Int.toNat t5) (dft Yb):(den Yb)).2.1).1:Int)))) then
                          some ((false,()),[])
                        else
                          Zl.l0 n m0 t0 t1 t4 (IntKind.wrap .i64 (t5+1)) r7.1.1
                      else
                        Zl.l0 n m0 t0 t1 t4 (IntKind.wrap .i64 (t5+1)) r7.1.1
                  else
                    bif (decide ((((List.getD t1 (Int.toNat t5) (dft Yb):(den Yb)).2.1).1:Int)=9)) then
                      Option.bind (Zk n r7.1.1 o0) fun r13 =>
                      bif (!(r13.1.1:Bool)) then
                        some ((false,()),[])
                      else
                        bif (decide ((r7.1.2.1.1:Int)=0)) then
                          bif (!(decide ((r7.1.2.1.2.1:Int)=(((List.getD t1 (Int.toNat t5) (dft Yb):(den Yb)).2.1).1:Int)))) then
                            some ((false,()),[])
                          else
                            Zl.l0 n m0 t0 t1 t4 (IntKind.wrap .i64 (t5+1)) r7.1.1
                        else
                          Zl.l0 n m0 t0 t1 t4 (IntKind.wrap .i64 (t5+1)) r7.1.1
                    else
                      bif (decide ((((List.getD t1 (Int.toNat t5) (dft Yb):(den Yb)).2.1).1:Int)=10)) then
                        Option.bind (Zk n r7.1.1 o0) fun r14 =>
                        bif (!(r14.1.1:Bool)) then
                          some ((false,()),[])
                        else
                          bif (decide ((r7.1.2.1.1:Int)=0)) then
                            bif (!(decide ((r7.1.2.1.2.1:Int)=(((List.getD t1 (Int.toNat t5) (dft Yb):(den Yb)).2.1).1:Int)))) then
                              some ((false,()),[])
                            else
                              Zl.l0 n m0 t0 t1 t4 (IntKind.wrap .i64 (t5+1)) r7.1.1
                          else
                            Zl.l0 n m0 t0 t1 t4 (IntKind.wrap .i64 (t5+1)) r7.1.1
                      else
                        bif (decide ((r7.1.2.1.1:Int)=0)) then
                          bif (!(decide ((r7.1.2.1.2.1:Int)=(((List.getD t1 (Int.toNat t5) (dft Yb):(den Yb)).2.1).1:Int)))) then
                            some ((false,()),[])
                          else
                            Zl.l0 n m0 t0 t1 t4 (IntKind.wrap .i64 (t5+1)) r7.1.1
                        else
                          Zl.l0 n m0 t0 t1 t4 (IntKind.wrap .i64 (t5+1)) r7.1.1
          else none
        else none
      else none
    else none
  else
    some ((true,()),[]):=by kernel_rfl
theorem Zl.eq (n:Nat) (a0:(den Za)) (a1:(List (den Yb))):Zl (n+1) a0 a1 =
  Option.bind (X4 n) fun r1 =>
  bif (!(r1.1.1:Bool)) then
    Option.bind (X4 n) fun r2 =>
    some (((r2.1.1:Bool),()),[])
  else
    Option.bind (X7 n a0) fun r3 =>
    bif (!(r3.1.1:Bool)) then
      Option.bind (X4 n) fun r4 =>
      some (((r4.1.1:Bool),()),[])
    else
      bif (decide (60<((List.length a1):Int))) then
        Option.bind (X4 n) fun r5 =>
        some (((r5.1.1:Bool),()),[])
      else
        Zl.l0 n n a0 a1 false 0 a0:=by kernel_rfl
end Go.Proofs.YtpemapoblhleoaaGreatDoor.Ghost
