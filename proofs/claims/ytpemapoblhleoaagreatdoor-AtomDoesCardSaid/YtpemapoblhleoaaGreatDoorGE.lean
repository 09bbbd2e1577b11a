/- What each function and each loop comes to, one step. Conditions: none. -/
import Derived.Test.YtpemapoblhleoaaGreatDoorGSp
import Derived.KernelRfl
set_option linter.unusedVariables false
set_option linter.unusedSimpArgs false
set_option linter.unusedSectionVars false
set_option linter.unnecessarySimpa false
namespace Go.Proofs.YtpemapoblhleoaaGreatDoor.Ghost
open Go
abbrev gc (n:Nat):Calls:=Ho prog sp n
abbrev lpN {R:Type} (n:Nat) (c:Cd) (m:Nat) (K:Kt R) (s:X0) (h:Qz):Option R:=Lt (fun Kn K s h=>run (gc n) n c Kn K s h) m K s h
@[reducible] def Vo.R:Type:=Xg [.d Za]×Z1
def Vo (n:Nat) (a0:(den Z6)):Option Vo.R:=gc n 18 [.dat Z6 a0 []] [.d Za]
@[reducible] def Hr.R:Type:=Xg [.d .str]×Z1
def Hr (n:Nat) (a0:(List ByteArray)) (a1:Int):Option Hr.R:=gc n 81 [.dat (.sl .str) a0 [],.dat (.int .i64) a1 []] [.d .str]
theorem Hr.eq (n:Nat) (a0:(List ByteArray)) (a1:Int):Hr (n+1) a0 a1 =
  bif (decide (a1<0)) then
    some (((⟨#[]⟩:ByteArray),()),[])
  else
    bif (decide (((List.length a0):Int)≤a1)) then
      some (((⟨#[]⟩:ByteArray),()),[])
    else
      if (0:Int)≤a1∧a1<(((List.length a0):Nat):Int) then
      some (((List.getD a0 (Int.toNat a1) (dft .str):ByteArray),()),[])
      else none:=by kernel_rfl
@[reducible] def H6.R:Type:=Xg [.d .str]×Z1
def H6 (n:Nat) (a0:Int):Option H6.R:=gc n 45 [.dat (.int .i64) a0 []] [.d .str]
theorem H6.eq (n:Nat) (a0:Int):H6 (n+1) a0 =
  Option.bind (Hr n (Fg:(List ByteArray)) a0) fun r1 =>
  some (((r1.1.1:ByteArray),()),[]):=by kernel_rfl
@[reducible] def Q6.R:Type:=Xg [.d Zx]×Z1
def Q6 (n:Nat) (a0:(den Zx)):Option Q6.R:=gc n 47 [.dat Zx a0 []] [.d Zx]
theorem Q6.eq (n:Nat) (a0:(den Zx)):Q6 (n+1) a0 =
  bif (decide ((a0.1:Int)=1)) then
    some ((((a0.1:Int),(a0.2.1:Int),0,0,0,([]:List Int),0,([]:List Int),0,()),()),[])
  else
    bif (decide ((a0.1:Int)=2)) then
      some ((((a0.1:Int),(a0.2.1:Int),0,0,(a0.2.2.2.2.1:Int),([]:List Int),0,([]:List Int),0,()),()),[])
    else
      bif (decide ((a0.1:Int)=3)) then
        bif (decide ((a0.1:Int)=3)) then
          some ((((a0.1:Int),0,(a0.2.2.1:Int),0,0,([]:List Int),0,([]:List Int),0,()),()),[])
        else
          bif (decide ((a0.1:Int)=5)) then
            bif (decide ((a0.1:Int)=5)) then
              some ((((a0.1:Int),0,(a0.2.2.1:Int),(a0.2.2.2.1:Int),0,([]:List Int),0,([]:List Int),0,()),()),[])
            else
              bif (decide ((a0.1:Int)=7)) then
                some ((((a0.1:Int),0,(a0.2.2.1:Int),0,(a0.2.2.2.2.1:Int),([]:List Int),0,([]:List Int),0,()),()),[])
              else
                bif (decide ((a0.1:Int)=8)) then
                  some ((((a0.1:Int),0,0,0,(a0.2.2.2.2.1:Int),(a0.2.2.2.2.2.1:(List Int)),(a0.2.2.2.2.2.2.1:Int),(a0.2.2.2.2.2.2.2.1:(List Int)),(a0.2.2.2.2.2.2.2.2.1:Int),()),()),[])
                else
                  some ((((a0.1:Int),0,0,0,0,([]:List Int),0,([]:List Int),0,()),()),[])
          else
            bif (decide ((a0.1:Int)=6)) then
              some ((((a0.1:Int),0,(a0.2.2.1:Int),(a0.2.2.2.1:Int),0,([]:List Int),0,([]:List Int),0,()),()),[])
            else
              bif (decide ((a0.1:Int)=7)) then
                some ((((a0.1:Int),0,(a0.2.2.1:Int),0,(a0.2.2.2.2.1:Int),([]:List Int),0,([]:List Int),0,()),()),[])
              else
                bif (decide ((a0.1:Int)=8)) then
                  some ((((a0.1:Int),0,0,0,(a0.2.2.2.2.1:Int),(a0.2.2.2.2.2.1:(List Int)),(a0.2.2.2.2.2.2.1:Int),(a0.2.2.2.2.2.2.2.1:(List Int)),(a0.2.2.2.2.2.2.2.2.1:Int),()),()),[])
                else
                  some ((((a0.1:Int),0,0,0,0,([]:List Int),0,([]:List Int),0,()),()),[])
      else
        bif (decide ((a0.1:Int)=4)) then
          some ((((a0.1:Int),0,(a0.2.2.1:Int),0,0,([]:List Int),0,([]:List Int),0,()),()),[])
        else
          bif (decide ((a0.1:Int)=5)) then
            bif (decide ((a0.1:Int)=5)) then
              some ((((a0.1:Int),0,(a0.2.2.1:Int),(a0.2.2.2.1:Int),0,([]:List Int),0,([]:List Int),0,()),()),[])
            else
              bif (decide ((a0.1:Int)=7)) then
                some ((((a0.1:Int),0,(a0.2.2.1:Int),0,(a0.2.2.2.2.1:Int),([]:List Int),0,([]:List Int),0,()),()),[])
              else
                bif (decide ((a0.1:Int)=8)) then
                  some ((((a0.1:Int),0,0,0,(a0.2.2.2.2.1:Int),(a0.2.2.2.2.2.1:(List Int)),(a0.2.2.2.2.2.2.1:Int),(a0.2.2.2.2.2.2.2.1:(List Int)),(a0.2.2.2.2.2.2.2.2.1:Int),()),()),[])
                else
                  some ((((a0.1:Int),0,0,0,0,([]:List Int),0,([]:List Int),0,()),()),[])
          else
            bif (decide ((a0.1:Int)=6)) then
              some ((((a0.1:Int),0,(a0.2.2.1:Int),(a0.2.2.2.1:Int),0,([]:List Int),0,([]:List Int),0,()),()),[])
            else
              bif (decide ((a0.1:Int)=7)) then
                some ((((a0.1:Int),0,(a0.2.2.1:Int),0,(a0.2.2.2.2.1:Int),([]:List Int),0,([]:List Int),0,()),()),[])
              else
                bif (decide ((a0.1:Int)=8)) then
                  some ((((a0.1:Int),0,0,0,(a0.2.2.2.2.1:Int),(a0.2.2.2.2.2.1:(List Int)),(a0.2.2.2.2.2.2.1:Int),(a0.2.2.2.2.2.2.2.1:(List Int)),(a0.2.2.2.2.2.2.2.2.1:Int),()),()),[])
                else
                  some ((((a0.1:Int),0,0,0,0,([]:List Int),0,([]:List Int),0,()),()),[]):=by kernel_rfl
@[reducible] def Wc.R:Type:=Xg [.d U2]×Z1
def Wc (n:Nat) (a0:(den Zx)):Option Wc.R:=gc n 82 [.dat Zx a0 []] [.d U2]
theorem Wc.eq (n:Nat) (a0:(den Zx)):Wc (n+1) a0 =
  some ((((a0.1:Int),(a0.2.1:Int),(a0.2.2.1:Int),(a0.2.2.2.1:Int),(a0.2.2.2.2.1:Int),(a0.2.2.2.2.2.2.1:Int),(a0.2.2.2.2.2.2.2.2.1:Int),()),()),[]):=by kernel_rfl
def Zs.res:List Sh:=[.d .bool]
@[reducible] def Zs.R:Type:=Xg [.d .bool]×Z1
def Zs (n:Nat) (a0:(List Int)) (a1:(List Int)):Option Zs.R:=gc n 83 [.dat (.sl (.int .i64)) a0 [],.dat (.sl (.int .i64)) a1 []] [.d .bool]
def Zs.l0 (n m0:Nat) (t0:(List Int)) (t1:(List Int)) (t4:Bool) (t12:Int) (t13:Int):Option Zs.R :=
  lpN n ANn m0 (Qs 0 (Qj (run (gc n) n) ATf (Xe Zs.fn Zs.res) (Xe Zs.fn Zs.res)) (Xe Zs.fn Zs.res))
    [(0,.dat (.sl (.int .i64)) t0 []),(1,.dat (.sl (.int .i64)) t1 []),(4,.dat .bool t4 []),(12,.dat (.int .i64) t12 []),(13,.dat (.int .i64) t13 [])]
    []
theorem Zs.l0_eq (n m0:Nat) (t0:(List Int)) (t1:(List Int)) (t4:Bool) (t12:Int) (t13:Int):Zs.l0 n (m0+1) t0 t1 t4 t12 t13 =
  bif (decide (t13<t12)) then
    if (0:Int)≤t13∧t13<(((List.length t0):Nat):Int) then
    if (0:Int)≤t13∧t13<(((List.length t1):Nat):Int) then
    bif (!(decide ((List.getD t0 (Int.toNat t13) (0:Int):Int)=(List.getD t1 (Int.toNat t13) (0:Int):Int)))) then
      some ((false,()),[])
    else
      Zs.l0 n m0 t0 t1 t4 t12 (IntKind.wrap .i64 (t13+1))
    else none
    else none
  else
    some ((true,()),[]):=by kernel_rfl
theorem Zs.eq (n:Nat) (a0:(List Int)) (a1:(List Int)):Zs (n+1) a0 a1 =
  bif (!(decide (((List.length a0):Int)=((List.length a1):Int)))) then
    some ((false,()),[])
  else
    Zs.l0 n n a0 a1 false ((List.length a0):Int) 0:=by kernel_rfl
@[reducible] def H3.R:Type:=Xg [.d .bool]×Z1
def H3 (n:Nat) (a0:(den Zx)) (a1:(den Zx)):Option H3.R:=gc n 46 [.dat Zx a0 [],.dat Zx a1 []] [.d .bool]
theorem H3.eq (n:Nat) (a0:(den Zx)) (a1:(den Zx)):H3 (n+1) a0 a1 =
  Option.bind (Wc n a0) fun r1 =>
  Option.bind (Wc n a1) fun r2 =>
  bif (eqT U2 r1.1.1 r2.1.1) then
    Option.bind (Zs n (a0.2.2.2.2.2.1:(List Int)) (a1.2.2.2.2.2.1:(List Int))) fun r3 =>
    bif (r3.1.1:Bool) then
      Option.bind (Zs n (a0.2.2.2.2.2.2.2.1:(List Int)) (a1.2.2.2.2.2.2.2.1:(List Int))) fun r4 =>
      some (((r4.1.1:Bool),()),[])
    else
      some ((false,()),[])
  else
    some ((false,()),[]):=by kernel_rfl
@[reducible] def Ud.R:Type:=Xg [.d .str]×Z1
def Ud (n:Nat) (a0:Int):Option Ud.R:=gc n 48 [.dat (.int .i64) a0 []] [.d .str]
theorem Ud.eq (n:Nat) (a0:Int):Ud (n+1) a0 =
  Option.bind (Hr n (Ef:(List ByteArray)) a0) fun r1 =>
  some (((r1.1.1:ByteArray),()),[]):=by kernel_rfl
@[reducible] def Hb.R:Type:=Xg [.d .bool]×Z1
def Hb (n:Nat) (a0:Int):Option Hb.R:=gc n 49 [.dat (.int .i64) a0 []] [.d .bool]
theorem Hb.eq (n:Nat) (a0:Int):Hb (n+1) a0 =
  bif (decide (0≤a0)) then
    some (((decide (a0≤1073741824)),()),[])
  else
    some ((false,()),[]):=by kernel_rfl
@[reducible] def K6.R:Type:=Xg [.d .bool]×Z1
def K6 (n:Nat) (a0:Int):Option K6.R:=gc n 85 [.dat (.int .i64) a0 []] [.d .bool]
theorem K6.eq (n:Nat) (a0:Int):K6 (n+1) a0 =
  Option.bind (Hb n a0) fun r1 =>
  some (((!(r1.1.1:Bool)),()),[]):=by kernel_rfl
def Zy.res:List Sh:=[.d (.int .i64)]
@[reducible] def Zy.R:Type:=Xg [.d (.int .i64)]×Z1
def Zy (n:Nat) (a0:(List Int)):Option Zy.R:=gc n 127 [.dat (.sl (.int .i64)) a0 [],.clo 85 []] [.d (.int .i64)]
def Zy.l0 (n m0:Nat) (t0:(List Int)) (t4:Int) (t7:Int) (t8:Int):Option Zy.R :=
  lpN n AD3 m0 (Qs 0 (Qj (run (gc n) n) ACm (Xe Zm.fn Zy.res) (Xe Zm.fn Zy.res)) (Xe Zm.fn Zy.res))
    [(0,.dat (.sl (.int .i64)) t0 []),(1,.clo 85 []),(4,.dat (.int .i64) t4 []),(7,.dat (.int .i64) t7 []),(8,.dat (.int .i64) t8 [])]
    []
theorem Zy.l0_eq (n m0:Nat) (t0:(List Int)) (t4:Int) (t7:Int) (t8:Int):Zy.l0 n (m0+1) t0 t4 t7 t8 =
  bif (decide (t8<t7)) then
    if (0:Int)≤t8∧t8<(((List.length t0):Nat):Int) then
    Option.bind (K6 n (List.getD t0 (Int.toNat t8) (0:Int):Int)) fun r1 =>
    bif (r1.1.1:Bool) then
      some ((t8,()),[])
    else
      Zy.l0 n m0 t0 t4 t7 (IntKind.wrap .i64 (t8+1))
    else none
  else
    some (((-1),()),[]):=by kernel_rfl
theorem Zy.eq (n:Nat) (a0:(List Int)):Zy (n+1) a0 =
  Zy.l0 n n a0 0 ((List.length a0):Int) 0:=by kernel_rfl
@[reducible] def X5.R:Type:=Xg [.d .bool]×Z1
def X5 (n:Nat) (a0:(List Int)):Option X5.R:=gc n 84 [.dat (.sl (.int .i64)) a0 [],.clo 85 []] [.d .bool]
theorem X5.eq (n:Nat) (a0:(List Int)):X5 (n+1) a0 =
  Option.bind (Zy n a0) fun r1 =>
  some (((decide (0≤(r1.1.1:Int))),()),[]):=by kernel_rfl
@[reducible] def G5.R:Type:=Xg [.d .bool]×Z1
def G5 (n:Nat) (a0:(List Int)):Option G5.R:=gc n 50 [.dat (.sl (.int .i64)) a0 []] [.d .bool]
theorem G5.eq (n:Nat) (a0:(List Int)):G5 (n+1) a0 =
  bif (decide (((List.length a0):Int)≤16)) then
    Option.bind (X5 n a0) fun r1 =>
    some (((!(r1.1.1:Bool)),()),[])
  else
    some ((false,()),[]):=by kernel_rfl
@[reducible] def H0.R:Type:=Xg [.d .bool]×Z1
def H0 (n:Nat) (a0:(den Zx)):Option H0.R:=gc n 21 [.dat Zx a0 []] [.d .bool]
theorem H0.eq (n:Nat) (a0:(den Zx)):H0 (n+1) a0 =
  Option.bind (H6 n (a0.1:Int)) fun r1 =>
  bif (!(eqT .str (r1.1.1:ByteArray) (⟨#[]⟩:ByteArray))) then
    Option.bind (Q6 n a0) fun r2 =>
    Option.bind (H3 n a0 r2.1.1) fun r3 =>
    bif (r3.1.1:Bool) then
      Option.bind (Ud n (a0.2.1:Int)) fun r4 =>
      bif (!(eqT .str (r4.1.1:ByteArray) (⟨#[]⟩:ByteArray))) then
        Option.bind (Hb n (a0.2.2.1:Int)) fun r5 =>
        bif (r5.1.1:Bool) then
          Option.bind (Hb n (a0.2.2.2.1:Int)) fun r6 =>
          bif (r6.1.1:Bool) then
            Option.bind (Hb n (a0.2.2.2.2.1:Int)) fun r7 =>
            bif (r7.1.1:Bool) then
              Option.bind (Hb n (a0.2.2.2.2.2.2.1:Int)) fun r8 =>
              bif (r8.1.1:Bool) then
                Option.bind (Hb n (a0.2.2.2.2.2.2.2.2.1:Int)) fun r9 =>
                bif (r9.1.1:Bool) then
                  Option.bind (G5 n (a0.2.2.2.2.2.1:(List Int))) fun r10 =>
                  bif (r10.1.1:Bool) then
                    Option.bind (G5 n (a0.2.2.2.2.2.2.2.1:(List Int))) fun r11 =>
                    some (((r11.1.1:Bool),()),[])
                  else
                    some ((false,()),[])
                else
                  some ((false,()),[])
              else
                some ((false,()),[])
            else
              some ((false,()),[])
          else
            some ((false,()),[])
        else
          some ((false,()),[])
      else
        some ((false,()),[])
    else
      some ((false,()),[])
  else
    some ((false,()),[]):=by kernel_rfl
@[reducible] def T4.R:Type:=Xg [.fmap [1,2,3,4,5,6,7,8,9,10] [.clo 86 [.refv (.clo 52 [])],.clo 86 [.refv (.clo 54 [])],.clo 91 [.refv (.clo 57 [])],.clo 91 [.refv (.clo 59 [])],.clo 91 [.refv (.clo 61 [])],.clo 91 [.refv (.clo 63 [])],.clo 91 [.refv (.clo 65 [])],.clo 91 [.refv (.clo 67 [])],.clo 123 [.refv (.clo 69 [])],.clo 123 [.refv (.clo 70 [])]]]×Z1
def T4 (n:Nat):Option T4.R:=gc n 22 [] [.fmap [1,2,3,4,5,6,7,8,9,10] [.clo 86 [.refv (.clo 52 [])],.clo 86 [.refv (.clo 54 [])],.clo 91 [.refv (.clo 57 [])],.clo 91 [.refv (.clo 59 [])],.clo 91 [.refv (.clo 61 [])],.clo 91 [.refv (.clo 63 [])],.clo 91 [.refv (.clo 65 [])],.clo 91 [.refv (.clo 67 [])],.clo 123 [.refv (.clo 69 [])],.clo 123 [.refv (.clo 70 [])]]]
@[reducible] def Gy.R:Type:=Xg [.clo 138 [.ref Za,.ref (.int .i64)]]×Z1
def Gy (n:Nat) (a0:(den Za)) (a1:Int):Option Gy.R:=gc n 131 [.dat Za a0 [],.dat (.int .i64) a1 []] [.clo 138 [.ref Za,.ref (.int .i64)]]
theorem Gy.eq (n:Nat) (a0:(den Za)) (a1:Int):Gy (n+1) a0 a1 =
  some (((a0,a1,()),()),[]):=by kernel_rfl
@[reducible] def Ja.R:Type:=Xg [.d (.sl Zb)]×Z1
def Ja (n:Nat) (a0:(den Za)) (a1:Int):Option Ja.R:=gc n 132 [.clo 138 [.ref Za a0,.ref (.int .i64) a1]] [.d (.sl Zb)]
@[reducible] def Ko.R:Type:=Xg [.d Zb]×Z1
def Ko (n:Nat) (a0:(den Za)) (a1:Int):Option Ko.R:=gc n 130 [.dat Za a0 [],.dat (.int .i64) a1 []] [.d Zb]
theorem Ko.eq (n:Nat) (a0:(den Za)) (a1:Int):Ko (n+1) a0 a1 =
  Option.bind (Gy n a0 a1) fun r1 =>
  Option.bind (Ja n r1.1.1.1 (r1.1.1.2.1:Int)) fun r2 =>
  if (0:Int)≤(IntKind.wrap .i64 (((List.length (r2.1.1:(List (den Zb)))):Int) - 1))∧(IntKind.wrap .i64 (((List.length (r2.1.1:(List (den Zb)))):Int) - 1))<(((List.length (r2.1.1:(List (den Zb)))):Nat):Int) then
  some (((List.getD (r2.1.1:(List (den Zb))) (Int.toNat (IntKind.wrap .i64 (((List.length (r2.1.1:(List (den Zb)))):Int) - 1))) (dft Zb):(den Zb)),()),[])
  else none:=by kernel_rfl
def X1.res:List Sh:=[.d (.sl Xn)]
@[reducible] def X1.R:Type:=Xg [.d (.sl Xn)]×Z1
def X1 (n:Nat) (a0:(den Za)) (a1:(den Zb)):Option X1.R:=gc n 125 [.dat Za a0 [],.dat Zb a1 []] [.d (.sl Xn)]
def X1.l0 (n m0:Nat) (t0:(den Za)) (t1:(den Zb)) (t4:(List (den Xn))) (t9:(List (den Zb))) (t10:Int) (t11:Int) (o0:(den Za)) (o1:(den Zb)) (o5:(List (den Xn))):Option X1.R :=
  lpN n ANx m0 (Qs 0 (Qj (run (gc n) n) AOo (Xe X1.fn X1.res) (Xe X1.fn X1.res)) (Xe X1.fn X1.res))
    [(0,.dat Za t0 []),(1,.dat Zb t1 []),(2,.ptr 0 []),(3,.ptr 1 []),(4,.dat (.sl Xn) t4 []),(5,.dat (.sl Xn) ([]:List (den Xn)) [([],some 5)]),(9,.dat (.sl Zb) t9 []),(10,.dat (.int .i64) t10 []),(11,.dat (.int .i64) t11 [])]
    [.box Za o0 [],.box Zb o1 [],.none,.none,.none,.arr Xn o5]
theorem X1.l0_eq (n m0:Nat) (t0:(den Za)) (t1:(den Zb)) (t4:(List (den Xn))) (t9:(List (den Zb))) (t10:Int) (t11:Int) (o0:(den Za)) (o1:(den Zb)) (o5:(List (den Xn))):X1.l0 n (m0+1) t0 t1 t4 t9 t10 t11 o0 o1 o5 =
  bif (decide (t11<t10)) then
    if (0:Int)≤t11∧t11<(((List.length t9):Nat):Int) then
    Option.bind (Ko n o0 t11) fun r1 =>
    bif (eqT Zb r1.1.1 o1) then
      if (List.length o5)+1≤1048576 then
      X1.l0 n m0 t0 t1 t4 t9 t10 (IntKind.wrap .i64 (t11+1)) o0 o1 (o5 ++ ([(t11,(List.getD t9 (Int.toNat t11) (dft Zb):(den Zb)),())]:List (den Xn)))
      else none
    else
      X1.l0 n m0 t0 t1 t4 t9 t10 (IntKind.wrap .i64 (t11+1)) o0 o1 o5
    else none
  else
    some ((o5,()),[(0,[])]):=by kernel_rfl
theorem X1.eq (n:Nat) (a0:(den Za)) (a1:(den Zb)):X1 (n+1) a0 a1 =
  X1.l0 n n a0 a1 ([]:List (den Xn)) (a0.2.2.2.1:(List (den Zb))) ((List.length (a0.2.2.2.1:(List (den Zb)))):Int) 0 a0 a1 ([]:List (den Xn)):=by kernel_rfl
@[reducible] def K5.R:Type:=Xg [.d Zt]×Z1
def K5 (n:Nat) (a0:(den Za)) (a1:Int):Option K5.R:=gc n 70 [.dat Za a0 [],.dat (.int .i64) a1 []] [.d Zt]
theorem K5.eq (n:Nat) (a0:(den Za)) (a1:Int):K5 (n+1) a0 a1 =
  if (0:Int)≤a1∧a1<(((List.length (a0.2.2.1:(List Int))):Nat):Int) then
  Option.bind (X1 n a0 (1,a1,())) fun r1 =>
  some (((0,10,0,([]:List Int),(r1.1.1:(List (den Xn))),(List.getD (a0.2.2.1:(List Int)) (Int.toNat a1) (0:Int):Int),()),()),[])
  else none:=by kernel_rfl
@[reducible] def Qv.R:Type:=Xg [.d Za,.d Zt]×Z1
def Qv (n:Nat) (a0:(den Za)) (a1:Int) (a2:(den Zx)):Option Qv.R:=gc n 123 [.dat Za a0 [],.dat (.int .i64) a1 [],.dat Zx a2 [],.refv (.clo 70 [])] [.d Za,.d Zt]
theorem Qv.eq (n:Nat) (a0:(den Za)) (a1:Int) (a2:(den Zx)):Qv (n+1) a0 a1 a2 =
  Option.bind (K5 n a0 a1) fun r1 =>
  some ((a0,r1.1.1,()),[]):=by kernel_rfl
def Xl.res:List Sh:=[.d (.sl (.int .i64))]
@[reducible] def Xl.R:Type:=Xg [.d (.sl (.int .i64))]×Z1
def Xl (n:Nat) (a0:(den Za)) (a1:Int):Option Xl.R:=gc n 124 [.dat Za a0 [],.dat (.int .i64) a1 []] [.d (.sl (.int .i64))]
def Xl.l0 (n m0:Nat) (t0:(den Za)) (t1:Int) (t4:(List Int)) (t9:Int) (t10:Int) (o0:(den Za)) (o3:(List Int)):Option Xl.R :=
  lpN n AN5 m0 (Qs 0 (Qj (run (gc n) n) ALv (Xe Xl.fn Xl.res) (Xe Xl.fn Xl.res)) (Xe Xl.fn Xl.res))
    [(0,.dat Za t0 []),(1,.dat (.int .i64) t1 []),(2,.ptr 0 []),(4,.dat (.sl (.int .i64)) t4 []),(5,.dat (.sl (.int .i64)) ([]:List Int) [([],some 3)]),(9,.dat (.int .i64) t9 []),(10,.dat (.int .i64) t10 [])]
    [.box Za o0 [],.none,.none,.arr (.int .i64) o3]
theorem Xl.l0_eq (n m0:Nat) (t0:(den Za)) (t1:Int) (t4:(List Int)) (t9:Int) (t10:Int) (o0:(den Za)) (o3:(List Int)):Xl.l0 n (m0+1) t0 t1 t4 t9 t10 o0 o3 =
  bif (decide (t10<t9)) then
    if (0:Int)≤t10∧t10<(((List.length (o0.2.1:(List Int))):Nat):Int) then
    bif (decide ((List.getD (o0.2.1:(List Int)) (Int.toNat t10) (0:Int):Int)=t1)) then
      if (List.length o3)+1≤1048576 then
      Xl.l0 n m0 t0 t1 t4 t9 (IntKind.wrap .i64 (t10+1)) o0 (o3 ++ ([t10]:List Int))
      else none
    else
      Xl.l0 n m0 t0 t1 t4 t9 (IntKind.wrap .i64 (t10+1)) o0 o3
    else none
  else
    some ((o3,()),[(0,[])]):=by kernel_rfl
theorem Xl.eq (n:Nat) (a0:(den Za)) (a1:Int):Xl (n+1) a0 a1 =
  Xl.l0 n n a0 a1 ([]:List Int) ((List.length (a0.2.1:(List Int))):Int) 0 a0 ([]:List Int):=by kernel_rfl
@[reducible] def V8.R:Type:=Xg [.d Zt]×Z1
def V8 (n:Nat) (a0:(den Za)) (a1:Int):Option V8.R:=gc n 69 [.dat Za a0 [],.dat (.int .i64) a1 []] [.d Zt]
theorem V8.eq (n:Nat) (a0:(den Za)) (a1:Int):V8 (n+1) a0 a1 =
  if (0:Int)≤a1∧a1<(((List.length (a0.2.1:(List Int))):Nat):Int) then
  Option.bind (Xl n a0 (List.getD (a0.2.1:(List Int)) (Int.toNat a1) (0:Int):Int)) fun r1 =>
  Option.bind (X1 n a0 (0,(List.getD (a0.2.1:(List Int)) (Int.toNat a1) (0:Int):Int),())) fun r2 =>
  some (((0,9,(List.getD (a0.2.1:(List Int)) (Int.toNat a1) (0:Int):Int),(r1.1.1:(List Int)),(r2.1.1:(List (den Xn))),0,()),()),[])
  else none:=by kernel_rfl
@[reducible] def Vn.R:Type:=Xg [.d Za,.d Zt]×Z1
def Vn (n:Nat) (a0:(den Za)) (a1:Int) (a2:(den Zx)):Option Vn.R:=gc n 123 [.dat Za a0 [],.dat (.int .i64) a1 [],.dat Zx a2 [],.refv (.clo 69 [])] [.d Za,.d Zt]
theorem Vn.eq (n:Nat) (a0:(den Za)) (a1:Int) (a2:(den Zx)):Vn (n+1) a0 a1 a2 =
  Option.bind (V8 n a0 a1) fun r1 =>
  some ((a0,r1.1.1,()),[]):=by kernel_rfl
@[reducible] def Ke.R:Type:=Xg [.d (.sl (.int .i64))]×Z1
def Ke (n:Nat) (a0:(List (List Int))):Option Ke.R:=gc n 116 [.dat (.sl (.sl (.int .i64))) a0 []] [.d (.sl (.int .i64))]
@[reducible] def Qy.R:Type:=Xg [.d .bool]×Z1
def Qy (n:Nat) (a0:(den Za)) (a1:Int):Option Qy.R:=gc n 114 [.dat Za a0 [],.dat (.int .i64) a1 []] [.d .bool]
theorem Qy.eq (n:Nat) (a0:(den Za)) (a1:Int):Qy (n+1) a0 a1 =
  bif (decide (0≤a1)) then
    some (((decide (a1<((List.length (a0.2.1:(List Int))):Int))),()),[])
  else
    some ((false,()),[]):=by kernel_rfl
@[reducible] def Hq.R:Type:=Xg [.d .bool]×Z1
def Hq (n:Nat) (a0:(den Za)) (a1:Int):Option Hq.R:=gc n 113 [.dat Za a0 [],.dat (.int .i64) a1 []] [.d .bool]
theorem Hq.eq (n:Nat) (a0:(den Za)) (a1:Int):Hq (n+1) a0 a1 =
  bif (decide (0≤a1)) then
    some (((decide (a1<((List.length (a0.2.2.2.1:(List (den Zb)))):Int))),()),[])
  else
    some ((false,()),[]):=by kernel_rfl
@[reducible] def Qw.R:Type:=Xg [.d .bool]×Z1
def Qw (n:Nat) (a0:Int) (a1:(den Za)):Option Qw.R:=gc n 119 [.dat (.int .i64) a0 [],.ref Za a1] [.d .bool]
theorem Qw.eq (n:Nat) (a0:Int) (a1:(den Za)):Qw (n+1) a0 a1 =
  Option.bind (Hq n a1 a0) fun r1 =>
  some (((!(r1.1.1:Bool)),()),[]):=by kernel_rfl
def Zm.res:List Sh:=[.d (.int .i64)]
@[reducible] def Zm.R:Type:=Xg [.d (.int .i64)]×Z1
def Zm (n:Nat) (a0:(List Int)) (a1:(den Za)):Option Zm.R:=gc n 127 [.dat (.sl (.int .i64)) a0 [],.clo 119 [.ref Za a1]] [.d (.int .i64)]
def Zm.l0 (n m0:Nat) (t0:(List Int)) (t1:(den Za)) (t4:Int) (t7:Int) (t8:Int):Option Zm.R :=
  lpN n AD3 m0 (Qs 0 (Qj (run (gc n) n) ACm (Xe Zm.fn Zm.res) (Xe Zm.fn Zm.res)) (Xe Zm.fn Zm.res))
    [(0,.dat (.sl (.int .i64)) t0 []),(1,.clo 119 [.ref Za t1]),(4,.dat (.int .i64) t4 []),(7,.dat (.int .i64) t7 []),(8,.dat (.int .i64) t8 [])]
    []
theorem Zm.l0_eq (n m0:Nat) (t0:(List Int)) (t1:(den Za)) (t4:Int) (t7:Int) (t8:Int):Zm.l0 n (m0+1) t0 t1 t4 t7 t8 =
  bif (decide (t8<t7)) then
    if (0:Int)≤t8∧t8<(((List.length t0):Nat):Int) then
    Option.bind (Qw n (List.getD t0 (Int.toNat t8) (0:Int):Int) t1) fun r1 =>
    bif (r1.1.1:Bool) then
      some ((t8,()),[])
    else
      Zm.l0 n m0 t0 t1 t4 t7 (IntKind.wrap .i64 (t8+1))
    else none
  else
    some (((-1),()),[]):=by kernel_rfl
theorem Zm.eq (n:Nat) (a0:(List Int)) (a1:(den Za)):Zm (n+1) a0 a1 =
  Zm.l0 n n a0 a1 0 ((List.length a0):Int) 0:=by kernel_rfl
@[reducible] def Xk.R:Type:=Xg [.d .bool]×Z1
def Xk (n:Nat) (a0:(List Int)) (a1:(den Za)):Option Xk.R:=gc n 84 [.dat (.sl (.int .i64)) a0 [],.clo 119 [.ref Za a1]] [.d .bool]
theorem Xk.eq (n:Nat) (a0:(List Int)) (a1:(den Za)):Xk (n+1) a0 a1 =
  Option.bind (Zm n a0 a1) fun r1 =>
  some (((decide (0≤(r1.1.1:Int))),()),[]):=by kernel_rfl
def Xv.res:List Sh:=[.d .bool]
@[reducible] def Xv.R:Type:=Xg [.d .bool]×Z1
def Xv (n:Nat) (a0:(List Int)):Option Xv.R:=gc n 120 [.dat (.sl (.int .i64)) a0 []] [.d .bool]
def Xv.l0 (n m0:Nat) (t0:(List Int)) (t2:Bool) (t7:(List Int)) (t8:Int) (t9:Int) (o0:(List (Int×Bool))):Option Xv.R :=
  lpN n AOq m0 (Qs 0 (Qj (run (gc n) n) AM7 (Xe Xv.fn Xv.res) (Xe Xv.fn Xv.res)) (Xe Xv.fn Xv.res))
    [(0,.dat (.sl (.int .i64)) t0 []),(2,.dat .bool t2 []),(3,.ptr 0 []),(7,.dat (.sl (.int .i64)) t7 []),(8,.dat (.int .i64) t8 []),(9,.dat (.int .i64) t9 [])]
    [.map (.int .i64) .bool o0]
theorem Xv.l0_eq (n m0:Nat) (t0:(List Int)) (t2:Bool) (t7:(List Int)) (t8:Int) (t9:Int) (o0:(List (Int×Bool))):Xv.l0 n (m0+1) t0 t2 t7 t8 t9 o0 =
  bif (decide (t9<t8)) then
    if (0:Int)≤t9∧t9<(((List.length t7):Nat):Int) then
    bif ((Option.getD (Qg (.int .i64) .bool (List.getD t7 (Int.toNat t9) (0:Int):Int) o0) false):Bool) then
      some ((true,()),[])
    else
      Xv.l0 n m0 t0 t2 t7 t8 (IntKind.wrap .i64 (t9+1)) (Uf (.int .i64) .bool (List.getD t7 (Int.toNat t9) (0:Int):Int) true o0)
    else none
  else
    some ((false,()),[]):=by kernel_rfl
theorem Xv.eq (n:Nat) (a0:(List Int)):Xv (n+1) a0 =
  Xv.l0 n n a0 false a0 ((List.length a0):Int) 0 []:=by kernel_rfl
@[reducible] def Qi.R:Type:=Xg [.d Zb]×Z1
def Qi (n:Nat) (a0:Int):Option Qi.R:=gc n 115 [.dat (.int .i64) a0 []] [.d Zb]
theorem Qi.eq (n:Nat) (a0:Int):Qi (n+1) a0 =
  some (((1,a0,()),()),[]):=by kernel_rfl
@[reducible] def Qd.R:Type:=Xg [.d .bool]×Z1
def Qd (n:Nat) (a0:Int) (a1:(den Za)) (a2:Int):Option Qd.R:=gc n 118 [.dat (.int .i64) a0 [],.ref Za a1,.ref (.int .i64) a2] [.d .bool]
theorem Qd.eq (n:Nat) (a0:Int) (a1:(den Za)) (a2:Int):Qd (n+1) a0 a1 a2 =
  if (0:Int)≤a0∧a0<(((List.length (a1.2.2.2.1:(List (den Zb)))):Nat):Int) then
  Option.bind (Qi n a2) fun r1 =>
  some (((!(eqT Zb (List.getD (a1.2.2.2.1:(List (den Zb))) (Int.toNat a0) (dft Zb):(den Zb)) r1.1.1)),()),[])
  else none:=by kernel_rfl
def Zz.res:List Sh:=[.d (.int .i64)]
@[reducible] def Zz.R:Type:=Xg [.d (.int .i64)]×Z1
def Zz (n:Nat) (a0:(List Int)) (a1:(den Za)) (a2:Int):Option Zz.R:=gc n 127 [.dat (.sl (.int .i64)) a0 [],.clo 118 [.ref Za a1,.ref (.int .i64) a2]] [.d (.int .i64)]
def Zz.l0 (n m0:Nat) (t0:(List Int)) (t1:(den Za)) (t1':Int) (t4:Int) (t7:Int) (t8:Int):Option Zz.R :=
  lpN n AD3 m0 (Qs 0 (Qj (run (gc n) n) ACm (Xe Zm.fn Zz.res) (Xe Zm.fn Zz.res)) (Xe Zm.fn Zz.res))
    [(0,.dat (.sl (.int .i64)) t0 []),(1,.clo 118 [.ref Za t1,.ref (.int .i64) t1']),(4,.dat (.int .i64) t4 []),(7,.dat (.int .i64) t7 []),(8,.dat (.int .i64) t8 [])]
    []
theorem Zz.l0_eq (n m0:Nat) (t0:(List Int)) (t1:(den Za)) (t1':Int) (t4:Int) (t7:Int) (t8:Int):Zz.l0 n (m0+1) t0 t1 t1' t4 t7 t8 =
  bif (decide (t8<t7)) then
    if (0:Int)≤t8∧t8<(((List.length t0):Nat):Int) then
    Option.bind (Qd n (List.getD t0 (Int.toNat t8) (0:Int):Int) t1 t1') fun r1 =>
    bif (r1.1.1:Bool) then
      some ((t8,()),[])
    else
      Zz.l0 n m0 t0 t1 t1' t4 t7 (IntKind.wrap .i64 (t8+1))
    else none
  else
    some (((-1),()),[]):=by kernel_rfl
theorem Zz.eq (n:Nat) (a0:(List Int)) (a1:(den Za)) (a2:Int):Zz (n+1) a0 a1 a2 =
  Zz.l0 n n a0 a1 a2 0 ((List.length a0):Int) 0:=by kernel_rfl
@[reducible] def X6.R:Type:=Xg [.d .bool]×Z1
def X6 (n:Nat) (a0:(List Int)) (a1:(den Za)) (a2:Int):Option X6.R:=gc n 84 [.dat (.sl (.int .i64)) a0 [],.clo 118 [.ref Za a1,.ref (.int .i64) a2]] [.d .bool]
theorem X6.eq (n:Nat) (a0:(List Int)) (a1:(den Za)) (a2:Int):X6 (n+1) a0 a1 a2 =
  Option.bind (Zz n a0 a1 a2) fun r1 =>
  some (((decide (0≤(r1.1.1:Int))),()),[]):=by kernel_rfl
@[reducible] def Qm.R:Type:=Xg [.d .bool]×Z1
def Qm (n:Nat) (a0:(List Int)) (a1:Int) (a2:(den Za)):Option Qm.R:=gc n 117 [.dat (.sl (.int .i64)) a0 [],.dat (.int .i64) a1 [],.ref Za a2] [.d .bool]
theorem Qm.eq (n:Nat) (a0:(List Int)) (a1:Int) (a2:(den Za)):Qm (n+1) a0 a1 a2 =
  Option.bind (X6 n a0 a2 a1) fun r1 =>
  some (((r1.1.1:Bool),()),[]):=by kernel_rfl
def Ql.res:List Sh:=[.d (.sl (.int .i64))]
@[reducible] def Ql.R:Type:=Xg [.d (.sl (.int .i64))]×Z1
def Ql (n:Nat) (a0:(den Za)) (a1:(den Zb)):Option Ql.R:=gc n 133 [.dat Za a0 [],.dat Zb a1 []] [.d (.sl (.int .i64))]
def Ql.l0 (n m0:Nat) (t0:(den Za)) (t1:(den Zb)) (t4:(List Int)) (t9:(List (den Zb))) (t10:Int) (t11:Int) (o0:(den Za)) (o1:(den Zb)) (o5:(List Int)):Option Ql.R :=
  lpN n AMn m0 (Qs 0 (Qj (run (gc n) n) ANk (Xe Ql.fn Ql.res) (Xe Ql.fn Ql.res)) (Xe Ql.fn Ql.res))
    [(0,.dat Za t0 []),(1,.dat Zb t1 []),(2,.ptr 0 []),(3,.ptr 1 []),(4,.dat (.sl (.int .i64)) t4 []),(5,.dat (.sl (.int .i64)) ([]:List Int) [([],some 5)]),(9,.dat (.sl Zb) t9 []),(10,.dat (.int .i64) t10 []),(11,.dat (.int .i64) t11 [])]
    [.box Za o0 [],.box Zb o1 [],.none,.none,.none,.arr (.int .i64) o5]
theorem Ql.l0_eq (n m0:Nat) (t0:(den Za)) (t1:(den Zb)) (t4:(List Int)) (t9:(List (den Zb))) (t10:Int) (t11:Int) (o0:(den Za)) (o1:(den Zb)) (o5:(List Int)):Ql.l0 n (m0+1) t0 t1 t4 t9 t10 t11 o0 o1 o5 =
  bif (decide (t11<t10)) then
    if (0:Int)≤t11∧t11<(((List.length t9):Nat):Int) then
    bif (eqT Zb o1 (List.getD t9 (Int.toNat t11) (dft Zb):(den Zb))) then
      if (List.length o5)+1≤1048576 then
      Ql.l0 n m0 t0 t1 t4 t9 t10 (IntKind.wrap .i64 (t11+1)) o0 o1 (o5 ++ ([t11]:List Int))
      else none
    else
      Ql.l0 n m0 t0 t1 t4 t9 t10 (IntKind.wrap .i64 (t11+1)) o0 o1 o5
    else none
  else
    some ((o5,()),[(0,[])]):=by kernel_rfl
theorem Ql.eq (n:Nat) (a0:(den Za)) (a1:(den Zb)):Ql (n+1) a0 a1 =
  Ql.l0 n n a0 a1 ([]:List Int) (a0.2.2.2.1:(List (den Zb))) ((List.length (a0.2.2.2.1:(List (den Zb)))):Int) 0 a0 a1 ([]:List Int):=by kernel_rfl
@[reducible] def Jy.R:Type:=Xg [.d (.int .i64)]×Z1
def Jy (n:Nat) (a0:(den Za)) (a1:(den Zb)):Option Jy.R:=gc n 106 [.dat Za a0 [],.dat Zb a1 []] [.d (.int .i64)]
theorem Jy.eq (n:Nat) (a0:(den Za)) (a1:(den Zb)):Jy (n+1) a0 a1 =
  if (0:Int)≤(a1.1:Int)∧(a1.1:Int)<((3:Nat):Int) then
  Option.bind (Ql n a0 a1) fun r1 =>
  some (((IntKind.wrap .i64 ((List.getD ([(a0.1.2.2.2.2.2.1:Int),(a0.1.2.2.2.2.2.2.1:Int),(a0.1.2.2.2.2.2.2.2.1:Int)]:List Int) (Int.toNat (a1.1:Int)) (0:Int):Int) - ((List.length (r1.1.1:(List Int))):Int))),()),[])
  else none:=by kernel_rfl
@[reducible] def Gu.R:Type:=Xg [.d .bool]×Z1
def Gu (n:Nat) (a0:Int):Option Gu.R:=gc n 135 [.dat (.int .i64) a0 []] [.d .bool]
theorem Gu.eq (n:Nat) (a0:Int):Gu (n+1) a0 =
  bif (decide (0≤a0)) then
    some (((decide (a0≤1073741824)),()),[])
  else
    some ((false,()),[]):=by kernel_rfl
@[reducible] def K1.R:Type:=Xg [.d (.int .i64),.d (.int .i64),.d (.int .i64)]×Z1
def K1 (n:Nat) (a0:Int) (a1:Int) (a2:Int) (a3:Int):Option K1.R:=gc n 121 [.dat (.int .i64) a0 [],.dat (.int .i64) a1 [],.dat (.int .i64) a2 [],.dat (.int .i64) a3 []] [.d (.int .i64),.d (.int .i64),.d (.int .i64)]
theorem K1.eq (n:Nat) (a0:Int) (a1:Int) (a2:Int) (a3:Int):K1 (n+1) a0 a1 a2 a3 =
  bif (decide (a2<0)) then
    some ((a0,a1,1,()),[])
  else
    bif (decide (a3<0)) then
      some ((a0,a1,1,()),[])
    else
      bif (decide (a0<a2)) then
        some ((a0,a1,10,()),[])
      else
        bif (decide (a1<a3)) then
          some ((a0,a1,10,()),[])
        else
          Option.bind (Gu n (IntKind.wrap .i64 ((IntKind.wrap .i64 (a0 - a2))+a3))) fun r1 =>
          bif (!(r1.1.1:Bool)) then
            some ((a0,a1,11,()),[])
          else
            Option.bind (Gu n (IntKind.wrap .i64 ((IntKind.wrap .i64 (a1 - a3))+a2))) fun r2 =>
            bif (!(r2.1.1:Bool)) then
              some ((a0,a1,11,()),[])
            else
              some (((IntKind.wrap .i64 ((IntKind.wrap .i64 (a0 - a2))+a3)),(IntKind.wrap .i64 ((IntKind.wrap .i64 (a1 - a3))+a2)),0,()),[]):=by kernel_rfl
@[reducible] def Vj.R:Type:=Xg [.d (.sl (.int .i64))]×Z1
def Vj (n:Nat) (a0:(List Int)):Option Vj.R:=gc n 136 [.dat (.sl (.int .i64)) a0 []] [.d (.sl (.int .i64))]
@[reducible] def Qk.R:Type:=Xg [.d (.sl Zb)]×Z1
def Qk (n:Nat) (a0:(List (den Zb))):Option Qk.R:=gc n 137 [.dat (.sl Zb) a0 []] [.d (.sl Zb)]
@[reducible] def J7.R:Type:=Xg [.d Za]×Z1
def J7 (n:Nat) (a0:(den Za)):Option J7.R:=gc n 122 [.dat Za a0 []] [.d Za]
theorem J7.eq (n:Nat) (a0:(den Za)):J7 (n+1) a0 =
  Option.bind (Vj n (a0.2.1:(List Int))) fun r1 =>
  bif (Zn r1.2 [((0,[]),2)]) then
    Option.bind (Vj n (a0.2.2.1:(List Int))) fun r2 =>
    bif (Zn r2.2 [((0,[]),3)]) then
      Option.bind (Qk n (a0.2.2.2.1:(List (den Zb)))) fun r3 =>
      bif (Zn r3.2 [((0,[]),4)]) then
        some (((a0.1,(r1.1.1:(List Int)),(r2.1.1:(List Int)),(r3.1.1:(List (den Zb))),()),()),[(0,[1]),(0,[2]),(0,[3])])
      else
        none
    else
      none
  else
    none:=by kernel_rfl
def Xd.res:List Sh:=[.d Za,.d (.int .i64)]
@[reducible] def Xd.R:Type:=Xg [.d Za,.d (.int .i64)]×Z1
def Xd (n:Nat) (a0:(den Za)) (a1:Int) (a2:(den Zx)):Option Xd.R:=gc n 67 [.dat Za a0 [],.dat (.int .i64) a1 [],.dat Zx a2 []] [.d Za,.d (.int .i64)]
def Xd.l0 (n m0:Nat) (t0:(den Za)) (t1:Int) (t2:(den Zx)) (t7:Int) (t8:Int) (t9:(List Int)) (t11:Int) (t12:Int) (t13:Int) (t14:Int) (t135:(List Int)) (t136:Int) (t137:Int) (o0:(den Za)) (o1:(den Zx)) (o2:(den Za)) (o3:(List (List Int))) (o4:(den Za)) (o5:(List Int)) (o6:(List (den Zb))):Option Xd.R :=
  lpN n AM3 m0 (Qs 1 (Qj (run (gc n) n) ALz (Xe Xd.fn Xd.res) (Xe Xd.fn Xd.res)) (Xe Xd.fn Xd.res))
    [(0,.dat Za t0 []),(1,.dat (.int .i64) t1 []),(2,.dat Zx t2 []),(3,.ptr 0 []),(5,.ptr 1 []),(6,.ptr 2 []),(7,.dat (.int .i64) t7 []),(8,.dat (.int .i64) t8 []),(9,.dat (.sl (.int .i64)) t9 []),(10,.clo 117 [.ptr 0 []]),(11,.dat (.int .i64) t11 []),(12,.dat (.int .i64) t12 []),(13,.dat (.int .i64) t13 []),(14,.dat (.int .i64) t14 []),(15,.ptr 4 []),(135,.dat (.sl (.int .i64)) t135 []),(136,.dat (.int .i64) t136 []),(137,.dat (.int .i64) t137 [])]
    [.box Za o0 [],.box Zx o1 [],.box Za o2 [],.frz (.sl (.int .i64)) o3,.box Za o4 [([2],some 5),([3],some 6)],.arr (.int .i64) o5,.arr Zb o6]
def Xd.l1 (n m0:Nat) (t0_1:(den Za)) (t1_1:Int) (t2_1:(den Zx)) (t7_1:Int) (t8_1:Int) (t9_1:(List Int)) (t11_1:Int) (t12_1:Int) (t13_1:Int) (t14_1:Int) (t135_1:(List Int)) (t136_1:Int) (t137_1:Int) (t149_1:(List Int)) (t150_1:Int) (t151_1:Int) (o0_1:(den Za)) (o1_1:(den Zx)) (o2_1:(den Za)) (o3_1:(List (List Int))) (o4_1:(den Za)) (o5_1:(List Int)) (o6_1:(List (den Zb))):Option Xd.R :=
  lpN n ALa m0 (Qs 3 (Qj (run (gc n) n) AL7 (Xe Xd.fn Xd.res) (Xe Xd.fn Xd.res)) (Xe Xd.fn Xd.res))
    [(0,.dat Za t0_1 []),(1,.dat (.int .i64) t1_1 []),(2,.dat Zx t2_1 []),(3,.ptr 0 []),(5,.ptr 1 []),(6,.ptr 2 []),(7,.dat (.int .i64) t7_1 []),(8,.dat (.int .i64) t8_1 []),(9,.dat (.sl (.int .i64)) t9_1 []),(10,.clo 117 [.ptr 0 []]),(11,.dat (.int .i64) t11_1 []),(12,.dat (.int .i64) t12_1 []),(13,.dat (.int .i64) t13_1 []),(14,.dat (.int .i64) t14_1 []),(15,.ptr 4 []),(135,.dat (.sl (.int .i64)) t135_1 []),(136,.dat (.int .i64) t136_1 []),(137,.dat (.int .i64) t137_1 []),(149,.dat (.sl (.int .i64)) t149_1 []),(150,.dat (.int .i64) t150_1 []),(151,.dat (.int .i64) t151_1 [])]
    [.box Za o0_1 [],.box Zx o1_1 [],.box Za o2_1 [],.frz (.sl (.int .i64)) o3_1,.box Za o4_1 [([2],some 5),([3],some 6)],.arr (.int .i64) o5_1,.arr Zb o6_1]
theorem Xd.l0_eq (n m0:Nat) (t0:(den Za)) (t1:Int) (t2:(den Zx)) (t7:Int) (t8:Int) (t9:(List Int)) (t11:Int) (t12:Int) (t13:Int) (t14:Int) (t135:(List Int)) (t136:Int) (t137:Int) (o0:(den Za)) (o1:(den Zx)) (o2:(den Za)) (o3:(List (List Int))) (o4:(den Za)) (o5:(List Int)) (o6:(List (den Zb))):Xd.l0 n (m0+1) t0 t1 t2 t7 t8 t9 t11 t12 t13 t14 t135 t136 t137 o0 o1 o2 o3 o4 o5 o6 =
  bif (decide (t137<t136)) then
    if (0:Int)≤t137∧t137<(((List.length t135):Nat):Int) then
    Option.bind (Qi n t8) fun r13 =>
    if (0:Int)≤(List.getD t135 (Int.toNat t137) (0:Int):Int)∧(List.getD t135 (Int.toNat t137) (0:Int):Int)<(((List.length o6):Nat):Int) then
    Xd.l0 n m0 t0 t1 t2 t7 t8 t9 t11 t12 t13 t14 t135 t136 (IntKind.wrap .i64 (t137+1)) o0 o1 o2 o3 o4 o5 (List.set o6 (Int.toNat (List.getD t135 (Int.toNat t137) (0:Int):Int)) r13.1.1:(List (den Zb)))
    else none
    else none
  else
    Xd.l1 n n t0 t1 t2 t7 t8 t9 t11 t12 t13 t14 t135 t136 t137 (o1.2.2.2.2.2.2.2.1:(List Int)) ((List.length (o1.2.2.2.2.2.2.2.1:(List Int))):Int) 0 o0 o1 o2 o3 o4 o5 o6:=by kernel_rfl
theorem Xd.l1_eq (n m0:Nat) (t0_1:(den Za)) (t1_1:Int) (t2_1:(den Zx)) (t7_1:Int) (t8_1:Int) (t9_1:(List Int)) (t11_1:Int) (t12_1:Int) (t13_1:Int) (t14_1:Int) (t135_1:(List Int)) (t136_1:Int) (t137_1:Int) (t149_1:(List Int)) (t150_1:Int) (t151_1:Int) (o0_1:(den Za)) (o1_1:(den Zx)) (o2_1:(den Za)) (o3_1:(List (List Int))) (o4_1:(den Za)) (o5_1:(List Int)) (o6_1:(List (den Zb))):Xd.l1 n (m0+1) t0_1 t1_1 t2_1 t7_1 t8_1 t9_1 t11_1 t12_1 t13_1 t14_1 t135_1 t136_1 t137_1 t149_1 t150_1 t151_1 o0_1 o1_1 o2_1 o3_1 o4_1 o5_1 o6_1 =
  bif (decide (t151_1<t150_1)) then
    if (0:Int)≤t151_1∧t151_1<(((List.length t149_1):Nat):Int) then
    Option.bind (Qi n t1_1) fun r14 =>
    if (0:Int)≤(List.getD t149_1 (Int.toNat t151_1) (0:Int):Int)∧(List.getD t149_1 (Int.toNat t151_1) (0:Int):Int)<(((List.length o6_1):Nat):Int) then
    Xd.l1 n m0 t0_1 t1_1 t2_1 t7_1 t8_1 t9_1 t11_1 t12_1 t13_1 t14_1 t135_1 t136_1 t137_1 t149_1 t150_1 (IntKind.wrap .i64 (t151_1+1)) o0_1 o1_1 o2_1 o3_1 o4_1 o5_1 (List.set o6_1 (Int.toNat (List.getD t149_1 (Int.toNat t151_1) (0:Int):Int)) r14.1.1:(List (den Zb)))
    else none
    else none
  else
    some (((o4_1.1,(o4_1.2.1:(List Int)),o5_1,o6_1,()),0,()),[(0,[2]),(0,[3])]):=by kernel_rfl
theorem Xd.eq (n:Nat) (a0:(den Za)) (a1:Int) (a2:(den Zx)):Xd (n+1) a0 a1 a2 =
  Option.bind (Ke n ([(a2.2.2.2.2.2.1:(List Int)),(a2.2.2.2.2.2.2.2.1:(List Int))]:List (List Int))) fun r1 =>
  Option.bind (Qy n a0 (a2.2.2.2.2.1:Int)) fun r2 =>
  bif (!(r2.1.1:Bool)) then
    some ((a0,3,()),[])
  else
    Option.bind (Xk n (r1.1.1:(List Int)) a0) fun r3 =>
    bif (r3.1.1:Bool) then
      some ((a0,3,()),[])
    else
      bif (decide ((a2.2.2.2.2.1:Int)=a1)) then
        some ((a0,12,()),[])
      else
        if (0:Int)≤(a2.2.2.2.2.1:Int)∧(a2.2.2.2.2.1:Int)<(((List.length (a0.2.1:(List Int))):Nat):Int) then
        if (0:Int)≤a1∧a1<(((List.length (a0.2.1:(List Int))):Nat):Int) then
        bif (!(decide ((List.getD (a0.2.1:(List Int)) (Int.toNat (a2.2.2.2.2.1:Int)) (0:Int):Int)=(List.getD (a0.2.1:(List Int)) (Int.toNat a1) (0:Int):Int)))) then
          some ((a0,5,()),[])
        else
          Option.bind (Xv n (r1.1.1:(List Int))) fun r4 =>
          bif (r4.1.1:Bool) then
            some ((a0,13,()),[])
          else
            Option.bind (Qm n (a2.2.2.2.2.2.1:(List Int)) a1 a0) fun r5 =>
            bif (r5.1.1:Bool) then
              some ((a0,5,()),[])
            else
              Option.bind (Qm n (a2.2.2.2.2.2.2.2.1:(List Int)) (a2.2.2.2.2.1:Int) a0) fun r6 =>
              bif (r6.1.1:Bool) then
                some ((a0,5,()),[])
              else
                Option.bind (Qi n a1) fun r7 =>
                Option.bind (Jy n a0 r7.1.1) fun r8 =>
                bif (decide ((r8.1.1:Int)<(IntKind.wrap .i64 (((List.length (a2.2.2.2.2.2.2.2.1:(List Int))):Int) - ((List.length (a2.2.2.2.2.2.1:(List Int))):Int))))) then
                  some ((a0,9,()),[])
                else
                  Option.bind (Qi n (a2.2.2.2.2.1:Int)) fun r9 =>
                  Option.bind (Jy n a0 r9.1.1) fun r10 =>
                  bif (decide ((r10.1.1:Int)<(IntKind.wrap .i64 (0 - (IntKind.wrap .i64 (((List.length (a2.2.2.2.2.2.2.2.1:(List Int))):Int) - ((List.length (a2.2.2.2.2.2.1:(List Int))):Int))))))) then
                    some ((a0,9,()),[])
                  else
                    if (0:Int)≤a1∧a1<(((List.length (a0.2.2.1:(List Int))):Nat):Int) then
                    if (0:Int)≤(a2.2.2.2.2.1:Int)∧(a2.2.2.2.2.1:Int)<(((List.length (a0.2.2.1:(List Int))):Nat):Int) then
                    Option.bind (K1 n (List.getD (a0.2.2.1:(List Int)) (Int.toNat a1) (0:Int):Int) (List.getD (a0.2.2.1:(List Int)) (Int.toNat (a2.2.2.2.2.1:Int)) (0:Int):Int) (a2.2.2.2.2.2.2.1:Int) (a2.2.2.2.2.2.2.2.2.1:Int)) fun r11 =>
                    bif (!(decide ((r11.1.2.2.1:Int)=0))) then
                      some ((a0,(r11.1.2.2.1:Int),()),[])
                    else
                      Option.bind (J7 n a0) fun r12 =>
                      bif (Zn r12.2 [((0,[2]),5),((0,[3]),6)]) then
                        if (0:Int)≤a1∧a1<(((List.length (r12.1.1.2.2.1:(List Int))):Nat):Int) then
                        if (0:Int)≤(a2.2.2.2.2.1:Int)∧(a2.2.2.2.2.1:Int)<(((List.length (List.set (r12.1.1.2.2.1:(List Int)) (Int.toNat a1) (r11.1.1:Int):(List Int))):Nat):Int) then
                        Xd.l0 n n a0 a1 a2 0 (a2.2.2.2.2.1:Int) (r1.1.1:(List Int)) (IntKind.wrap .i64 (((List.length (a2.2.2.2.2.2.2.2.1:(List Int))):Int) - ((List.length (a2.2.2.2.2.2.1:(List Int))):Int))) (r11.1.1:Int) (r11.1.2.1:Int) (r11.1.2.2.1:Int) (a2.2.2.2.2.2.1:(List Int)) ((List.length (a2.2.2.2.2.2.1:(List Int))):Int) 0 a0 a2 ((([]:List (List Int)),([]:List Int),([]:List Int),([]:List Int),([]:List Bool),0,0,0,()),([]:List Int),([]:List Int),([]:List (den Zb)),()) ([(a2.2.2.2.2.2.1:(List Int)),(a2.2.2.2.2.2.2.2.1:(List Int))]:List (List Int)) (r12.1.1.1,(r12.1.1.2.1:(List Int)),([]:List Int),([]:List (den Zb)),()) (List.set (List.set (r12.1.1.2.2.1:(List Int)) (Int.toNat a1) (r11.1.1:Int):(List Int)) (Int.toNat (a2.2.2.2.2.1:Int)) (r11.1.2.1:Int):(List Int)) (r12.1.1.2.2.2.1:(List (den Zb)))
                        else none
                        else none
                      else
                        none
                    else none
                    else none
        else none
        else none:=by kernel_rfl
@[reducible] def Y5.R:Type:=Xg [.d Zt]×Z1
def Y5 (n:Nat) (a0:Int) (a1:Int) (a2:Int):Option Y5.R:=gc n 87 [.dat (.int .i64) a0 [],.dat (.int .i64) a1 [],.dat (.int .i64) a2 []] [.d Zt]
theorem Y5.eq (n:Nat) (a0:Int) (a1:Int) (a2:Int):Y5 (n+1) a0 a1 a2 =
  bif (!(decide (a2=0))) then
    some (((a2,0,0,([]:List Int),([]:List (den Xn)),0,()),()),[])
  else
    some (((0,a0,a1,([]:List Int),([]:List (den Xn)),0,()),()),[]):=by kernel_rfl
@[reducible] def Jm.R:Type:=Xg [.d Za,.d Zt]×Z1
def Jm (n:Nat) (a0:(den Za)) (a1:Int) (a2:(den Zx)):Option Jm.R:=gc n 91 [.dat Za a0 [],.dat (.int .i64) a1 [],.dat Zx a2 [],.refv (.clo 67 [])] [.d Za,.d Zt]
theorem Jm.eq (n:Nat) (a0:(den Za)) (a1:Int) (a2:(den Zx)):Jm (n+1) a0 a1 a2 =
  Option.bind (Xd n a0 a1 a2) fun r1 =>
  Option.bind (Y5 n (a2.1:Int) 0 (r1.1.2.1:Int)) fun r2 =>
  some ((r1.1.1,r2.1.1,()),[]):=by kernel_rfl
@[reducible] def Hu.R:Type:=Xg [.d Za]×Z1
def Hu (n:Nat) (a0:(den Za)) (a1:Int) (a2:(den Zb)):Option Hu.R:=gc n 107 [.dat Za a0 [],.dat (.int .i64) a1 [],.dat Zb a2 []] [.d Za]
theorem Hu.eq (n:Nat) (a0:(den Za)) (a1:Int) (a2:(den Zb)):Hu (n+1) a0 a1 a2 =
  Option.bind (J7 n a0) fun r1 =>
  bif (Zn r1.2 [((0,[3]),4)]) then
    if (0:Int)≤a1∧a1<(((List.length (r1.1.1.2.2.2.1:(List (den Zb)))):Nat):Int) then
    some (((r1.1.1.1,(r1.1.1.2.1:(List Int)),(r1.1.1.2.2.1:(List Int)),(List.set (r1.1.1.2.2.2.1:(List (den Zb))) (Int.toNat a1) a2:(List (den Zb))),()),()),[(0,[3])])
    else none
  else
    none:=by kernel_rfl
@[reducible] def V9.R:Type:=Xg [.d Za,.d (.int .i64)]×Z1
def V9 (n:Nat) (a0:(den Za)) (a1:Int) (a2:Int) (a3:Int):Option V9.R:=gc n 66 [.dat Za a0 [],.dat (.int .i64) a1 [],.dat (.int .i64) a2 [],.dat (.int .i64) a3 []] [.d Za,.d (.int .i64)]
theorem V9.eq (n:Nat) (a0:(den Za)) (a1:Int) (a2:Int) (a3:Int):V9 (n+1) a0 a1 a2 a3 =
  Option.bind (Hq n a0 a2) fun r1 =>
  bif (!(r1.1.1:Bool)) then
    some ((a0,3,()),[])
  else
    Option.bind (Qy n a0 a3) fun r2 =>
    bif (!(r2.1.1:Bool)) then
      some ((a0,3,()),[])
    else
      bif (decide (a3=a1)) then
        some ((a0,12,()),[])
      else
        if (0:Int)≤a3∧a3<(((List.length (a0.2.1:(List Int))):Nat):Int) then
        if (0:Int)≤a1∧a1<(((List.length (a0.2.1:(List Int))):Nat):Int) then
        bif (!(decide ((List.getD (a0.2.1:(List Int)) (Int.toNat a3) (0:Int):Int)=(List.getD (a0.2.1:(List Int)) (Int.toNat a1) (0:Int):Int)))) then
          some ((a0,5,()),[])
        else
          if (0:Int)≤a2∧a2<(((List.length (a0.2.2.2.1:(List (den Zb)))):Nat):Int) then
          Option.bind (Qi n a1) fun r3 =>
          bif (!(eqT Zb (List.getD (a0.2.2.2.1:(List (den Zb))) (Int.toNat a2) (dft Zb):(den Zb)) r3.1.1)) then
            some ((a0,5,()),[])
          else
            Option.bind (Qi n a3) fun r4 =>
            Option.bind (Jy n a0 r4.1.1) fun r5 =>
            bif (decide ((r5.1.1:Int)<1)) then
              some ((a0,9,()),[])
            else
              Option.bind (Qi n a3) fun r6 =>
              Option.bind (Hu n a0 a2 r6.1.1) fun r7 =>
              some ((r7.1.1,0,()),[])
          else none
        else none
        else none:=by kernel_rfl
@[reducible] def Jo.R:Type:=Xg [.d Za,.d (.int .i64)]×Z1
def Jo (n:Nat) (a0:(den Za)) (a1:Int) (a2:(den Zx)):Option Jo.R:=gc n 65 [.dat Za a0 [],.dat (.int .i64) a1 [],.dat Zx a2 []] [.d Za,.d (.int .i64)]
theorem Jo.eq (n:Nat) (a0:(den Za)) (a1:Int) (a2:(den Zx)):Jo (n+1) a0 a1 a2 =
  Option.bind (V9 n a0 a1 (a2.2.2.1:Int) (a2.2.2.2.2.1:Int)) fun r1 =>
  some ((r1.1.1,(r1.1.2.1:Int),()),[]):=by kernel_rfl
@[reducible] def V4.R:Type:=Xg [.d Za,.d Zt]×Z1
def V4 (n:Nat) (a0:(den Za)) (a1:Int) (a2:(den Zx)):Option V4.R:=gc n 91 [.dat Za a0 [],.dat (.int .i64) a1 [],.dat Zx a2 [],.refv (.clo 65 [])] [.d Za,.d Zt]
theorem V4.eq (n:Nat) (a0:(den Za)) (a1:Int) (a2:(den Zx)):V4 (n+1) a0 a1 a2 =
  Option.bind (Jo n a0 a1 a2) fun r1 =>
  Option.bind (Y5 n (a2.1:Int) 0 (r1.1.2.1:Int)) fun r2 =>
  some ((r1.1.1,r2.1.1,()),[]):=by kernel_rfl
@[reducible] def Js.R:Type:=Xg [.d .bool]×Z1
def Js (n:Nat) (a0:(den Za)) (a1:Int):Option Js.R:=gc n 96 [.dat Za a0 [],.dat (.int .i64) a1 []] [.d .bool]
theorem Js.eq (n:Nat) (a0:(den Za)) (a1:Int):Js (n+1) a0 a1 =
  bif (decide (a1<0)) then
    some ((true,()),[])
  else
    some (((decide (((List.length (a0.2.2.2.1:(List (den Zb)))):Int)≤a1)),()),[]):=by kernel_rfl
@[reducible] def Qb.R:Type:=Xg [.d .bool]×Z1
def Qb (n:Nat) (a0:(den Za)) (a1:Int) (a2:Int):Option Qb.R:=gc n 108 [.ref Za a0,.ref (.int .i64) a1,.ref (.int .i64) a2] [.d .bool]
theorem Qb.eq (n:Nat) (a0:(den Za)) (a1:Int) (a2:Int):Qb (n+1) a0 a1 a2 =
  Option.bind (Js n a0 a1) fun r1 =>
  bif (r1.1.1:Bool) then
    some ((true,()),[])
  else
    Option.bind (Js n a0 a2) fun r2 =>
    some (((r2.1.1:Bool),()),[]):=by kernel_rfl
@[reducible] def Vp.R:Type:=Xg [.d .bool]×Z1
def Vp (n:Nat) (a0:(den Za)) (a1:Int) (a2:Int):Option Vp.R:=gc n 98 [.dat Za a0 [],.dat (.int .i64) a1 [],.dat (.int .i64) a2 []] [.d .bool]
theorem Vp.eq (n:Nat) (a0:(den Za)) (a1:Int) (a2:Int):Vp (n+1) a0 a1 a2 =
  Option.bind (Ko n a0 a2) fun r1 =>
  if (0:Int)≤a1∧a1<(((List.length (a0.2.1:(List Int))):Nat):Int) then
  bif (eqT Zb r1.1.1 (0,(List.getD (a0.2.1:(List Int)) (Int.toNat a1) (0:Int):Int),())) then
    some ((true,()),[])
  else
    some (((eqT Zb r1.1.1 (1,a1,())),()),[])
  else none:=by kernel_rfl
@[reducible] def Jr.R:Type:=Xg [.d .bool]×Z1
def Jr (n:Nat) (a0:(den Za)) (a1:Int) (a2:Int):Option Jr.R:=gc n 109 [.ref Za a0,.ref (.int .i64) a1,.ref (.int .i64) a2] [.d .bool]
theorem Jr.eq (n:Nat) (a0:(den Za)) (a1:Int) (a2:Int):Jr (n+1) a0 a1 a2 =
  Option.bind (Vp n a0 a1 a2) fun r1 =>
  some (((!(r1.1.1:Bool)),()),[]):=by kernel_rfl
@[reducible] def Jf.R:Type:=Xg [.d .bool]×Z1
def Jf (n:Nat) (a0:(den Za)) (a1:Int):Option Jf.R:=gc n 110 [.ref Za a0,.ref (.int .i64) a1] [.d .bool]
theorem Jf.eq (n:Nat) (a0:(den Za)) (a1:Int):Jf (n+1) a0 a1 =
  if (0:Int)≤a1∧a1<(((List.length (a0.1.2.2.2.2.1:(List Bool))):Nat):Int) then
  some (((!(List.getD (a0.1.2.2.2.2.1:(List Bool)) (Int.toNat a1) false:Bool)),()),[])
  else none:=by kernel_rfl
@[reducible] def Jj.R:Type:=Xg [.d .bool]×Z1
def Jj (n:Nat) (a0:(den Za)) (a1:Int) (a2:(den Zb)):Option Jj.R:=gc n 111 [.ref Za a0,.ref (.int .i64) a1,.ref Zb a2] [.d .bool]
theorem Jj.eq (n:Nat) (a0:(den Za)) (a1:Int) (a2:(den Zb)):Jj (n+1) a0 a1 a2 =
  if (0:Int)≤a1∧a1<(((List.length (a0.2.2.2.1:(List (den Zb)))):Nat):Int) then
  some (((!(eqT Zb (List.getD (a0.2.2.2.1:(List (den Zb))) (Int.toNat a1) (dft Zb):(den Zb)) a2)),()),[])
  else none:=by kernel_rfl
@[reducible] def Jh.R:Type:=Xg [.d .bool]×Z1
def Jh (n:Nat) (a0:(den Za)) (a1:(den Zb)):Option Jh.R:=gc n 112 [.ref Za a0,.ref Zb a1] [.d .bool]
theorem Jh.eq (n:Nat) (a0:(den Za)) (a1:(den Zb)):Jh (n+1) a0 a1 =
  Option.bind (Jy n a0 a1) fun r1 =>
  some (((decide ((r1.1.1:Int)<1)),()),[]):=by kernel_rfl
@[reducible] def Q8.R:Type:=Xg [.d (.int .i64)]×Z1
def Q8 (n:Nat) (a0:(den Za)) (a1:Int) (a2:Int) (a3:Int) (a4:(den Za)) (a5:Int) (a6:Int) (a7:Int) (a8:(den Za)) (a9:Int) (a10:Int) (a11:(den Za)) (a12:Int) (a13:(den Zb)) (a14:Int) (a15:(den Za)) (a16:(den Zb)) (a17:Int):Option Q8.R:=gc n 94 [.slv [.agv [.clo 108 [.ref Za a0,.ref (.int .i64) a1,.ref (.int .i64) a2],.dat (.int .i64) a3 []],.agv [.clo 109 [.ref Za a4,.ref (.int .i64) a5,.ref (.int .i64) a6],.dat (.int .i64) a7 []],.agv [.clo 110 [.ref Za a8,.ref (.int .i64) a9],.dat (.int .i64) a10 []],.agv [.clo 111 [.ref Za a11,.ref (.int .i64) a12,.ref Zb a13],.dat (.int .i64) a14 []],.agv [.clo 112 [.ref Za a15,.ref Zb a16],.dat (.int .i64) a17 []]]] [.d (.int .i64)]
theorem Q8.eq (n:Nat) (a0:(den Za)) (a1:Int) (a2:Int) (a3:Int) (a4:(den Za)) (a5:Int) (a6:Int) (a7:Int) (a8:(den Za)) (a9:Int) (a10:Int) (a11:(den Za)) (a12:Int) (a13:(den Zb)) (a14:Int) (a15:(den Za)) (a16:(den Zb)) (a17:Int):Q8 (n+14) a0 a1 a2 a3 a4 a5 a6 a7 a8 a9 a10 a11 a12 a13 a14 a15 a16 a17 =
  Option.bind (Qb (n+13) a0 a1 a2) fun r1 =>
  bif (r1.1.1:Bool) then
    some ((a3,()),[])
  else
    Option.bind (Jr (n+13) a4 a5 a6) fun r2 =>
    bif (r2.1.1:Bool) then
      some ((a7,()),[])
    else
      Option.bind (Jf (n+13) a8 a9) fun r3 =>
      bif (r3.1.1:Bool) then
        some ((a10,()),[])
      else
        Option.bind (Jj (n+13) a11 a12 a13) fun r4 =>
        bif (r4.1.1:Bool) then
          some ((a14,()),[])
        else
          Option.bind (Jh (n+13) a15 a16) fun r5 =>
          bif (r5.1.1:Bool) then
            some ((a17,()),[])
          else
            some ((0,()),[]):=by kernel_rfl
@[reducible] def Ka.R:Type:=Xg [.d Za,.d (.int .i64)]×Z1
def Ka (n:Nat) (a0:(den Za)) (a1:Int) (a2:Int) (a3:Int):Option Ka.R:=gc n 64 [.dat Za a0 [],.dat (.int .i64) a1 [],.dat (.int .i64) a2 [],.dat (.int .i64) a3 []] [.d Za,.d (.int .i64)]
theorem Ka.eq (n:Nat) (a0:(den Za)) (a1:Int) (a2:Int) (a3:Int):Ka (n+1) a0 a1 a2 a3 =
  Option.bind (Q8 n a0 a2 a3 3 a0 a1 a3 5 a0 a3 6 a0 a2 (2,a3,()) 5 a0 (1,a1,()) 9) fun r1 =>
  bif (!(decide ((r1.1.1:Int)=0))) then
    some ((a0,(r1.1.1:Int),()),[])
  else
    Option.bind (Hu n a0 a2 (1,a1,())) fun r2 =>
    some ((r2.1.1,0,()),[]):=by kernel_rfl
@[reducible] def Jc.R:Type:=Xg [.d Za,.d (.int .i64)]×Z1
def Jc (n:Nat) (a0:(den Za)) (a1:Int) (a2:(den Zx)):Option Jc.R:=gc n 63 [.dat Za a0 [],.dat (.int .i64) a1 [],.dat Zx a2 []] [.d Za,.d (.int .i64)]
theorem Jc.eq (n:Nat) (a0:(den Za)) (a1:Int) (a2:(den Zx)):Jc (n+1) a0 a1 a2 =
  Option.bind (Ka n a0 a1 (a2.2.2.1:Int) (a2.2.2.2.1:Int)) fun r1 =>
  some ((r1.1.1,(r1.1.2.1:Int),()),[]):=by kernel_rfl
@[reducible] def V7.R:Type:=Xg [.d Za,.d Zt]×Z1
def V7 (n:Nat) (a0:(den Za)) (a1:Int) (a2:(den Zx)):Option V7.R:=gc n 91 [.dat Za a0 [],.dat (.int .i64) a1 [],.dat Zx a2 [],.refv (.clo 63 [])] [.d Za,.d Zt]
theorem V7.eq (n:Nat) (a0:(den Za)) (a1:Int) (a2:(den Zx)):V7 (n+1) a0 a1 a2 =
  Option.bind (Jc n a0 a1 a2) fun r1 =>
  Option.bind (Y5 n (a2.1:Int) 0 (r1.1.2.1:Int)) fun r2 =>
  some ((r1.1.1,r2.1.1,()),[]):=by kernel_rfl
@[reducible] def Qn.R:Type:=Xg [.d .bool]×Z1
def Qn (n:Nat) (a0:(den Za)) (a1:Int) (a2:Int):Option Qn.R:=gc n 95 [.ref Za a0,.ref (.int .i64) a1,.ref (.int .i64) a2] [.d .bool]
theorem Qn.eq (n:Nat) (a0:(den Za)) (a1:Int) (a2:Int):Qn (n+1) a0 a1 a2 =
  Option.bind (Js n a0 a1) fun r1 =>
  bif (r1.1.1:Bool) then
    some ((true,()),[])
  else
    Option.bind (Js n a0 a2) fun r2 =>
    some (((r2.1.1:Bool),()),[]):=by kernel_rfl
@[reducible] def Vd.R:Type:=Xg [.d .bool]×Z1
def Vd (n:Nat) (a0:(den Za)) (a1:Int) (a2:(den Zb)) (a3:Int) (a4:Int):Option Vd.R:=gc n 97 [.ref Za a0,.ref (.int .i64) a1,.ref Zb a2,.ref (.int .i64) a3,.ref (.int .i64) a4] [.d .bool]
theorem Vd.eq (n:Nat) (a0:(den Za)) (a1:Int) (a2:(den Zb)) (a3:Int) (a4:Int):Vd (n+1) a0 a1 a2 a3 a4 =
  if (0:Int)≤a1∧a1<(((List.length (a0.2.2.2.1:(List (den Zb)))):Nat):Int) then
  bif (!(eqT Zb (List.getD (a0.2.2.2.1:(List (den Zb))) (Int.toNat a1) (dft Zb):(den Zb)) a2)) then
    some ((true,()),[])
  else
    Option.bind (Vp n a0 a3 a4) fun r1 =>
    some (((!(r1.1.1:Bool)),()),[])
  else none:=by kernel_rfl
@[reducible] def Vf.R:Type:=Xg [.d .bool]×Z1
def Vf (n:Nat) (a0:(den Za)) (a1:Int):Option Vf.R:=gc n 99 [.ref Za a0,.ref (.int .i64) a1] [.d .bool]
theorem Vf.eq (n:Nat) (a0:(den Za)) (a1:Int):Vf (n+1) a0 a1 =
  if (0:Int)≤a1∧a1<(((List.length (a0.1.2.2.2.2.1:(List Bool))):Nat):Int) then
  some (((!(List.getD (a0.1.2.2.2.2.1:(List Bool)) (Int.toNat a1) false:Bool)),()),[])
  else none:=by kernel_rfl
@[reducible] def Wy.R:Type:=Xg [.d .bool]×Z1
def Wy (n:Nat) (a0:(den Za)) (a1:Int) (a2:Int):Option Wy.R:=gc n 101 [.dat Za a0 [],.dat (.int .i64) a1 [],.dat (.int .i64) a2 []] [.d .bool]
@[reducible] def J9.R:Type:=Xg [.d .bool]×Z1
def J9 (n:Nat) (a0:(den Za)) (a1:Int) (a2:Int):Option J9.R:=gc n 100 [.ref Za a0,.ref (.int .i64) a1,.ref (.int .i64) a2] [.d .bool]
theorem J9.eq (n:Nat) (a0:(den Za)) (a1:Int) (a2:Int):J9 (n+1) a0 a1 a2 =
  Option.bind (Wy n a0 a1 a2) fun r1 =>
  some (((r1.1.1:Bool),()),[]):=by kernel_rfl
@[reducible] def J2.R:Type:=Xg [.d (.int .i64)]×Z1
def J2 (n:Nat) (a0:(den Za)) (a1:Int):Option J2.R:=gc n 103 [.dat Za a0 [],.dat (.int .i64) a1 []] [.d (.int .i64)]
theorem J2.eq (n:Nat) (a0:(den Za)) (a1:Int):J2 (n+1) a0 a1 =
  Option.bind (Gy n a0 a1) fun r1 =>
  Option.bind (Ja n r1.1.1.1 (r1.1.1.2.1:Int)) fun r2 =>
  some (((IntKind.wrap .i64 (((List.length (r2.1.1:(List (den Zb)))):Int) - 1)),()),[]):=by kernel_rfl
def Xs.res:List Sh:=[.d (.int .i64)]
@[reducible] def Xs.R:Type:=Xg [.d (.int .i64)]×Z1
def Xs (n:Nat) (a0:(den Za)) (a1:Int):Option Xs.R:=gc n 104 [.dat Za a0 [],.dat (.int .i64) a1 []] [.d (.int .i64)]
def Xs.l0 (n m0:Nat) (t0:(den Za)) (t1:Int) (t4:Int) (t5:Int) (t9:Int) (t10:Int) (o0:(den Za)):Option Xs.R :=
  lpN n AMi m0 (Qs 0 (Qj (run (gc n) n) AMl (Xe Xs.fn Xs.res) (Xe Xs.fn Xs.res)) (Xe Xs.fn Xs.res))
    [(0,.dat Za t0 []),(1,.dat (.int .i64) t1 []),(2,.ptr 0 []),(4,.dat (.int .i64) t4 []),(5,.dat (.int .i64) t5 []),(9,.dat (.int .i64) t9 []),(10,.dat (.int .i64) t10 [])]
    [.box Za o0 []]
theorem Xs.l0_eq (n m0:Nat) (t0:(den Za)) (t1:Int) (t4:Int) (t5:Int) (t9:Int) (t10:Int) (o0:(den Za)):Xs.l0 n (m0+1) t0 t1 t4 t5 t9 t10 o0 =
  bif (decide (t10<t9)) then
    Option.bind (Wy n o0 t10 t1) fun r1 =>
    bif (r1.1.1:Bool) then
      Option.bind (J2 n o0 t10) fun r2 =>
      Option.bind (J2 n o0 t1) fun r3 =>
      Xs.l0 n m0 t0 t1 t4 (if t5<(IntKind.wrap .i64 ((r2.1.1:Int) - (r3.1.1:Int))) then (IntKind.wrap .i64 ((r2.1.1:Int) - (r3.1.1:Int))) else t5) t9 (IntKind.wrap .i64 (t10+1)) o0
    else
      Xs.l0 n m0 t0 t1 t4 t5 t9 (IntKind.wrap .i64 (t10+1)) o0
  else
    some ((t5,()),[]):=by kernel_rfl
theorem Xs.eq (n:Nat) (a0:(den Za)) (a1:Int):Xs (n+1) a0 a1 =
  Xs.l0 n n a0 a1 0 0 ((List.length (a0.2.2.2.1:(List (den Zb)))):Int) 0 a0:=by kernel_rfl
@[reducible] def Vb.R:Type:=Xg [.d .bool]×Z1
def Vb (n:Nat) (a0:(den Za)) (a1:Int) (a2:Int):Option Vb.R:=gc n 102 [.ref Za a0,.ref (.int .i64) a1,.ref (.int .i64) a2] [.d .bool]
theorem Vb.eq (n:Nat) (a0:(den Za)) (a1:Int) (a2:Int):Vb (n+1) a0 a1 a2 =
  Option.bind (J2 n a0 a1) fun r1 =>
  Option.bind (Xs n a0 a2) fun r2 =>
  some (((decide (4<(IntKind.wrap .i64 ((IntKind.wrap .i64 ((r1.1.1:Int)+1))+(r2.1.1:Int))))),()),[]):=by kernel_rfl
@[reducible] def Va.R:Type:=Xg [.d .bool]×Z1
def Va (n:Nat) (a0:(den Za)) (a1:(den Zb)):Option Va.R:=gc n 105 [.ref Za a0,.ref Zb a1] [.d .bool]
theorem Va.eq (n:Nat) (a0:(den Za)) (a1:(den Zb)):Va (n+1) a0 a1 =
  Option.bind (Jy n a0 a1) fun r1 =>
  some (((decide ((r1.1.1:Int)<1)),()),[]):=by kernel_rfl
@[reducible] def Qu.R:Type:=Xg [.d (.int .i64)]×Z1
def Qu (n:Nat) (a0:(den Za)) (a1:Int) (a2:Int) (a3:Int) (a4:(den Za)) (a5:Int) (a6:(den Zb)) (a7:Int) (a8:Int) (a9:Int) (a10:(den Za)) (a11:Int) (a12:Int) (a13:(den Za)) (a14:Int) (a15:Int) (a16:Int) (a17:(den Za)) (a18:Int) (a19:Int) (a20:Int) (a21:(den Za)) (a22:(den Zb)) (a23:Int):Option Qu.R:=gc n 94 [.slv [.agv [.clo 95 [.ref Za a0,.ref (.int .i64) a1,.ref (.int .i64) a2],.dat (.int .i64) a3 []],.agv [.clo 97 [.ref Za a4,.ref (.int .i64) a5,.ref Zb a6,.ref (.int .i64) a7,.ref (.int .i64) a8],.dat (.int .i64) a9 []],.agv [.clo 99 [.ref Za a10,.ref (.int .i64) a11],.dat (.int .i64) a12 []],.agv [.clo 100 [.ref Za a13,.ref (.int .i64) a14,.ref (.int .i64) a15],.dat (.int .i64) a16 []],.agv [.clo 102 [.ref Za a17,.ref (.int .i64) a18,.ref (.int .i64) a19],.dat (.int .i64) a20 []],.agv [.clo 105 [.ref Za a21,.ref Zb a22],.dat (.int .i64) a23 []]]] [.d (.int .i64)]
theorem Qu.eq (n:Nat) (a0:(den Za)) (a1:Int) (a2:Int) (a3:Int) (a4:(den Za)) (a5:Int) (a6:(den Zb)) (a7:Int) (a8:Int) (a9:Int) (a10:(den Za)) (a11:Int) (a12:Int) (a13:(den Za)) (a14:Int) (a15:Int) (a16:Int) (a17:(den Za)) (a18:Int) (a19:Int) (a20:Int) (a21:(den Za)) (a22:(den Zb)) (a23:Int):Qu (n+14) a0 a1 a2 a3 a4 a5 a6 a7 a8 a9 a10 a11 a12 a13 a14 a15 a16 a17 a18 a19 a20 a21 a22 a23 =
  Option.bind (Qn (n+13) a0 a1 a2) fun r1 =>
  bif (r1.1.1:Bool) then
    some ((a3,()),[])
  else
    Option.bind (Vd (n+13) a4 a5 a6 a7 a8) fun r2 =>
    bif (r2.1.1:Bool) then
      some ((a9,()),[])
    else
      Option.bind (Vf (n+13) a10 a11) fun r3 =>
      bif (r3.1.1:Bool) then
        some ((a12,()),[])
      else
        Option.bind (J9 (n+13) a13 a14 a15) fun r4 =>
        bif (r4.1.1:Bool) then
          some ((a16,()),[])
        else
          Option.bind (Vb (n+13) a17 a18 a19) fun r5 =>
          bif (r5.1.1:Bool) then
            some ((a20,()),[])
          else
            Option.bind (Va (n+13) a21 a22) fun r6 =>
            bif (r6.1.1:Bool) then
              some ((a23,()),[])
            else
              some ((0,()),[]):=by kernel_rfl
@[reducible] def K0.R:Type:=Xg [.d Za,.d (.int .i64)]×Z1
def K0 (n:Nat) (a0:(den Za)) (a1:Int) (a2:Int) (a3:Int):Option K0.R:=gc n 62 [.dat Za a0 [],.dat (.int .i64) a1 [],.dat (.int .i64) a2 [],.dat (.int .i64) a3 []] [.d Za,.d (.int .i64)]
theorem K0.eq (n:Nat) (a0:(den Za)) (a1:Int) (a2:Int) (a3:Int):K0 (n+1) a0 a1 a2 a3 =
  Option.bind (Qu n a0 a2 a3 3 a0 a2 (1,a1,()) a1 a3 5 a0 a3 6 a0 a3 a2 7 a0 a3 a2 8 a0 (2,a3,()) 9) fun r1 =>
  bif (!(decide ((r1.1.1:Int)=0))) then
    some ((a0,(r1.1.1:Int),()),[])
  else
    Option.bind (Hu n a0 a2 (2,a3,())) fun r2 =>
    some ((r2.1.1,0,()),[]):=by kernel_rfl
@[reducible] def Ji.R:Type:=Xg [.d Za,.d (.int .i64)]×Z1
def Ji (n:Nat) (a0:(den Za)) (a1:Int) (a2:(den Zx)):Option Ji.R:=gc n 61 [.dat Za a0 [],.dat (.int .i64) a1 [],.dat Zx a2 []] [.d Za,.d (.int .i64)]
theorem Ji.eq (n:Nat) (a0:(den Za)) (a1:Int) (a2:(den Zx)):Ji (n+1) a0 a1 a2 =
  Option.bind (K0 n a0 a1 (a2.2.2.1:Int) (a2.2.2.2.1:Int)) fun r1 =>
  some ((r1.1.1,(r1.1.2.1:Int),()),[]):=by kernel_rfl
@[reducible] def Kb.R:Type:=Xg [.d Za,.d Zt]×Z1
def Kb (n:Nat) (a0:(den Za)) (a1:Int) (a2:(den Zx)):Option Kb.R:=gc n 91 [.dat Za a0 [],.dat (.int .i64) a1 [],.dat Zx a2 [],.refv (.clo 61 [])] [.d Za,.d Zt]
theorem Kb.eq (n:Nat) (a0:(den Za)) (a1:Int) (a2:(den Zx)):Kb (n+1) a0 a1 a2 =
  Option.bind (Ji n a0 a1 a2) fun r1 =>
  Option.bind (Y5 n (a2.1:Int) 0 (r1.1.2.1:Int)) fun r2 =>
  some ((r1.1.1,r2.1.1,()),[]):=by kernel_rfl
@[reducible] def Ju.R:Type:=Xg [.d Zb,.d Zb]×Z1
def Ju (n:Nat) (a0:(den Za)) (a1:Int):Option Ju.R:=gc n 92 [.dat Za a0 [],.dat (.int .i64) a1 []] [.d Zb,.d Zb]
theorem Ju.eq (n:Nat) (a0:(den Za)) (a1:Int):Ju (n+1) a0 a1 =
  if (0:Int)≤a1∧a1<(((List.length (a0.2.1:(List Int))):Nat):Int) then
  some (((0,(List.getD (a0.2.1:(List Int)) (Int.toNat a1) (0:Int):Int),()),(1,a1,()),()),[])
  else none:=by kernel_rfl
@[reducible] def Kq.R:Type:=Xg [.d Za,.d (.int .i64)]×Z1
def Kq (n:Nat) (a0:(den Za)) (a1:Int) (a2:(den Zb)) (a3:(den Zb)):Option Kq.R:=gc n 93 [.dat Za a0 [],.dat (.int .i64) a1 [],.dat Zb a2 [],.dat Zb a3 []] [.d Za,.d (.int .i64)]
theorem Kq.eq (n:Nat) (a0:(den Za)) (a1:Int) (a2:(den Zb)) (a3:(den Zb)):Kq (n+1) a0 a1 a2 a3 =
  bif (decide (a1<0)) then
    some ((a0,3,()),[])
  else
    bif (decide (((List.length (a0.2.2.2.1:(List (den Zb)))):Int)≤a1)) then
      some ((a0,3,()),[])
    else
      if (0:Int)≤a1∧a1<(((List.length (a0.2.2.2.1:(List (den Zb)))):Nat):Int) then
      bif (!(eqT Zb (List.getD (a0.2.2.2.1:(List (den Zb))) (Int.toNat a1) (dft Zb):(den Zb)) a2)) then
        some ((a0,5,()),[])
      else
        Option.bind (Jy n a0 a3) fun r1 =>
        bif (decide ((r1.1.1:Int)<1)) then
          some ((a0,9,()),[])
        else
          Option.bind (Hu n a0 a1 a3) fun r2 =>
          some ((r2.1.1,0,()),[])
      else none:=by kernel_rfl
@[reducible] def K8.R:Type:=Xg [.d Za,.d (.int .i64)]×Z1
def K8 (n:Nat) (a0:(den Za)) (a1:Int) (a2:Int):Option K8.R:=gc n 60 [.dat Za a0 [],.dat (.int .i64) a1 [],.dat (.int .i64) a2 []] [.d Za,.d (.int .i64)]
theorem K8.eq (n:Nat) (a0:(den Za)) (a1:Int) (a2:Int):K8 (n+1) a0 a1 a2 =
  Option.bind (Ju n a0 a1) fun r1 =>
  Option.bind (Kq n a0 a2 r1.1.2.1 r1.1.1) fun r2 =>
  some ((r2.1.1,(r2.1.2.1:Int),()),[]):=by kernel_rfl
@[reducible] def Jp.R:Type:=Xg [.d Za,.d (.int .i64)]×Z1
def Jp (n:Nat) (a0:(den Za)) (a1:Int) (a2:(den Zx)):Option Jp.R:=gc n 59 [.dat Za a0 [],.dat (.int .i64) a1 [],.dat Zx a2 []] [.d Za,.d (.int .i64)]
theorem Jp.eq (n:Nat) (a0:(den Za)) (a1:Int) (a2:(den Zx)):Jp (n+1) a0 a1 a2 =
  Option.bind (K8 n a0 a1 (a2.2.2.1:Int)) fun r1 =>
  some ((r1.1.1,(r1.1.2.1:Int),()),[]):=by kernel_rfl
@[reducible] def Kc.R:Type:=Xg [.d Za,.d Zt]×Z1
def Kc (n:Nat) (a0:(den Za)) (a1:Int) (a2:(den Zx)):Option Kc.R:=gc n 91 [.dat Za a0 [],.dat (.int .i64) a1 [],.dat Zx a2 [],.refv (.clo 59 [])] [.d Za,.d Zt]
theorem Kc.eq (n:Nat) (a0:(den Za)) (a1:Int) (a2:(den Zx)):Kc (n+1) a0 a1 a2 =
  Option.bind (Jp n a0 a1 a2) fun r1 =>
  Option.bind (Y5 n (a2.1:Int) 0 (r1.1.2.1:Int)) fun r2 =>
  some ((r1.1.1,r2.1.1,()),[]):=by kernel_rfl
@[reducible] def H8.R:Type:=Xg [.d Za,.d (.int .i64)]×Z1
def H8 (n:Nat) (a0:(den Za)) (a1:Int) (a2:Int):Option H8.R:=gc n 58 [.dat Za a0 [],.dat (.int .i64) a1 [],.dat (.int .i64) a2 []] [.d Za,.d (.int .i64)]
theorem H8.eq (n:Nat) (a0:(den Za)) (a1:Int) (a2:Int):H8 (n+1) a0 a1 a2 =
  Option.bind (Ju n a0 a1) fun r1 =>
  Option.bind (Kq n a0 a2 r1.1.1 r1.1.2.1) fun r2 =>
  some ((r2.1.1,(r2.1.2.1:Int),()),[]):=by kernel_rfl
@[reducible] def Je.R:Type:=Xg [.d Za,.d (.int .i64)]×Z1
def Je (n:Nat) (a0:(den Za)) (a1:Int) (a2:(den Zx)):Option Je.R:=gc n 57 [.dat Za a0 [],.dat (.int .i64) a1 [],.dat Zx a2 []] [.d Za,.d (.int .i64)]
theorem Je.eq (n:Nat) (a0:(den Za)) (a1:Int) (a2:(den Zx)):Je (n+1) a0 a1 a2 =
  Option.bind (H8 n a0 a1 (a2.2.2.1:Int)) fun r1 =>
  some ((r1.1.1,(r1.1.2.1:Int),()),[]):=by kernel_rfl
@[reducible] def V3.R:Type:=Xg [.d Za,.d Zt]×Z1
def V3 (n:Nat) (a0:(den Za)) (a1:Int) (a2:(den Zx)):Option V3.R:=gc n 91 [.dat Za a0 [],.dat (.int .i64) a1 [],.dat Zx a2 [],.refv (.clo 57 [])] [.d Za,.d Zt]
theorem V3.eq (n:Nat) (a0:(den Za)) (a1:Int) (a2:(den Zx)):V3 (n+1) a0 a1 a2 =
  Option.bind (Je n a0 a1 a2) fun r1 =>
  Option.bind (Y5 n (a2.1:Int) 0 (r1.1.2.1:Int)) fun r2 =>
  some ((r1.1.1,r2.1.1,()),[]):=by kernel_rfl
@[reducible] def Ga.R:Type:=Xg [.clo 128 [.refv (.clo 90 [.ref (.int .i64),.ref Za,.ref (.int .i64)]),.ref Za,.ref (.int .i64)]]×Z1
def Ga (n:Nat) (a0:(den Za)) (a1:Int) (a2:Int) (a3:(den Za)) (a4:Int):Option Ga.R:=gc n 88 [.dat Za a0 [],.dat (.int .i64) a1 [],.clo 90 [.ref (.int .i64) a2,.ref Za a3,.ref (.int .i64) a4]] [.clo 128 [.refv (.clo 90 [.ref (.int .i64),.ref Za,.ref (.int .i64)]),.ref Za,.ref (.int .i64)]]
theorem Ga.eq (n:Nat) (a0:(den Za)) (a1:Int) (a2:Int) (a3:(den Za)) (a4:Int):Ga (n+1) a0 a1 a2 a3 a4 =
  some ((((a2,a3,a4,()),a0,a1,()),()),[]):=by kernel_rfl
@[reducible] def Ve.R:Type:=Xg [.d (.int .i64)]×Z1
def Ve (n:Nat) (a0:Int) (a1:(den Za)) (a2:Int):Option Ve.R:=gc n 90 [.ref (.int .i64) a0,.ref Za a1,.ref (.int .i64) a2] [.d (.int .i64)]
theorem Ve.eq (n:Nat) (a0:Int) (a1:(den Za)) (a2:Int):Ve (n+1) a0 a1 a2 =
  bif (decide (a0<0)) then
    some ((3,()),[])
  else
    bif (decide (((List.length (a1.2.1:(List Int))):Int)≤a0)) then
      some ((3,()),[])
    else
      bif (decide (a0=a2)) then
        some ((12,()),[])
      else
        if (0:Int)≤a0∧a0<(((List.length (a1.2.1:(List Int))):Nat):Int) then
        if (0:Int)≤a2∧a2<(((List.length (a1.2.1:(List Int))):Nat):Int) then
        bif (!(decide ((List.getD (a1.2.1:(List Int)) (Int.toNat a0) (0:Int):Int)=(List.getD (a1.2.1:(List Int)) (Int.toNat a2) (0:Int):Int)))) then
          some ((5,()),[])
        else
          some ((0,()),[])
        else none
        else none:=by kernel_rfl
@[reducible] def Vx.R:Type:=Xg [.d (.int .i64),.d .bool]×Z1
def Vx (n:Nat) (a0:(den Za)) (a1:Int) (a2:Int):Option Vx.R:=gc n 129 [.dat Za a0 [],.dat (.int .i64) a1 [],.dat (.int .i64) a2 []] [.d (.int .i64),.d .bool]
theorem Vx.eq (n:Nat) (a0:(den Za)) (a1:Int) (a2:Int):Vx (n+1) a0 a1 a2 =
  if (0:Int)≤a1∧a1<(((List.length (a0.1.1:(List (List Int)))):Nat):Int) then
  if (0:Int)≤a2∧a2<((4:Nat):Int) then
  some (((if (List.getD (List.getD (a0.1.1:(List (List Int))) (Int.toNat a1) (dft (.arr 4 (.int .i64))):(List Int)) (Int.toNat a2) (0:Int):Int)<0 then 0 else (List.getD (List.getD (a0.1.1:(List (List Int))) (Int.toNat a1) (dft (.arr 4 (.int .i64))):(List Int)) (Int.toNat a2) (0:Int):Int)),(decide (0≤(List.getD (List.getD (a0.1.1:(List (List Int))) (Int.toNat a1) (dft (.arr 4 (.int .i64))):(List Int)) (Int.toNat a2) (0:Int):Int))),()),[])
  else none
  else none:=by kernel_rfl
@[reducible] def K3.R:Type:=Xg [.d Za,.d (.int .i64),.d (.int .i64)]×Z1
def K3 (n:Nat) (a0:Int) (a1:Int) (a2:(den Za)) (a3:Int) (a4:(den Za)) (a5:Int):Option K3.R:=gc n 128 [.dat (.int .i64) a0 [],.refv (.clo 90 [.ref (.int .i64) a1,.ref Za a2,.ref (.int .i64) a3]),.ref Za a4,.ref (.int .i64) a5] [.d Za,.d (.int .i64),.d (.int .i64)]
theorem K3.eq (n:Nat) (a0:Int) (a1:Int) (a2:(den Za)) (a3:Int) (a4:(den Za)) (a5:Int):K3 (n+1) a0 a1 a2 a3 a4 a5 =
  Option.bind (Ve n a1 a2 a3) fun r1 =>
  bif (!(decide ((r1.1.1:Int)=0))) then
    some ((a4,0,(r1.1.1:Int),()),[])
  else
    if (0:Int)≤a0∧a0<(((List.length (a4.2.1:(List Int))):Nat):Int) then
    Option.bind (Vx n a4 (List.getD (a4.2.1:(List Int)) (Int.toNat a0) (0:Int):Int) a5) fun r2 =>
    bif (!(r2.1.2.1:Bool)) then
      some ((a4,0,4,()),[])
    else
      Option.bind (J7 n a4) fun r3 =>
      bif (Zn r3.2 [((0,[1]),2)]) then
        if (0:Int)≤a0∧a0<(((List.length (r3.1.1.2.1:(List Int))):Nat):Int) then
        some (((r3.1.1.1,(List.set (r3.1.1.2.1:(List Int)) (Int.toNat a0) (r2.1.1:Int):(List Int)),(r3.1.1.2.2.1:(List Int)),(r3.1.1.2.2.2.1:(List (den Zb))),()),(r2.1.1:Int),0,()),[(0,[1])])
        else none
      else
        none
    else none:=by kernel_rfl
@[reducible] def K7.R:Type:=Xg [.d Za,.d (.int .i64),.d (.int .i64)]×Z1
def K7 (n:Nat) (a0:(den Za)) (a1:Int) (a2:Int) (a3:Int):Option K7.R:=gc n 55 [.dat Za a0 [],.dat (.int .i64) a1 [],.dat (.int .i64) a2 [],.dat (.int .i64) a3 []] [.d Za,.d (.int .i64),.d (.int .i64)]
theorem K7.eq (n:Nat) (a0:(den Za)) (a1:Int) (a2:Int) (a3:Int):K7 (n+1) a0 a1 a2 a3 =
  Option.bind (Ga n a0 a3 a2 a0 a1) fun r1 =>
  Option.bind (K3 n a2 (r1.1.1.1.1:Int) r1.1.1.1.2.1 (r1.1.1.1.2.2.1:Int) r1.1.1.2.1 (r1.1.1.2.2.1:Int)) fun r2 =>
  some ((r2.1.1,(r2.1.2.1:Int),(r2.1.2.2.1:Int),()),[]):=by kernel_rfl
@[reducible] def Jl.R:Type:=Xg [.d Za,.d (.int .i64),.d (.int .i64)]×Z1
def Jl (n:Nat) (a0:(den Za)) (a1:Int) (a2:(den Zx)):Option Jl.R:=gc n 54 [.dat Za a0 [],.dat (.int .i64) a1 [],.dat Zx a2 []] [.d Za,.d (.int .i64),.d (.int .i64)]
theorem Jl.eq (n:Nat) (a0:(den Za)) (a1:Int) (a2:(den Zx)):Jl (n+1) a0 a1 a2 =
  Option.bind (K7 n a0 a1 (a2.2.2.2.2.1:Int) (a2.2.1:Int)) fun r1 =>
  some ((r1.1.1,(r1.1.2.1:Int),(r1.1.2.2.1:Int),()),[]):=by kernel_rfl
@[reducible] def Jq.R:Type:=Xg [.d Za,.d Zt]×Z1
def Jq (n:Nat) (a0:(den Za)) (a1:Int) (a2:(den Zx)):Option Jq.R:=gc n 86 [.dat Za a0 [],.dat (.int .i64) a1 [],.dat Zx a2 [],.refv (.clo 54 [])] [.d Za,.d Zt]
theorem Jq.eq (n:Nat) (a0:(den Za)) (a1:Int) (a2:(den Zx)):Jq (n+1) a0 a1 a2 =
  Option.bind (Jl n a0 a1 a2) fun r1 =>
  Option.bind (Y5 n (a2.1:Int) (r1.1.2.1:Int) (r1.1.2.2.1:Int)) fun r2 =>
  some ((r1.1.1,r2.1.1,()),[]):=by kernel_rfl
@[reducible] def Ks.R:Type:=Xg [.clo 128 [.refv (.clo 89 []),.ref Za,.ref (.int .i64)]]×Z1
def Ks (n:Nat) (a0:(den Za)) (a1:Int):Option Ks.R:=gc n 88 [.dat Za a0 [],.dat (.int .i64) a1 [],.clo 89 []] [.clo 128 [.refv (.clo 89 []),.ref Za,.ref (.int .i64)]]
theorem Ks.eq (n:Nat) (a0:(den Za)) (a1:Int):Ks (n+1) a0 a1 =
  some ((((()),a0,a1,()),()),[]):=by kernel_rfl
@[reducible] def Vt.R:Type:=Xg [.d (.int .i64)]×Z1
def Vt (n:Nat):Option Vt.R:=gc n 89 [] [.d (.int .i64)]
theorem Vt.eq (n:Nat):Vt (n+1) =
  some ((0,()),[]):=by kernel_rfl
@[reducible] def Jg.R:Type:=Xg [.d Za,.d (.int .i64),.d (.int .i64)]×Z1
def Jg (n:Nat) (a0:Int) (a1:(den Za)) (a2:Int):Option Jg.R:=gc n 128 [.dat (.int .i64) a0 [],.refv (.clo 89 []),.ref Za a1,.ref (.int .i64) a2] [.d Za,.d (.int .i64),.d (.int .i64)]
theorem Jg.eq (n:Nat) (a0:Int) (a1:(den Za)) (a2:Int):Jg (n+1) a0 a1 a2 =
  Option.bind (Vt n) fun r1 =>
  bif (!(decide ((r1.1.1:Int)=0))) then
    some ((a1,0,(r1.1.1:Int),()),[])
  else
    if (0:Int)≤a0∧a0<(((List.length (a1.2.1:(List Int))):Nat):Int) then
    Option.bind (Vx n a1 (List.getD (a1.2.1:(List Int)) (Int.toNat a0) (0:Int):Int) a2) fun r2 =>
    bif (!(r2.1.2.1:Bool)) then
      some ((a1,0,4,()),[])
    else
      Option.bind (J7 n a1) fun r3 =>
      bif (Zn r3.2 [((0,[1]),2)]) then
        if (0:Int)≤a0∧a0<(((List.length (r3.1.1.2.1:(List Int))):Nat):Int) then
        some (((r3.1.1.1,(List.set (r3.1.1.2.1:(List Int)) (Int.toNat a0) (r2.1.1:Int):(List Int)),(r3.1.1.2.2.1:(List Int)),(r3.1.1.2.2.2.1:(List (den Zb))),()),(r2.1.1:Int),0,()),[(0,[1])])
        else none
      else
        none
    else none:=by kernel_rfl
@[reducible] def K4.R:Type:=Xg [.d Za,.d (.int .i64),.d (.int .i64)]×Z1
def K4 (n:Nat) (a0:(den Za)) (a1:Int) (a2:Int):Option K4.R:=gc n 53 [.dat Za a0 [],.dat (.int .i64) a1 [],.dat (.int .i64) a2 []] [.d Za,.d (.int .i64),.d (.int .i64)]
theorem K4.eq (n:Nat) (a0:(den Za)) (a1:Int) (a2:Int):K4 (n+1) a0 a1 a2 =
  Option.bind (Ks n a0 a2) fun r1 =>
  Option.bind (Jg n a1 r1.1.1.2.1 (r1.1.1.2.2.1:Int)) fun r2 =>
  some ((r2.1.1,(r2.1.2.1:Int),(r2.1.2.2.1:Int),()),[]):=by kernel_rfl
@[reducible] def Jn.R:Type:=Xg [.d Za,.d (.int .i64),.d (.int .i64)]×Z1
def Jn (n:Nat) (a0:(den Za)) (a1:Int) (a2:(den Zx)):Option Jn.R:=gc n 52 [.dat Za a0 [],.dat (.int .i64) a1 [],.dat Zx a2 []] [.d Za,.d (.int .i64),.d (.int .i64)]
theorem Jn.eq (n:Nat) (a0:(den Za)) (a1:Int) (a2:(den Zx)):Jn (n+1) a0 a1 a2 =
  Option.bind (K4 n a0 a1 (a2.2.1:Int)) fun r1 =>
  some ((r1.1.1,(r1.1.2.1:Int),(r1.1.2.2.1:Int),()),[]):=by kernel_rfl
@[reducible] def V6.R:Type:=Xg [.d Za,.d Zt]×Z1
def V6 (n:Nat) (a0:(den Za)) (a1:Int) (a2:(den Zx)):Option V6.R:=gc n 86 [.dat Za a0 [],.dat (.int .i64) a1 [],.dat Zx a2 [],.refv (.clo 52 [])] [.d Za,.d Zt]
theorem V6.eq (n:Nat) (a0:(den Za)) (a1:Int) (a2:(den Zx)):V6 (n+1) a0 a1 a2 =
  Option.bind (Jn n a0 a1 a2) fun r1 =>
  Option.bind (Y5 n (a2.1:Int) (r1.1.2.1:Int) (r1.1.2.2.1:Int)) fun r2 =>
  some ((r1.1.1,r2.1.1,()),[]):=by kernel_rfl
@[reducible] def Vh.R:Type:=Xg [.d Za,.d Zt]×Z1
def Vh (n:Nat) (a0:(den Za)) (a1:Int) (a2:(den Zx)):Option Vh.R:=gc n 10 [.dat Za a0 [],.dat (.int .i64) a1 [],.dat Zx a2 []] [.d Za,.d Zt]
theorem Vh.eq (n:Nat) (a0:(den Za)) (a1:Int) (a2:(den Zx)):Vh (n+1) a0 a1 a2 =
  Option.bind (H0 n a2) fun r1 =>
  bif (!(r1.1.1:Bool)) then
    some ((a0,(2,0,0,([]:List Int),([]:List (den Xn)),0,()),()),[])
  else
    Option.bind (T4 n) fun r2 =>
    bif (decide ((a2.1:Int)=1)) then
      Option.bind (V6 n a0 a1 a2) fun r12 =>
      some ((r12.1.1,r12.1.2.1,()),[])
    else
      bif (decide ((a2.1:Int)=2)) then
        Option.bind (Jq n a0 a1 a2) fun r11 =>
        some ((r11.1.1,r11.1.2.1,()),[])
      else
        bif (decide ((a2.1:Int)=3)) then
          Option.bind (V3 n a0 a1 a2) fun r10 =>
          some ((r10.1.1,r10.1.2.1,()),[])
        else
          bif (decide ((a2.1:Int)=4)) then
            Option.bind (Kc n a0 a1 a2) fun r9 =>
            some ((r9.1.1,r9.1.2.1,()),[])
          else
            bif (decide ((a2.1:Int)=5)) then
              Option.bind (Kb n a0 a1 a2) fun r8 =>
              some ((r8.1.1,r8.1.2.1,()),[])
            else
              bif (decide ((a2.1:Int)=6)) then
                Option.bind (V7 n a0 a1 a2) fun r7 =>
                some ((r7.1.1,r7.1.2.1,()),[])
              else
                bif (decide ((a2.1:Int)=7)) then
                  Option.bind (V4 n a0 a1 a2) fun r6 =>
                  some ((r6.1.1,r6.1.2.1,()),[])
                else
                  bif (decide ((a2.1:Int)=8)) then
                    Option.bind (Jm n a0 a1 a2) fun r5 =>
                    some ((r5.1.1,r5.1.2.1,()),[])
                  else
                    bif (decide ((a2.1:Int)=9)) then
                      Option.bind (Vn n a0 a1 a2) fun r4 =>
                      some ((r4.1.1,r4.1.2.1,()),[])
                    else
                      bif (decide ((a2.1:Int)=10)) then
                        Option.bind (Qv n a0 a1 a2) fun r3 =>
                        some ((r3.1.1,r3.1.2.1,()),[])
                      else
                        none:=by kernel_rfl
@[reducible] def Re.R:Type:=Xg [.d Za,.d (.sl Zt)]×Z1
def Re (n:Nat) (a0:(den Za)) (a1:(List (den Nc))):Option Re.R:=gc n 19 [.dat Za a0 [],.dat (.sl Nc) a1 []] [.d Za,.d (.sl Zt)]
def Z2.res:List Sh:=[.d .bool]
@[reducible] def Z2.R:Type:=Xg [.d .bool]×Z1
def Z2 (n:Nat) (a0:(List Int)) (a1:(List Int)):Option Z2.R:=gc n 33 [.dat (.sl (.int .i64)) a0 [],.dat (.sl (.int .i64)) a1 []] [.d .bool]
def Z2.l0 (n m0:Nat) (t0:(List Int)) (t1:(List Int)) (t4:Bool) (t5:Int):Option Z2.R :=
  lpN n ATm m0 (Qs 0 (Qj (run (gc n) n) ATe (Xe Z2.fn Z2.res) (Xe Z2.fn Z2.res)) (Xe Z2.fn Z2.res))
    [(0,.dat (.sl (.int .i64)) t0 []),(1,.dat (.sl (.int .i64)) t1 []),(4,.dat .bool t4 []),(5,.dat (.int .i64) t5 [])]
    []
theorem Z2.l0_eq (n m0:Nat) (t0:(List Int)) (t1:(List Int)) (t4:Bool) (t5:Int):Z2.l0 n (m0+1) t0 t1 t4 t5 =
  bif (decide (t5<((List.length t0):Int))) then
    if (0:Int)≤t5∧t5<(((List.length t0):Nat):Int) then
    if (0:Int)≤t5∧t5<(((List.length t1):Nat):Int) then
    bif (!(decide ((List.getD t0 (Int.toNat t5) (0:Int):Int)=(List.getD t1 (Int.toNat t5) (0:Int):Int)))) then
      some ((false,()),[])
    else
      Z2.l0 n m0 t0 t1 t4 (IntKind.wrap .i64 (t5+1))
    else none
    else none
  else
    some ((true,()),[]):=by kernel_rfl
theorem Z2.eq (n:Nat) (a0:(List Int)) (a1:(List Int)):Z2 (n+1) a0 a1 =
  bif (!(decide (((List.length a0):Int)=((List.length a1):Int)))) then
    some ((false,()),[])
  else
    Z2.l0 n n a0 a1 false 0:=by kernel_rfl
def Z9.res:List Sh:=[.d .bool]
@[reducible] def Z9.R:Type:=Xg [.d .bool]×Z1
def Z9 (n:Nat) (a0:(List (den Xn))) (a1:(List (den Xn))):Option Z9.R:=gc n 35 [.dat (.sl Xn) a0 [],.dat (.sl Xn) a1 []] [.d .bool]
def Z9.l0 (n m0:Nat) (t0:(List (den Xn))) (t1:(List (den Xn))) (t4:Bool) (t5:Int):Option Z9.R :=
  lpN n ATd m0 (Qs 0 (Qj (run (gc n) n) ATc (Xe Z9.fn Z9.res) (Xe Z9.fn Z9.res)) (Xe Z9.fn Z9.res))
    [(0,.dat (.sl Xn) t0 []),(1,.dat (.sl Xn) t1 []),(4,.dat .bool t4 []),(5,.dat (.int .i64) t5 [])]
    []
theorem Z9.l0_eq (n m0:Nat) (t0:(List (den Xn))) (t1:(List (den Xn))) (t4:Bool) (t5:Int):Z9.l0 n (m0+1) t0 t1 t4 t5 =
  bif (decide (t5<((List.length t0):Int))) then
    if (0:Int)≤t5∧t5<(((List.length t0):Nat):Int) then
    if (0:Int)≤t5∧t5<(((List.length t1):Nat):Int) then
    bif (!(eqT Xn (List.getD t0 (Int.toNat t5) (dft Xn):(den Xn)) (List.getD t1 (Int.toNat t5) (dft Xn):(den Xn)))) then
      some ((false,()),[])
    else
      Z9.l0 n m0 t0 t1 t4 (IntKind.wrap .i64 (t5+1))
    else none
    else none
  else
    some ((true,()),[]):=by kernel_rfl
theorem Z9.eq (n:Nat) (a0:(List (den Xn))) (a1:(List (den Xn))):Z9 (n+1) a0 a1 =
  bif (!(decide (((List.length a0):Int)=((List.length a1):Int)))) then
    some ((false,()),[])
  else
    Z9.l0 n n a0 a1 false 0:=by kernel_rfl
@[reducible] def Yf.R:Type:=Xg [.d .bool]×Z1
def Yf (n:Nat) (a0:(den Zt)) (a1:(den Zt)):Option Yf.R:=gc n 13 [.dat Zt a0 [],.dat Zt a1 []] [.d .bool]
theorem Yf.eq (n:Nat) (a0:(den Zt)) (a1:(den Zt)):Yf (n+1) a0 a1 =
  bif (decide ((a0.1:Int)=(a1.1:Int))) then
    bif (decide ((a0.2.1:Int)=(a1.2.1:Int))) then
      bif (decide ((a0.2.2.1:Int)=(a1.2.2.1:Int))) then
        bif (decide ((a0.2.2.2.2.2.1:Int)=(a1.2.2.2.2.2.1:Int))) then
          Option.bind (Z2 n (a0.2.2.2.1:(List Int)) (a1.2.2.2.1:(List Int))) fun r1 =>
          bif (r1.1.1:Bool) then
            Option.bind (Z9 n (a0.2.2.2.2.1:(List (den Xn))) (a1.2.2.2.2.1:(List (den Xn)))) fun r2 =>
            some (((r2.1.1:Bool),()),[])
          else
            some ((false,()),[])
        else
          some ((false,()),[])
      else
        some ((false,()),[])
    else
      some ((false,()),[])
  else
    some ((false,()),[]):=by kernel_rfl
@[reducible] def Yi.R:Type:=Xg [.d .bool]×Z1
def Yi (n:Nat):Option Yi.R:=gc n 7 [] [.d .bool]
@[reducible] def Yn.R:Type:=Xg [.d .bool]×Z1
def Yn (n:Nat) (a0:(den Za)):Option Yn.R:=gc n 20 [.dat Za a0 []] [.d .bool]
theorem Yn.eq (n:Nat) (a0:(den Za)):Yn (n+1) a0 =
  bif (decide (((List.length (a0.1.1:(List (List Int)))):Int)≤20)) then
    bif (decide (((List.length (a0.1.2.1:(List Int))):Int)≤20)) then
      bif (decide (((List.length (a0.1.2.2.1:(List Int))):Int)≤20)) then
        bif (decide (((List.length (a0.1.2.2.2.1:(List Int))):Int)≤40)) then
          bif (decide (((List.length (a0.1.2.2.2.2.1:(List Bool))):Int)≤40)) then
            bif (decide (((List.length (a0.2.1:(List Int))):Int)≤40)) then
              bif (decide (((List.length (a0.2.2.1:(List Int))):Int)≤40)) then
                some (((decide (((List.length (a0.2.2.2.1:(List (den Zb)))):Int)≤40)),()),[])
              else
                some ((false,()),[])
            else
              some ((false,()),[])
          else
            some ((false,()),[])
        else
          some ((false,()),[])
      else
        some ((false,()),[])
    else
      some ((false,()),[])
  else
    some ((false,()),[]):=by kernel_rfl
@[reducible] def Xi.R:Type:=Xg [.d .bool]×Z1
def Xi (n:Nat) (a0:Int) (a1:Int):Option Xi.R:=gc n 37 [.dat (.int .i64) a0 [],.dat (.int .i64) a1 []] [.d .bool]
theorem Xi.eq (n:Nat) (a0:Int) (a1:Int):Xi (n+1) a0 a1 =
  bif (decide (0≤a0)) then
    some (((decide (a0<a1)),()),[])
  else
    some ((false,()),[]):=by kernel_rfl
@[reducible] def X4.R:Type:=Xg [.d .bool]×Z1
def X4 (n:Nat) (a0:Int):Option X4.R:=gc n 38 [.dat (.int .i64) a0 []] [.d .bool]
theorem X4.eq (n:Nat) (a0:Int):X4 (n+1) a0 =
  bif (decide (0≤a0)) then
    some (((decide (a0≤1073741824)),()),[])
  else
    some ((false,()),[]):=by kernel_rfl
def Zc.res:List Sh:=[.d .bool]
@[reducible] def Zc.R:Type:=Xg [.d .bool]×Z1
def Zc (n:Nat) (a0:(den Z6)):Option Zc.R:=gc n 36 [.dat Z6 a0 []] [.d .bool]
def Zc.l0 (n m0:Nat) (t0:(den Z6)) (t2:Bool) (t3:Int) (t4:Int) (o0:(den Z6)):Option Zc.R :=
  lpN n N2 m0 (Qs 0 (Qj (run (gc n) n) Kg (Xe Zc.fn Zc.res) (Xe Zc.fn Zc.res)) (Xe Zc.fn Zc.res))
    [(0,.dat Z6 t0 []),(1,.ptr 0 []),(2,.dat .bool t2 []),(3,.dat (.int .i64) t3 []),(4,.dat (.int .i64) t4 [])]
    [.box Z6 o0 []]
def Zc.l1 (n m0 m1:Nat) (t0_1:(den Z6)) (t2_1:Bool) (t3_1:Int) (t4_1:Int) (t5_1:Int) (o0_1:(den Z6)):Option Zc.R :=
  lpN n ANm m1 (Qs 2 (Qj (run (gc n) n) AMu (Qj (run (gc n) n) Iu (Qj (run (gc n) n) L8 (fun _ s h=>lpN n N2 m0 (Qs 0 (Qj (run (gc n) n) Kg (Xe Zc.fn Zc.res) (Xe Zc.fn Zc.res)) (Xe Zc.fn Zc.res)) s h) (Qs 0 (Qj (run (gc n) n) Kg (Xe Zc.fn Zc.res) (Xe Zc.fn Zc.res)) (Xe Zc.fn Zc.res))) (Qs 0 (Qj (run (gc n) n) Kg (Xe Zc.fn Zc.res) (Xe Zc.fn Zc.res)) (Xe Zc.fn Zc.res))) (Qs 1 (Qj (run (gc n) n) Iu (Qj (run (gc n) n) L8 (fun _ s h=>lpN n N2 m0 (Qs 0 (Qj (run (gc n) n) Kg (Xe Zc.fn Zc.res) (Xe Zc.fn Zc.res)) (Xe Zc.fn Zc.res)) s h) (Qs 0 (Qj (run (gc n) n) Kg (Xe Zc.fn Zc.res) (Xe Zc.fn Zc.res)) (Xe Zc.fn Zc.res))) (Qs 0 (Qj (run (gc n) n) Kg (Xe Zc.fn Zc.res) (Xe Zc.fn Zc.res)) (Xe Zc.fn Zc.res))) (Qs 0 (Qj (run (gc n) n) Kg (Xe Zc.fn Zc.res) (Xe Zc.fn Zc.res)) (Xe Zc.fn Zc.res)))) (Qs 1 (Qj (run (gc n) n) Iu (Qj (run (gc n) n) L8 (fun _ s h=>lpN n N2 m0 (Qs 0 (Qj (run (gc n) n) Kg (Xe Zc.fn Zc.res) (Xe Zc.fn Zc.res)) (Xe Zc.fn Zc.res)) s h) (Qs 0 (Qj (run (gc n) n) Kg (Xe Zc.fn Zc.res) (Xe Zc.fn Zc.res)) (Xe Zc.fn Zc.res))) (Qs 0 (Qj (run (gc n) n) Kg (Xe Zc.fn Zc.res) (Xe Zc.fn Zc.res)) (Xe Zc.fn Zc.res))) (Qs 0 (Qj (run (gc n) n) Kg (Xe Zc.fn Zc.res) (Xe Zc.fn Zc.res)) (Xe Zc.fn Zc.res))))
    [(0,.dat Z6 t0_1 []),(1,.ptr 0 []),(2,.dat .bool t2_1 []),(3,.dat (.int .i64) t3_1 []),(4,.dat (.int .i64) t4_1 []),(5,.dat (.int .i64) t5_1 [])]
    [.box Z6 o0_1 []]
def Zc.l2 (n m0 m1:Nat) (t0_2:(den Z6)) (t2_2:Bool) (t3_2:Int) (t4_2:Int) (t5_2:Int) (t6_2:Int) (t7_2:Int) (o0_2:(den Z6)):Option Zc.R :=
  lpN n AOl m1 (Qs 4 (Qj (run (gc n) n) AL2 (Qj (run (gc n) n) Iu (Qj (run (gc n) n) L8 (fun _ s h=>lpN n N2 m0 (Qs 0 (Qj (run (gc n) n) Kg (Xe Zc.fn Zc.res) (Xe Zc.fn Zc.res)) (Xe Zc.fn Zc.res)) s h) (Qs 0 (Qj (run (gc n) n) Kg (Xe Zc.fn Zc.res) (Xe Zc.fn Zc.res)) (Xe Zc.fn Zc.res))) (Qs 0 (Qj (run (gc n) n) Kg (Xe Zc.fn Zc.res) (Xe Zc.fn Zc.res)) (Xe Zc.fn Zc.res))) (Qs 1 (Qj (run (gc n) n) Iu (Qj (run (gc n) n) L8 (fun _ s h=>lpN n N2 m0 (Qs 0 (Qj (run (gc n) n) Kg (Xe Zc.fn Zc.res) (Xe Zc.fn Zc.res)) (Xe Zc.fn Zc.res)) s h) (Qs 0 (Qj (run (gc n) n) Kg (Xe Zc.fn Zc.res) (Xe Zc.fn Zc.res)) (Xe Zc.fn Zc.res))) (Qs 0 (Qj (run (gc n) n) Kg (Xe Zc.fn Zc.res) (Xe Zc.fn Zc.res)) (Xe Zc.fn Zc.res))) (Qs 0 (Qj (run (gc n) n) Kg (Xe Zc.fn Zc.res) (Xe Zc.fn Zc.res)) (Xe Zc.fn Zc.res)))) (Qs 1 (Qj (run (gc n) n) Iu (Qj (run (gc n) n) L8 (fun _ s h=>lpN n N2 m0 (Qs 0 (Qj (run (gc n) n) Kg (Xe Zc.fn Zc.res) (Xe Zc.fn Zc.res)) (Xe Zc.fn Zc.res)) s h) (Qs 0 (Qj (run (gc n) n) Kg (Xe Zc.fn Zc.res) (Xe Zc.fn Zc.res)) (Xe Zc.fn Zc.res))) (Qs 0 (Qj (run (gc n) n) Kg (Xe Zc.fn Zc.res) (Xe Zc.fn Zc.res)) (Xe Zc.fn Zc.res))) (Qs 0 (Qj (run (gc n) n) Kg (Xe Zc.fn Zc.res) (Xe Zc.fn Zc.res)) (Xe Zc.fn Zc.res))))
    [(0,.dat Z6 t0_2 []),(1,.ptr 0 []),(2,.dat .bool t2_2 []),(3,.dat (.int .i64) t3_2 []),(4,.dat (.int .i64) t4_2 []),(5,.dat (.int .i64) t5_2 []),(6,.dat (.int .i64) t6_2 []),(7,.dat (.int .i64) t7_2 [])]
    [.box Z6 o0_2 []]
def Zc.l3 (n m0:Nat) (t0_3:(den Z6)) (t2_3:Bool) (t3_3:Int) (t4_3:Int) (t8_3:Int) (o0_3:(den Z6)):Option Zc.R :=
  lpN n AMk m0 (Qs 6 (Qj (run (gc n) n) AMr (Xe Zc.fn Zc.res) (Xe Zc.fn Zc.res)) (Xe Zc.fn Zc.res))
    [(0,.dat Z6 t0_3 []),(1,.ptr 0 []),(2,.dat .bool t2_3 []),(3,.dat (.int .i64) t3_3 []),(4,.dat (.int .i64) t4_3 []),(8,.dat (.int .i64) t8_3 [])]
    [.box Z6 o0_3 []]
def Zc.l4 (n m0:Nat) (t0_4:(den Z6)) (t2_4:Bool) (t3_4:Int) (t4_4:Int) (t8_4:Int) (t9_4:Int) (o0_4:(den Z6)):Option Zc.R :=
  lpN n ALh m0 (Qs 8 (Qj (run (gc n) n) AOh (Xe Zc.fn Zc.res) (Xe Zc.fn Zc.res)) (Xe Zc.fn Zc.res))
    [(0,.dat Z6 t0_4 []),(1,.ptr 0 []),(2,.dat .bool t2_4 []),(3,.dat (.int .i64) t3_4 []),(4,.dat (.int .i64) t4_4 []),(8,.dat (.int .i64) t8_4 []),(9,.dat (.int .i64) t9_4 [])]
    [.box Z6 o0_4 []]
theorem Zc.l0_eq (n m0:Nat) (t0:(den Z6)) (t2:Bool) (t3:Int) (t4:Int) (o0:(den Z6)):Zc.l0 n (m0+1) t0 t2 t3 t4 o0 =
  bif (decide (t4<t3)) then
    Zc.l1 n m0 n t0 t2 t3 t4 0 o0
  else
    Zc.l3 n n t0 t2 t3 t4 0 o0:=by kernel_rfl
theorem Zc.l1_eq (n m0 m1:Nat) (t0_1:(den Z6)) (t2_1:Bool) (t3_1:Int) (t4_1:Int) (t5_1:Int) (o0_1:(den Z6)):Zc.l1 n m0 (m1+1) t0_1 t2_1 t3_1 t4_1 t5_1 o0_1 =
  bif (decide (t5_1<4)) then
    if (0:Int)≤t4_1∧t4_1<(((List.length (o0_1.1:(List (List Int)))):Nat):Int) then
    if (0:Int)≤t5_1∧t5_1<((4:Nat):Int) then
    bif (!(decide ((List.getD (List.getD (o0_1.1:(List (List Int))) (Int.toNat t4_1) (dft (.arr 4 (.int .i64))):(List Int)) (Int.toNat t5_1) (0:Int):Int)=(-1)))) then
      if (0:Int)≤t4_1∧t4_1<(((List.length (o0_1.1:(List (List Int)))):Nat):Int) then
      if (0:Int)≤t5_1∧t5_1<((4:Nat):Int) then
      Option.bind (Xi n (List.getD (List.getD (o0_1.1:(List (List Int))) (Int.toNat t4_1) (dft (.arr 4 (.int .i64))):(List Int)) (Int.toNat t5_1) (0:Int):Int) t3_1) fun r4 =>
      bif (!(r4.1.1:Bool)) then
        some ((false,()),[])
      else
        Zc.l1 n m0 m1 t0_1 t2_1 t3_1 t4_1 (IntKind.wrap .i64 (t5_1+1)) o0_1
      else none
      else none
    else
      Zc.l1 n m0 m1 t0_1 t2_1 t3_1 t4_1 (IntKind.wrap .i64 (t5_1+1)) o0_1
    else none
    else none
  else
    Zc.l2 n m0 n t0_1 t2_1 t3_1 t4_1 t5_1 0 0 o0_1:=by kernel_rfl
theorem Zc.l2_eq (n m0 m1:Nat) (t0_2:(den Z6)) (t2_2:Bool) (t3_2:Int) (t4_2:Int) (t5_2:Int) (t6_2:Int) (t7_2:Int) (o0_2:(den Z6)):Zc.l2 n m0 (m1+1) t0_2 t2_2 t3_2 t4_2 t5_2 t6_2 t7_2 o0_2 =
  bif (decide (t7_2<((List.length (o0_2.2.2.2.1:(List Int))):Int))) then
    if (0:Int)≤t7_2∧t7_2<(((List.length (o0_2.2.2.2.1:(List Int))):Nat):Int) then
    bif (decide ((List.getD (o0_2.2.2.2.1:(List Int)) (Int.toNat t7_2) (0:Int):Int)=t4_2)) then
      Zc.l2 n m0 m1 t0_2 t2_2 t3_2 t4_2 t5_2 (IntKind.wrap .i64 (t6_2+1)) (IntKind.wrap .i64 (t7_2+1)) o0_2
    else
      Zc.l2 n m0 m1 t0_2 t2_2 t3_2 t4_2 t5_2 t6_2 (IntKind.wrap .i64 (t7_2+1)) o0_2
    else none
  else
    bif (decide ((o0_2.2.2.2.2.2.1:Int)<t6_2)) then
      some ((false,()),[])
    else
      Zc.l0 n m0 t0_2 t2_2 t3_2 (IntKind.wrap .i64 (t4_2+1)) o0_2:=by kernel_rfl
theorem Zc.l3_eq (n m0:Nat) (t0_3:(den Z6)) (t2_3:Bool) (t3_3:Int) (t4_3:Int) (t8_3:Int) (o0_3:(den Z6)):Zc.l3 n (m0+1) t0_3 t2_3 t3_3 t4_3 t8_3 o0_3 =
  bif (decide (t8_3<((List.length (o0_3.2.1:(List Int))):Int))) then
    if (0:Int)≤t8_3∧t8_3<(((List.length (o0_3.2.1:(List Int))):Nat):Int) then
    Option.bind (Xi n (List.getD (o0_3.2.1:(List Int)) (Int.toNat t8_3) (0:Int):Int) t3_3) fun r5 =>
    bif (!(r5.1.1:Bool)) then
      some ((false,()),[])
    else
      if (0:Int)≤t8_3∧t8_3<(((List.length (o0_3.2.2.1:(List Int))):Nat):Int) then
      Option.bind (X4 n (List.getD (o0_3.2.2.1:(List Int)) (Int.toNat t8_3) (0:Int):Int)) fun r6 =>
      bif (!(r6.1.1:Bool)) then
        some ((false,()),[])
      else
        Zc.l3 n m0 t0_3 t2_3 t3_3 t4_3 (IntKind.wrap .i64 (t8_3+1)) o0_3
      else none
    else none
  else
    Zc.l4 n n t0_3 t2_3 t3_3 t4_3 t8_3 0 o0_3:=by kernel_rfl
theorem Zc.l4_eq (n m0:Nat) (t0_4:(den Z6)) (t2_4:Bool) (t3_4:Int) (t4_4:Int) (t8_4:Int) (t9_4:Int) (o0_4:(den Z6)):Zc.l4 n (m0+1) t0_4 t2_4 t3_4 t4_4 t8_4 t9_4 o0_4 =
  bif (decide (t9_4<((List.length (o0_4.2.2.2.1:(List Int))):Int))) then
    if (0:Int)≤t9_4∧t9_4<(((List.length (o0_4.2.2.2.1:(List Int))):Nat):Int) then
    Option.bind (Xi n (List.getD (o0_4.2.2.2.1:(List Int)) (Int.toNat t9_4) (0:Int):Int) t3_4) fun r7 =>
    bif (!(r7.1.1:Bool)) then
      some ((false,()),[])
    else
      Zc.l4 n m0 t0_4 t2_4 t3_4 t4_4 t8_4 (IntKind.wrap .i64 (t9_4+1)) o0_4
    else none
  else
    some ((true,()),[]):=by kernel_rfl
theorem Zc.eq (n:Nat) (a0:(den Z6)):Zc (n+1) a0 =
  bif (decide (((List.length (a0.1:(List (List Int)))):Int)<1)) then
    some ((false,()),[])
  else
    bif (decide (8<((List.length (a0.1:(List (List Int)))):Int))) then
      some ((false,()),[])
    else
      bif (decide (((List.length (a0.2.1:(List Int))):Int)<1)) then
        some ((false,()),[])
      else
        bif (decide (6<((List.length (a0.2.1:(List Int))):Int))) then
          some ((false,()),[])
        else
          bif (!(decide (((List.length (a0.2.2.1:(List Int))):Int)=((List.length (a0.2.1:(List Int))):Int)))) then
            some ((false,()),[])
          else
            bif (decide (16<((List.length (a0.2.2.2.1:(List Int))):Int))) then
              some ((false,()),[])
            else
              bif (!(decide (((List.length (a0.2.2.2.2.1:(List Bool))):Int)=((List.length (a0.2.2.2.1:(List Int))):Int)))) then
                some ((false,()),[])
              else
                Option.bind (Xi n (a0.2.2.2.2.2.1:Int) 65) fun r1 =>
                bif (!(r1.1.1:Bool)) then
                  some ((false,()),[])
                else
                  Option.bind (Xi n (a0.2.2.2.2.2.2.1:Int) 65) fun r2 =>
                  bif (!(r2.1.1:Bool)) then
                    some ((false,()),[])
                  else
                    Option.bind (Xi n (a0.2.2.2.2.2.2.2.1:Int) 65) fun r3 =>
                    bif (!(r3.1.1:Bool)) then
                      some ((false,()),[])
                    else
                      Zc.l0 n n a0 false ((List.length (a0.1:(List (List Int)))):Int) 0 a0:=by kernel_rfl
def Z7.res:List Sh:=[.d (.int .i64)]
@[reducible] def Z7.R:Type:=Xg [.d (.int .i64)]×Z1
def Z7 (n:Nat) (a0:(den Za)) (a1:(den Zb)):Option Z7.R:=gc n 39 [.dat Za a0 [],.dat Zb a1 []] [.d (.int .i64)]
def Z7.l0 (n m0:Nat) (t0:(den Za)) (t1:(den Zb)) (t4:Int) (t5:Int) (o0:(den Za)) (o1:(den Zb)):Option Z7.R :=
  lpN n ATi m0 (Qs 0 (Qj (run (gc n) n) ATk (Xe Z7.fn Z7.res) (Xe Z7.fn Z7.res)) (Xe Z7.fn Z7.res))
    [(0,.dat Za t0 []),(1,.dat Zb t1 []),(2,.ptr 0 []),(3,.ptr 1 []),(4,.dat (.int .i64) t4 []),(5,.dat (.int .i64) t5 [])]
    [.box Za o0 [],.box Zb o1 []]
theorem Z7.l0_eq (n m0:Nat) (t0:(den Za)) (t1:(den Zb)) (t4:Int) (t5:Int) (o0:(den Za)) (o1:(den Zb)):Z7.l0 n (m0+1) t0 t1 t4 t5 o0 o1 =
  bif (decide ((o1.1:Int)=2)) then
    bif (decide (50<(IntKind.wrap .i64 (t5+1)))) then
      some ((99,()),[])
    else
      if (0:Int)≤(o1.2.1:Int)∧(o1.2.1:Int)<(((List.length (o0.2.2.2.1:(List (den Zb)))):Nat):Int) then
      Z7.l0 n m0 t0 t1 t4 (IntKind.wrap .i64 (t5+1)) o0 (List.getD (o0.2.2.2.1:(List (den Zb))) (Int.toNat (o1.2.1:Int)) (dft Zb):(den Zb))
      else none
  else
    some ((t5,()),[]):=by kernel_rfl
theorem Z7.eq (n:Nat) (a0:(den Za)) (a1:(den Zb)):Z7 (n+1) a0 a1 =
  Z7.l0 n n a0 a1 0 0 a0 a1:=by kernel_rfl
def Z8.res:List Sh:=[.d (.int .i64)]
@[reducible] def Z8.R:Type:=Xg [.d (.int .i64)]×Z1
def Z8 (n:Nat) (a0:(den Za)) (a1:(den Zb)):Option Z8.R:=gc n 40 [.dat Za a0 [],.dat Zb a1 []] [.d (.int .i64)]
def Z8.l0 (n m0:Nat) (t0:(den Za)) (t1:(den Zb)) (t4:Int) (t5:Int) (t6:Int) (o0:(den Za)) (o1:(den Zb)):Option Z8.R :=
  lpN n ATw m0 (Qs 0 (Qj (run (gc n) n) ATr (Xe Z8.fn Z8.res) (Xe Z8.fn Z8.res)) (Xe Z8.fn Z8.res))
    [(0,.dat Za t0 []),(1,.dat Zb t1 []),(2,.ptr 0 []),(3,.ptr 1 []),(4,.dat (.int .i64) t4 []),(5,.dat (.int .i64) t5 []),(6,.dat (.int .i64) t6 [])]
    [.box Za o0 [],.box Zb o1 []]
theorem Z8.l0_eq (n m0:Nat) (t0:(den Za)) (t1:(den Zb)) (t4:Int) (t5:Int) (t6:Int) (o0:(den Za)) (o1:(den Zb)):Z8.l0 n (m0+1) t0 t1 t4 t5 t6 o0 o1 =
  bif (decide (t6<((List.length (o0.2.2.2.1:(List (den Zb)))):Int))) then
    if (0:Int)≤t6∧t6<(((List.length (o0.2.2.2.1:(List (den Zb)))):Nat):Int) then
    bif (eqT Zb (List.getD (o0.2.2.2.1:(List (den Zb))) (Int.toNat t6) (dft Zb):(den Zb)) o1) then
      Z8.l0 n m0 t0 t1 t4 (IntKind.wrap .i64 (t5+1)) (IntKind.wrap .i64 (t6+1)) o0 o1
    else
      Z8.l0 n m0 t0 t1 t4 t5 (IntKind.wrap .i64 (t6+1)) o0 o1
    else none
  else
    some ((t5,()),[]):=by kernel_rfl
theorem Z8.eq (n:Nat) (a0:(den Za)) (a1:(den Zb)):Z8 (n+1) a0 a1 =
  Z8.l0 n n a0 a1 0 0 0 a0 a1:=by kernel_rfl
@[reducible] def Yo.R:Type:=Xg [.d (.int .i64)]×Z1
def Yo (n:Nat) (a0:(den Za)) (a1:(den Zb)):Option Yo.R:=gc n 41 [.dat Za a0 [],.dat Zb a1 []] [.d (.int .i64)]
theorem Yo.eq (n:Nat) (a0:(den Za)) (a1:(den Zb)):Yo (n+1) a0 a1 =
  if (0:Int)≤(a1.1:Int)∧(a1.1:Int)<((3:Nat):Int) then
  some (((List.getD ([(a0.1.2.2.2.2.2.1:Int),(a0.1.2.2.2.2.2.2.1:Int),(a0.1.2.2.2.2.2.2.2.1:Int)]:List Int) (Int.toNat (a1.1:Int)) (0:Int):Int),()),[])
  else none:=by kernel_rfl
def Zh.res:List Sh:=[.d .bool]
@[reducible] def Zh.R:Type:=Xg [.d .bool]×Z1
def Zh (n:Nat) (a0:(den Za)):Option Zh.R:=gc n 14 [.dat Za a0 []] [.d .bool]
def Zh.l0 (n m0:Nat) (t0:(den Za)) (t2:Bool) (t4:Int) (o0:(den Za)) (o1:(den Z6)):Option Zh.R :=
  lpN n ALs m0 (Qs 0 (Qj (run (gc n) n) ATl (Xe Zh.fn Zh.res) (Xe Zh.fn Zh.res)) (Xe Zh.fn Zh.res))
    [(0,.dat Za t0 []),(1,.ptr 0 []),(2,.dat .bool t2 []),(3,.ptr 1 []),(4,.dat (.int .i64) t4 [])]
    [.box Za o0 [],.box Z6 o1 []]
def Zh.l1 (n m0:Nat) (t0_1:(den Za)) (t2_1:Bool) (t4_1:Int) (t5_1:Int) (o0_1:(den Za)) (o1_1:(den Z6)):Option Zh.R :=
  lpN n ALj m0 (Qs 2 (Qj (run (gc n) n) AMd (Xe Zh.fn Zh.res) (Xe Zh.fn Zh.res)) (Xe Zh.fn Zh.res))
    [(0,.dat Za t0_1 []),(1,.ptr 0 []),(2,.dat .bool t2_1 []),(3,.ptr 1 []),(4,.dat (.int .i64) t4_1 []),(5,.dat (.int .i64) t5_1 [])]
    [.box Za o0_1 [],.box Z6 o1_1 []]
def Zh.l2 (n m0:Nat) (t0_2:(den Za)) (t2_2:Bool) (t4_2:Int) (t5_2:Int) (t8_2:Int) (o0_2:(den Za)) (o1_2:(den Z6)):Option Zh.R :=
  lpN n AM9 m0 (Qs 4 (Qj (run (gc n) n) ANi (Xe Zh.fn Zh.res) (Xe Zh.fn Zh.res)) (Xe Zh.fn Zh.res))
    [(0,.dat Za t0_2 []),(1,.ptr 0 []),(2,.dat .bool t2_2 []),(3,.ptr 1 []),(4,.dat (.int .i64) t4_2 []),(5,.dat (.int .i64) t5_2 []),(8,.dat (.int .i64) t8_2 [])]
    [.box Za o0_2 [],.box Z6 o1_2 []]
theorem Zh.l0_eq (n m0:Nat) (t0:(den Za)) (t2:Bool) (t4:Int) (o0:(den Za)) (o1:(den Z6)):Zh.l0 n (m0+1) t0 t2 t4 o0 o1 =
  bif (decide (t4<((List.length (o0.2.1:(List Int))):Int))) then
    if (0:Int)≤t4∧t4<(((List.length (o0.2.1:(List Int))):Nat):Int) then
    Option.bind (Xi n (List.getD (o0.2.1:(List Int)) (Int.toNat t4) (0:Int):Int) ((List.length (o1.1:(List (List Int)))):Int)) fun r2 =>
    bif (!(r2.1.1:Bool)) then
      some ((false,()),[])
    else
      if (0:Int)≤t4∧t4<(((List.length (o0.2.2.1:(List Int))):Nat):Int) then
      Option.bind (X4 n (List.getD (o0.2.2.1:(List Int)) (Int.toNat t4) (0:Int):Int)) fun r3 =>
      bif (!(r3.1.1:Bool)) then
        some ((false,()),[])
      else
        Zh.l0 n m0 t0 t2 (IntKind.wrap .i64 (t4+1)) o0 o1
      else none
    else none
  else
    Zh.l1 n n t0 t2 t4 0 o0 o1:=by kernel_rfl
theorem Zh.l1_eq (n m0:Nat) (t0_1:(den Za)) (t2_1:Bool) (t4_1:Int) (t5_1:Int) (o0_1:(den Za)) (o1_1:(den Z6)):Zh.l1 n (m0+1) t0_1 t2_1 t4_1 t5_1 o0_1 o1_1 =
  bif (decide (t5_1<((List.length (o0_1.2.2.2.1:(List (den Zb)))):Int))) then
    if (0:Int)≤t5_1∧t5_1<(((List.length (o0_1.2.2.2.1:(List (den Zb)))):Nat):Int) then
    bif (decide (((List.getD (o0_1.2.2.2.1:(List (den Zb))) (Int.toNat t5_1) (dft Zb):(den Zb)).1:Int)=0)) then
      Option.bind (Xi n ((List.getD (o0_1.2.2.2.1:(List (den Zb))) (Int.toNat t5_1) (dft Zb):(den Zb)).2.1:Int) ((List.length (o1_1.1:(List (List Int)))):Int)) fun r4 =>
      bif (r4.1.1:Bool) then
        Zh.l1 n m0 t0_1 t2_1 t4_1 (IntKind.wrap .i64 (t5_1+1)) o0_1 o1_1
      else
        bif (decide (((List.getD (o0_1.2.2.2.1:(List (den Zb))) (Int.toNat t5_1) (dft Zb):(den Zb)).1:Int)=1)) then
          Option.bind (Xi n ((List.getD (o0_1.2.2.2.1:(List (den Zb))) (Int.toNat t5_1) (dft Zb):(den Zb)).2.1:Int) ((List.length (o1_1.2.1:(List Int))):Int)) fun r5 =>
          bif (r5.1.1:Bool) then
            Zh.l1 n m0 t0_1 t2_1 t4_1 (IntKind.wrap .i64 (t5_1+1)) o0_1 o1_1
          else
            bif (decide (((List.getD (o0_1.2.2.2.1:(List (den Zb))) (Int.toNat t5_1) (dft Zb):(den Zb)).1:Int)=2)) then
              Option.bind (Xi n ((List.getD (o0_1.2.2.2.1:(List (den Zb))) (Int.toNat t5_1) (dft Zb):(den Zb)).2.1:Int) ((List.length (o1_1.2.2.2.1:(List Int))):Int)) fun r6 =>
              bif (r6.1.1:Bool) then
                if (0:Int)≤((List.getD (o0_1.2.2.2.1:(List (den Zb))) (Int.toNat t5_1) (dft Zb):(den Zb)).2.1:Int)∧((List.getD (o0_1.2.2.2.1:(List (den Zb))) (Int.toNat t5_1) (dft Zb):(den Zb)).2.1:Int)<(((List.length (o1_1.2.2.2.2.1:(List Bool))):Nat):Int) then
                bif (!(List.getD (o1_1.2.2.2.2.1:(List Bool)) (Int.toNat ((List.getD (o0_1.2.2.2.1:(List (den Zb))) (Int.toNat t5_1) (dft Zb):(den Zb)).2.1:Int)) false:Bool)) then
                  some ((false,()),[])
                else
                  Zh.l1 n m0 t0_1 t2_1 t4_1 (IntKind.wrap .i64 (t5_1+1)) o0_1 o1_1
                else none
              else
                some ((false,()),[])
            else
              some ((false,()),[])
        else
          bif (decide (((List.getD (o0_1.2.2.2.1:(List (den Zb))) (Int.toNat t5_1) (dft Zb):(den Zb)).1:Int)=2)) then
            Option.bind (Xi n ((List.getD (o0_1.2.2.2.1:(List (den Zb))) (Int.toNat t5_1) (dft Zb):(den Zb)).2.1:Int) ((List.length (o1_1.2.2.2.1:(List Int))):Int)) fun r7 =>
            bif (r7.1.1:Bool) then
              if (0:Int)≤((List.getD (o0_1.2.2.2.1:(List (den Zb))) (Int.toNat t5_1) (dft Zb):(den Zb)).2.1:Int)∧((List.getD (o0_1.2.2.2.1:(List (den Zb))) (Int.toNat t5_1) (dft Zb):(den Zb)).2.1:Int)<(((List.length (o1_1.2.2.2.2.1:(List Bool))):Nat):Int) then
              bif (!(List.getD (o1_1.2.2.2.2.1:(List Bool)) (Int.toNat ((List.getD (o0_1.2.2.2.1:(List (den Zb))) (Int.toNat t5_1) (dft Zb):(den Zb)).2.1:Int)) false:Bool)) then
                some ((false,()),[])
              else
                Zh.l1 n m0 t0_1 t2_1 t4_1 (IntKind.wrap .i64 (t5_1+1)) o0_1 o1_1
              else none
            else
              some ((false,()),[])
          else
            some ((false,()),[])
    else
      bif (decide (((List.getD (o0_1.2.2.2.1:(List (den Zb))) (Int.toNat t5_1) (dft Zb):(den Zb)).1:Int)=1)) then
        Option.bind (Xi n ((List.getD (o0_1.2.2.2.1:(List (den Zb))) (Int.toNat t5_1) (dft Zb):(den Zb)).2.1:Int) ((List.length (o1_1.2.1:(List Int))):Int)) fun r8 =>
        bif (r8.1.1:Bool) then
          Zh.l1 n m0 t0_1 t2_1 t4_1 (IntKind.wrap .i64 (t5_1+1)) o0_1 o1_1
        else
          bif (decide (((List.getD (o0_1.2.2.2.1:(List (den Zb))) (Int.toNat t5_1) (dft Zb):(den Zb)).1:Int)=2)) then
            Option.bind (Xi n ((List.getD (o0_1.2.2.2.1:(List (den Zb))) (Int.toNat t5_1) (dft Zb):(den Zb)).2.1:Int) ((List.length (o1_1.2.2.2.1:(List Int))):Int)) fun r9 =>
            bif (r9.1.1:Bool) then
              if (0:Int)≤((List.getD (o0_1.2.2.2.1:(List (den Zb))) (Int.toNat t5_1) (dft Zb):(den Zb)).2.1:Int)∧((List.getD (o0_1.2.2.2.1:(List (den Zb))) (Int.toNat t5_1) (dft Zb):(den Zb)).2.1:Int)<(((List.length (o1_1.2.2.2.2.1:(List Bool))):Nat):Int) then
              bif (!(List.getD (o1_1.2.2.2.2.1:(List Bool)) (Int.toNat ((List.getD (o0_1.2.2.2.1:(List (den Zb))) (Int.toNat t5_1) (dft Zb):(den Zb)).2.1:Int)) false:Bool)) then
                some ((false,()),[])
              else
                Zh.l1 n m0 t0_1 t2_1 t4_1 (IntKind.wrap .i64 (t5_1+1)) o0_1 o1_1
              else none
            else
              some ((false,()),[])
          else
            some ((false,()),[])
      else
        bif (decide (((List.getD (o0_1.2.2.2.1:(List (den Zb))) (Int.toNat t5_1) (dft Zb):(den Zb)).1:Int)=2)) then
          Option.bind (Xi n ((List.getD (o0_1.2.2.2.1:(List (den Zb))) (Int.toNat t5_1) (dft Zb):(den Zb)).2.1:Int) ((List.length (o1_1.2.2.2.1:(List Int))):Int)) fun r10 =>
          bif (r10.1.1:Bool) then
            if (0:Int)≤((List.getD (o0_1.2.2.2.1:(List (den Zb))) (Int.toNat t5_1) (dft Zb):(den Zb)).2.1:Int)∧((List.getD (o0_1.2.2.2.1:(List (den Zb))) (Int.toNat t5_1) (dft Zb):(den Zb)).2.1:Int)<(((List.length (o1_1.2.2.2.2.1:(List Bool))):Nat):Int) then
            bif (!(List.getD (o1_1.2.2.2.2.1:(List Bool)) (Int.toNat ((List.getD (o0_1.2.2.2.1:(List (den Zb))) (Int.toNat t5_1) (dft Zb):(den Zb)).2.1:Int)) false:Bool)) then
              some ((false,()),[])
            else
              Zh.l1 n m0 t0_1 t2_1 t4_1 (IntKind.wrap .i64 (t5_1+1)) o0_1 o1_1
            else none
          else
            some ((false,()),[])
        else
          some ((false,()),[])
    else none
  else
    Zh.l2 n n t0_1 t2_1 t4_1 t5_1 0 o0_1 o1_1:=by kernel_rfl
theorem Zh.l2_eq (n m0:Nat) (t0_2:(den Za)) (t2_2:Bool) (t4_2:Int) (t5_2:Int) (t8_2:Int) (o0_2:(den Za)) (o1_2:(den Z6)):Zh.l2 n (m0+1) t0_2 t2_2 t4_2 t5_2 t8_2 o0_2 o1_2 =
  bif (decide (t8_2<((List.length (o0_2.2.2.2.1:(List (den Zb)))):Int))) then
    if (0:Int)≤t8_2∧t8_2<(((List.length (o0_2.2.2.2.1:(List (den Zb)))):Nat):Int) then
    Option.bind (Z7 n o0_2 (List.getD (o0_2.2.2.2.1:(List (den Zb))) (Int.toNat t8_2) (dft Zb):(den Zb))) fun r11 =>
    bif (decide (4<(r11.1.1:Int))) then
      some ((false,()),[])
    else
      if (0:Int)≤t8_2∧t8_2<(((List.length (o0_2.2.2.2.1:(List (den Zb)))):Nat):Int) then
      Option.bind (Z8 n o0_2 (List.getD (o0_2.2.2.2.1:(List (den Zb))) (Int.toNat t8_2) (dft Zb):(den Zb))) fun r12 =>
      if (0:Int)≤t8_2∧t8_2<(((List.length (o0_2.2.2.2.1:(List (den Zb)))):Nat):Int) then
      Option.bind (Yo n o0_2 (List.getD (o0_2.2.2.2.1:(List (den Zb))) (Int.toNat t8_2) (dft Zb):(den Zb))) fun r13 =>
      bif (decide ((r13.1.1:Int)<(r12.1.1:Int))) then
        some ((false,()),[])
      else
        Zh.l2 n m0 t0_2 t2_2 t4_2 t5_2 (IntKind.wrap .i64 (t8_2+1)) o0_2 o1_2
      else none
      else none
    else none
  else
    some ((true,()),[]):=by kernel_rfl
theorem Zh.eq (n:Nat) (a0:(den Za)):Zh (n+1) a0 =
  Option.bind (Zc n a0.1) fun r1 =>
  bif (!(r1.1.1:Bool)) then
    some ((false,()),[])
  else
    bif (!(decide (((List.length (a0.2.1:(List Int))):Int)=((List.length (a0.1.2.1:(List Int))):Int)))) then
      some ((false,()),[])
    else
      bif (!(decide (((List.length (a0.2.2.1:(List Int))):Int)=((List.length (a0.1.2.1:(List Int))):Int)))) then
        some ((false,()),[])
      else
        bif (!(decide (((List.length (a0.2.2.2.1:(List (den Zb)))):Int)=((List.length (a0.1.2.2.2.1:(List Int))):Int)))) then
          some ((false,()),[])
        else
          Zh.l0 n n a0 false 0 a0 a0.1:=by kernel_rfl
@[reducible] def Yu.R:Type:=Xg [.d .bool]×Z1
def Yu (n:Nat) (a0:(den Za)):Option Yu.R:=gc n 8 [.dat Za a0 []] [.d .bool]
theorem Yu.eq (n:Nat) (a0:(den Za)):Yu (n+1) a0 =
  Option.bind (Yn n a0) fun r1 =>
  bif (r1.1.1:Bool) then
    Option.bind (Zh n a0) fun r2 =>
    some (((r2.1.1:Bool),()),[])
  else
    some ((false,()),[]):=by kernel_rfl
@[reducible] def Y3.R:Type:=Xg [.d .bool]×Z1
def Y3 (n:Nat) (a0:(den Zx)):Option Y3.R:=gc n 9 [.dat Zx a0 []] [.d .bool]
theorem Y3.eq (n:Nat) (a0:(den Zx)):Y3 (n+1) a0 =
  bif (decide (((List.length (a0.2.2.2.2.2.1:(List Int))):Int)≤40)) then
    some (((decide (((List.length (a0.2.2.2.2.2.2.2.1:(List Int))):Int)≤40)),()),[])
  else
    some ((false,()),[]):=by kernel_rfl
@[reducible] def Zg.R:Type:=Xg [.d .bool]×Z1
def Zg (n:Nat) (a0:Int) (a1:Bool):Option Zg.R:=gc n 43 [.dat (.int .i64) a0 [],.dat .bool a1 []] [.d .bool]
theorem Zg.eq (n:Nat) (a0:Int) (a1:Bool):Zg (n+1) a0 a1 =
  bif (!a1) then
    some (((decide (a0=0)),()),[])
  else
    bif (decide (0≤a0)) then
      some (((decide (a0≤1073741824)),()),[])
    else
      some ((false,()),[]):=by kernel_rfl
def Zi.res:List Sh:=[.d .bool]
@[reducible] def Zi.R:Type:=Xg [.d .bool]×Z1
def Zi (n:Nat) (a0:(List Int)) (a1:Bool):Option Zi.R:=gc n 44 [.dat (.sl (.int .i64)) a0 [],.dat .bool a1 []] [.d .bool]
def Zi.l0 (n m0:Nat) (t0:(List Int)) (t1:Bool) (t4:Bool) (t5:Int):Option Zi.R :=
  lpN n ALx m0 (Qs 0 (Qj (run (gc n) n) ATu (Xe Zi.fn Zi.res) (Xe Zi.fn Zi.res)) (Xe Zi.fn Zi.res))
    [(0,.dat (.sl (.int .i64)) t0 []),(1,.dat .bool t1 []),(4,.dat .bool t4 []),(5,.dat (.int .i64) t5 [])]
    []
theorem Zi.l0_eq (n m0:Nat) (t0:(List Int)) (t1:Bool) (t4:Bool) (t5:Int):Zi.l0 n (m0+1) t0 t1 t4 t5 =
  bif (decide (t5<((List.length t0):Int))) then
    if (0:Int)≤t5∧t5<(((List.length t0):Nat):Int) then
    Option.bind (Zg n (List.getD t0 (Int.toNat t5) (0:Int):Int) true) fun r1 =>
    bif (!(r1.1.1:Bool)) then
      some ((false,()),[])
    else
      Zi.l0 n m0 t0 t1 t4 (IntKind.wrap .i64 (t5+1))
    else none
  else
    some (((decide (((List.length t0):Int)≤16)),()),[]):=by kernel_rfl
theorem Zi.eq (n:Nat) (a0:(List Int)) (a1:Bool):Zi (n+1) a0 a1 =
  bif (!a1) then
    some (((decide (((List.length a0):Int)=0)),()),[])
  else
    Zi.l0 n n a0 a1 false 0:=by kernel_rfl
@[reducible] def Yp.R:Type:=Xg [.d .bool]×Z1
def Yp (n:Nat) (a0:(den Zx)):Option Yp.R:=gc n 17 [.dat Zx a0 []] [.d .bool]
theorem Yp.eq (n:Nat) (a0:(den Zx)):Yp (n+1) a0 =
  bif (decide ((a0.1:Int)<1)) then
    some ((false,()),[])
  else
    bif (decide (10<(a0.1:Int))) then
      some ((false,()),[])
    else
      bif (decide ((a0.2.1:Int)<0)) then
        some ((false,()),[])
      else
        bif (decide (3<(a0.2.1:Int))) then
          some ((false,()),[])
        else
          bif (!(decide ((a0.2.1:Int)=0))) then
            bif (decide (2<(a0.1:Int))) then
              some ((false,()),[])
            else
              bif (decide (3≤(a0.1:Int))) then
                Option.bind (Zg n (a0.2.2.1:Int) (decide ((a0.1:Int)≤7))) fun r1 =>
                bif (r1.1.1:Bool) then
                  bif (decide ((a0.1:Int)=5)) then
                    Option.bind (Zg n (a0.2.2.2.1:Int) true) fun r2 =>
                    bif (r2.1.1:Bool) then
                      bif (decide ((a0.1:Int)=2)) then
                        Option.bind (Zg n (a0.2.2.2.2.1:Int) true) fun r3 =>
                        bif (r3.1.1:Bool) then
                          Option.bind (Zg n (a0.2.2.2.2.2.2.1:Int) (decide ((a0.1:Int)=8))) fun r4 =>
                          bif (r4.1.1:Bool) then
                            Option.bind (Zg n (a0.2.2.2.2.2.2.2.2.1:Int) (decide ((a0.1:Int)=8))) fun r5 =>
                            bif (r5.1.1:Bool) then
                              Option.bind (Zi n (a0.2.2.2.2.2.1:(List Int)) (decide ((a0.1:Int)=8))) fun r6 =>
                              bif (r6.1.1:Bool) then
                                Option.bind (Zi n (a0.2.2.2.2.2.2.2.1:(List Int)) (decide ((a0.1:Int)=8))) fun r7 =>
                                some (((r7.1.1:Bool),()),[])
                              else
                                some ((false,()),[])
                            else
                              some ((false,()),[])
                          else
                            some ((false,()),[])
                        else
                          some ((false,()),[])
                      else
                        bif (decide ((a0.1:Int)=7)) then
                          Option.bind (Zg n (a0.2.2.2.2.1:Int) true) fun r8 =>
                          bif (r8.1.1:Bool) then
                            Option.bind (Zg n (a0.2.2.2.2.2.2.1:Int) (decide ((a0.1:Int)=8))) fun r9 =>
                            bif (r9.1.1:Bool) then
                              Option.bind (Zg n (a0.2.2.2.2.2.2.2.2.1:Int) (decide ((a0.1:Int)=8))) fun r10 =>
                              bif (r10.1.1:Bool) then
                                Option.bind (Zi n (a0.2.2.2.2.2.1:(List Int)) (decide ((a0.1:Int)=8))) fun r11 =>
                                bif (r11.1.1:Bool) then
                                  Option.bind (Zi n (a0.2.2.2.2.2.2.2.1:(List Int)) (decide ((a0.1:Int)=8))) fun r12 =>
                                  some (((r12.1.1:Bool),()),[])
                                else
                                  some ((false,()),[])
                              else
                                some ((false,()),[])
                            else
                              some ((false,()),[])
                          else
                            some ((false,()),[])
                        else
                          Option.bind (Zg n (a0.2.2.2.2.1:Int) (decide ((a0.1:Int)=8))) fun r13 =>
                          bif (r13.1.1:Bool) then
                            Option.bind (Zg n (a0.2.2.2.2.2.2.1:Int) (decide ((a0.1:Int)=8))) fun r14 =>
                            bif (r14.1.1:Bool) then
                              Option.bind (Zg n (a0.2.2.2.2.2.2.2.2.1:Int) (decide ((a0.1:Int)=8))) fun r15 =>
                              bif (r15.1.1:Bool) then
                                Option.bind (Zi n (a0.2.2.2.2.2.1:(List Int)) (decide ((a0.1:Int)=8))) fun r16 =>
                                bif (r16.1.1:Bool) then
                                  Option.bind (Zi n (a0.2.2.2.2.2.2.2.1:(List Int)) (decide ((a0.1:Int)=8))) fun r17 =>
                                  some (((r17.1.1:Bool),()),[])
                                else
                                  some ((false,()),[])
                              else
                                some ((false,()),[])
                            else
                              some ((false,()),[])
                          else
                            some ((false,()),[])
                    else
                      some ((false,()),[])
                  else
                    Option.bind (Zg n (a0.2.2.2.1:Int) (decide ((a0.1:Int)=6))) fun r18 =>
                    bif (r18.1.1:Bool) then
                      bif (decide ((a0.1:Int)=2)) then
                        Option.bind (Zg n (a0.2.2.2.2.1:Int) true) fun r19 =>
                        bif (r19.1.1:Bool) then
                          Option.bind (Zg n (a0.2.2.2.2.2.2.1:Int) (decide ((a0.1:Int)=8))) fun r20 =>
                          bif (r20.1.1:Bool) then
                            Option.bind (Zg n (a0.2.2.2.2.2.2.2.2.1:Int) (decide ((a0.1:Int)=8))) fun r21 =>
                            bif (r21.1.1:Bool) then
                              Option.bind (Zi n (a0.2.2.2.2.2.1:(List Int)) (decide ((a0.1:Int)=8))) fun r22 =>
                              bif (r22.1.1:Bool) then
                                Option.bind (Zi n (a0.2.2.2.2.2.2.2.1:(List Int)) (decide ((a0.1:Int)=8))) fun r23 =>
                                some (((r23.1.1:Bool),()),[])
                              else
                                some ((false,()),[])
                            else
                              some ((false,()),[])
                          else
                            some ((false,()),[])
                        else
                          some ((false,()),[])
                      else
                        bif (decide ((a0.1:Int)=7)) then
                          Option.bind (Zg n (a0.2.2.2.2.1:Int) true) fun r24 =>
                          bif (r24.1.1:Bool) then
                            Option.bind (Zg n (a0.2.2.2.2.2.2.1:Int) (decide ((a0.1:Int)=8))) fun r25 =>
                            bif (r25.1.1:Bool) then
                              Option.bind (Zg n (a0.2.2.2.2.2.2.2.2.1:Int) (decide ((a0.1:Int)=8))) fun r26 =>
                              bif (r26.1.1:Bool) then
                                Option.bind (Zi n (a0.2.2.2.2.2.1:(List Int)) (decide ((a0.1:Int)=8))) fun r27 =>
                                bif (r27.1.1:Bool) then
                                  Option.bind (Zi n (a0.2.2.2.2.2.2.2.1:(List Int)) (decide ((a0.1:Int)=8))) fun r28 =>
                                  some (((r28.1.1:Bool),()),[])
                                else
                                  some ((false,()),[])
                              else
                                some ((false,()),[])
                            else
                              some ((false,()),[])
                          else
                            some ((false,()),[])
                        else
                          Option.bind (Zg n (a0.2.2.2.2.1:Int) (decide ((a0.1:Int)=8))) fun r29 =>
                          bif (r29.1.1:Bool) then
                            Option.bind (Zg n (a0.2.2.2.2.2.2.1:Int) (decide ((a0.1:Int)=8))) fun r30 =>
                            bif (r30.1.1:Bool) then
                              Option.bind (Zg n (a0.2.2.2.2.2.2.2.2.1:Int) (decide ((a0.1:Int)=8))) fun r31 =>
                              bif (r31.1.1:Bool) then
                                Option.bind (Zi n (a0.2.2.2.2.2.1:(List Int)) (decide ((a0.1:Int)=8))) fun r32 =>
                                bif (r32.1.1:Bool) then
                                  Option.bind (Zi n (a0.2.2.2.2.2.2.2.1:(List Int)) (decide ((a0.1:Int)=8))) fun r33 =>
                                  some (((r33.1.1:Bool),()),[])
                                else
                                  some ((false,()),[])
                              else
                                some ((false,()),[])
                            else
                              some ((false,()),[])
                          else
                            some ((false,()),[])
                    else
                      some ((false,()),[])
                else
                  some ((false,()),[])
              else
                Option.bind (Zg n (a0.2.2.1:Int) false) fun r34 =>
                bif (r34.1.1:Bool) then
                  bif (decide ((a0.1:Int)=5)) then
                    Option.bind (Zg n (a0.2.2.2.1:Int) true) fun r35 =>
                    bif (r35.1.1:Bool) then
                      bif (decide ((a0.1:Int)=2)) then
                        Option.bind (Zg n (a0.2.2.2.2.1:Int) true) fun r36 =>
                        bif (r36.1.1:Bool) then
                          Option.bind (Zg n (a0.2.2.2.2.2.2.1:Int) (decide ((a0.1:Int)=8))) fun r37 =>
                          bif (r37.1.1:Bool) then
                            Option.bind (Zg n (a0.2.2.2.2.2.2.2.2.1:Int) (decide ((a0.1:Int)=8))) fun r38 =>
                            bif (r38.1.1:Bool) then
                              Option.bind (Zi n (a0.2.2.2.2.2.1:(List Int)) (decide ((a0.1:Int)=8))) fun r39 =>
                              bif (r39.1.1:Bool) then
                                Option.bind (Zi n (a0.2.2.2.2.2.2.2.1:(List Int)) (decide ((a0.1:Int)=8))) fun r40 =>
                                some (((r40.1.1:Bool),()),[])
                              else
                                some ((false,()),[])
                            else
                              some ((false,()),[])
                          else
                            some ((false,()),[])
                        else
                          some ((false,()),[])
                      else
                        bif (decide ((a0.1:Int)=7)) then
                          Option.bind (Zg n (a0.2.2.2.2.1:Int) true) fun r41 =>
                          bif (r41.1.1:Bool) then
                            Option.bind (Zg n (a0.2.2.2.2.2.2.1:Int) (decide ((a0.1:Int)=8))) fun r42 =>
                            bif (r42.1.1:Bool) then
                              Option.bind (Zg n (a0.2.2.2.2.2.2.2.2.1:Int) (decide ((a0.1:Int)=8))) fun r43 =>
                              bif (r43.1.1:Bool) then
                                Option.bind (Zi n (a0.2.2.2.2.2.1:(List Int)) (decide ((a0.1:Int)=8))) fun r44 =>
                                bif (r44.1.1:Bool) then
                                  Option.bind (Zi n (a0.2.2.2.2.2.2.2.1:(List Int)) (decide ((a0.1:Int)=8))) fun r45 =>
                                  some (((r45.1.1:Bool),()),[])
                                else
                                  some ((false,()),[])
                              else
                                some ((false,()),[])
                            else
                              some ((false,()),[])
                          else
                            some ((false,()),[])
                        else
                          Option.bind (Zg n (a0.2.2.2.2.1:Int) (decide ((a0.1:Int)=8))) fun r46 =>
                          bif (r46.1.1:Bool) then
                            Option.bind (Zg n (a0.2.2.2.2.2.2.1:Int) (decide ((a0.1:Int)=8))) fun r47 =>
                            bif (r47.1.1:Bool) then
                              Option.bind (Zg n (a0.2.2.2.2.2.2.2.2.1:Int) (decide ((a0.1:Int)=8))) fun r48 =>
                              bif (r48.1.1:Bool) then
                                Option.bind (Zi n (a0.2.2.2.2.2.1:(List Int)) (decide ((a0.1:Int)=8))) fun r49 =>
                                bif (r49.1.1:Bool) then
                                  Option.bind (Zi n (a0.2.2.2.2.2.2.2.1:(List Int)) (decide ((a0.1:Int)=8))) fun r50 =>
                                  some (((r50.1.1:Bool),()),[])
                                else
                                  some ((false,()),[])
                              else
                                some ((false,()),[])
                            else
                              some ((false,()),[])
                          else
                            some ((false,()),[])
                    else
                      some ((false,()),[])
                  else
                    Option.bind (Zg n (a0.2.2.2.1:Int) (decide ((a0.1:Int)=6))) fun r51 =>
                    bif (r51.1.1:Bool) then
                      bif (decide ((a0.1:Int)=2)) then
                        Option.bind (Zg n (a0.2.2.2.2.1:Int) true) fun r52 =>
                        bif (r52.1.1:Bool) then
                          Option.bind (Zg n (a0.2.2.2.2.2.2.1:Int) (decide ((a0.1:Int)=8))) fun r53 =>
                          bif (r53.1.1:Bool) then
                            Option.bind (Zg n (a0.2.2.2.2.2.2.2.2.1:Int) (decide ((a0.1:Int)=8))) fun r54 =>
                            bif (r54.1.1:Bool) then
                              Option.bind (Zi n (a0.2.2.2.2.2.1:(List Int)) (decide ((a0.1:Int)=8))) fun r55 =>
                              bif (r55.1.1:Bool) then
                                Option.bind (Zi n (a0.2.2.2.2.2.2.2.1:(List Int)) (decide ((a0.1:Int)=8))) fun r56 =>
                                some (((r56.1.1:Bool),()),[])
                              else
                                some ((false,()),[])
                            else
                              some ((false,()),[])
                          else
                            some ((false,()),[])
                        else
                          some ((false,()),[])
                      else
                        bif (decide ((a0.1:Int)=7)) then
                          Option.bind (Zg n (a0.2.2.2.2.1:Int) true) fun r57 =>
                          bif (r57.1.1:Bool) then
                            Option.bind (Zg n (a0.2.2.2.2.2.2.1:Int) (decide ((a0.1:Int)=8))) fun r58 =>
                            bif (r58.1.1:Bool) then
                              Option.bind (Zg n (a0.2.2.2.2.2.2.2.2.1:Int) (decide ((a0.1:Int)=8))) fun r59 =>
                              bif (r59.1.1:Bool) then
                                Option.bind (Zi n (a0.2.2.2.2.2.1:(List Int)) (decide ((a0.1:Int)=8))) fun r60 =>
                                bif (r60.1.1:Bool) then
                                  Option.bind (Zi n (a0.2.2.2.2.2.2.2.1:(List Int)) (decide ((a0.1:Int)=8))) fun r61 =>
                                  some (((r61.1.1:Bool),()),[])
                                else
                                  some ((false,()),[])
                              else
                                some ((false,()),[])
                            else
                              some ((false,()),[])
                          else
                            some ((false,()),[])
                        else
                          Option.bind (Zg n (a0.2.2.2.2.1:Int) (decide ((a0.1:Int)=8))) fun r62 =>
                          bif (r62.1.1:Bool) then
                            Option.bind (Zg n (a0.2.2.2.2.2.2.1:Int) (decide ((a0.1:Int)=8))) fun r63 =>
                            bif (r63.1.1:Bool) then
                              Option.bind (Zg n (a0.2.2.2.2.2.2.2.2.1:Int) (decide ((a0.1:Int)=8))) fun r64 =>
                              bif (r64.1.1:Bool) then
                                Option.bind (Zi n (a0.2.2.2.2.2.1:(List Int)) (decide ((a0.1:Int)=8))) fun r65 =>
                                bif (r65.1.1:Bool) then
                                  Option.bind (Zi n (a0.2.2.2.2.2.2.2.1:(List Int)) (decide ((a0.1:Int)=8))) fun r66 =>
                                  some (((r66.1.1:Bool),()),[])
                                else
                                  some ((false,()),[])
                              else
                                some ((false,()),[])
                            else
                              some ((false,()),[])
                          else
                            some ((false,()),[])
                    else
                      some ((false,()),[])
                else
                  some ((false,()),[])
          else
            bif (decide (3≤(a0.1:Int))) then
              Option.bind (Zg n (a0.2.2.1:Int) (decide ((a0.1:Int)≤7))) fun r67 =>
              bif (r67.1.1:Bool) then
                bif (decide ((a0.1:Int)=5)) then
                  Option.bind (Zg n (a0.2.2.2.1:Int) true) fun r68 =>
                  bif (r68.1.1:Bool) then
                    bif (decide ((a0.1:Int)=2)) then
                      Option.bind (Zg n (a0.2.2.2.2.1:Int) true) fun r69 =>
                      bif (r69.1.1:Bool) then
                        Option.bind (Zg n (a0.2.2.2.2.2.2.1:Int) (decide ((a0.1:Int)=8))) fun r70 =>
                        bif (r70.1.1:Bool) then
                          Option.bind (Zg n (a0.2.2.2.2.2.2.2.2.1:Int) (decide ((a0.1:Int)=8))) fun r71 =>
                          bif (r71.1.1:Bool) then
                            Option.bind (Zi n (a0.2.2.2.2.2.1:(List Int)) (decide ((a0.1:Int)=8))) fun r72 =>
                            bif (r72.1.1:Bool) then
                              Option.bind (Zi n (a0.2.2.2.2.2.2.2.1:(List Int)) (decide ((a0.1:Int)=8))) fun r73 =>
                              some (((r73.1.1:Bool),()),[])
                            else
                              some ((false,()),[])
                          else
                            some ((false,()),[])
                        else
                          some ((false,()),[])
                      else
                        some ((false,()),[])
                    else
                      bif (decide ((a0.1:Int)=7)) then
                        Option.bind (Zg n (a0.2.2.2.2.1:Int) true) fun r74 =>
                        bif (r74.1.1:Bool) then
                          Option.bind (Zg n (a0.2.2.2.2.2.2.1:Int) (decide ((a0.1:Int)=8))) fun r75 =>
                          bif (r75.1.1:Bool) then
                            Option.bind (Zg n (a0.2.2.2.2.2.2.2.2.1:Int) (decide ((a0.1:Int)=8))) fun r76 =>
                            bif (r76.1.1:Bool) then
                              Option.bind (Zi n (a0.2.2.2.2.2.1:(List Int)) (decide ((a0.1:Int)=8))) fun r77 =>
                              bif (r77.1.1:Bool) then
                                Option.bind (Zi n (a0.2.2.2.2.2.2.2.1:(List Int)) (decide ((a0.1:Int)=8))) fun r78 =>
                                some (((r78.1.1:Bool),()),[])
                              else
                                some ((false,()),[])
                            else
                              some ((false,()),[])
                          else
                            some ((false,()),[])
                        else
                          some ((false,()),[])
                      else
                        Option.bind (Zg n (a0.2.2.2.2.1:Int) (decide ((a0.1:Int)=8))) fun r79 =>
                        bif (r79.1.1:Bool) then
                          Option.bind (Zg n (a0.2.2.2.2.2.2.1:Int) (decide ((a0.1:Int)=8))) fun r80 =>
                          bif (r80.1.1:Bool) then
                            Option.bind (Zg n (a0.2.2.2.2.2.2.2.2.1:Int) (decide ((a0.1:Int)=8))) fun r81 =>
                            bif (r81.1.1:Bool) then
                              Option.bind (Zi n (a0.2.2.2.2.2.1:(List Int)) (decide ((a0.1:Int)=8))) fun r82 =>
                              bif (r82.1.1:Bool) then
                                Option.bind (Zi n (a0.2.2.2.2.2.2.2.1:(List Int)) (decide ((a0.1:Int)=8))) fun r83 =>
                                some (((r83.1.1:Bool),()),[])
                              else
                                some ((false,()),[])
                            else
                              some ((false,()),[])
                          else
                            some ((false,()),[])
                        else
                          some ((false,()),[])
                  else
                    some ((false,()),[])
                else
                  Option.bind (Zg n (a0.2.2.2.1:Int) (decide ((a0.1:Int)=6))) fun r84 =>
                  bif (r84.1.1:Bool) then
                    bif (decide ((a0.1:Int)=2)) then
                      Option.bind (Zg n (a0.2.2.2.2.1:Int) true) fun r85 =>
                      bif (r85.1.1:Bool) then
                        Option.bind (Zg n (a0.2.2.2.2.2.2.1:Int) (decide ((a0.1:Int)=8))) fun r86 =>
                        bif (r86.1.1:Bool) then
                          Option.bind (Zg n (a0.2.2.2.2.2.2.2.2.1:Int) (decide ((a0.1:Int)=8))) fun r87 =>
                          bif (r87.1.1:Bool) then
                            Option.bind (Zi n (a0.2.2.2.2.2.1:(List Int)) (decide ((a0.1:Int)=8))) fun r88 =>
                            bif (r88.1.1:Bool) then
                              Option.bind (Zi n (a0.2.2.2.2.2.2.2.1:(List Int)) (decide ((a0.1:Int)=8))) fun r89 =>
                              some (((r89.1.1:Bool),()),[])
                            else
                              some ((false,()),[])
                          else
                            some ((false,()),[])
                        else
                          some ((false,()),[])
                      else
                        some ((false,()),[])
                    else
                      bif (decide ((a0.1:Int)=7)) then
                        Option.bind (Zg n (a0.2.2.2.2.1:Int) true) fun r90 =>
                        bif (r90.1.1:Bool) then
                          Option.bind (Zg n (a0.2.2.2.2.2.2.1:Int) (decide ((a0.1:Int)=8))) fun r91 =>
                          bif (r91.1.1:Bool) then
                            Option.bind (Zg n (a0.2.2.2.2.2.2.2.2.1:Int) (decide ((a0.1:Int)=8))) fun r92 =>
                            bif (r92.1.1:Bool) then
                              Option.bind (Zi n (a0.2.2.2.2.2.1:(List Int)) (decide ((a0.1:Int)=8))) fun r93 =>
                              bif (r93.1.1:Bool) then
                                Option.bind (Zi n (a0.2.2.2.2.2.2.2.1:(List Int)) (decide ((a0.1:Int)=8))) fun r94 =>
                                some (((r94.1.1:Bool),()),[])
                              else
                                some ((false,()),[])
                            else
                              some ((false,()),[])
                          else
                            some ((false,()),[])
                        else
                          some ((false,()),[])
                      else
                        Option.bind (Zg n (a0.2.2.2.2.1:Int) (decide ((a0.1:Int)=8))) fun r95 =>
                        bif (r95.1.1:Bool) then
                          Option.bind (Zg n (a0.2.2.2.2.2.2.1:Int) (decide ((a0.1:Int)=8))) fun r96 =>
                          bif (r96.1.1:Bool) then
                            Option.bind (Zg n (a0.2.2.2.2.2.2.2.2.1:Int) (decide ((a0.1:Int)=8))) fun r97 =>
                            bif (r97.1.1:Bool) then
                              Option.bind (Zi n (a0.2.2.2.2.2.1:(List Int)) (decide ((a0.1:Int)=8))) fun r98 =>
                              bif (r98.1.1:Bool) then
                                Option.bind (Zi n (a0.2.2.2.2.2.2.2.1:(List Int)) (decide ((a0.1:Int)=8))) fun r99 =>
                                some (((r99.1.1:Bool),()),[])
                              else
                                some ((false,()),[])
                            else
                              some ((false,()),[])
                          else
                            some ((false,()),[])
                        else
                          some ((false,()),[])
                  else
                    some ((false,()),[])
              else
                some ((false,()),[])
            else
              Option.bind (Zg n (a0.2.2.1:Int) false) fun r100 =>
              bif (r100.1.1:Bool) then
                bif (decide ((a0.1:Int)=5)) then
                  Option.bind (Zg n (a0.2.2.2.1:Int) true) fun r101 =>
                  bif (r101.1.1:Bool) then
                    bif (decide ((a0.1:Int)=2)) then
                      Option.bind (Zg n (a0.2.2.2.2.1:Int) true) fun r102 =>
                      bif (r102.1.1:Bool) then
                        Option.bind (Zg n (a0.2.2.2.2.2.2.1:Int) (decide ((a0.1:Int)=8))) fun r103 =>
                        bif (r103.1.1:Bool) then
                          Option.bind (Zg n (a0.2.2.2.2.2.2.2.2.1:Int) (decide ((a0.1:Int)=8))) fun r104 =>
                          bif (r104.1.1:Bool) then
                            Option.bind (Zi n (a0.2.2.2.2.2.1:(List Int)) (decide ((a0.1:Int)=8))) fun r105 =>
                            bif (r105.1.1:Bool) then
                              Option.bind (Zi n (a0.2.2.2.2.2.2.2.1:(List Int)) (decide ((a0.1:Int)=8))) fun r106 =>
                              some (((r106.1.1:Bool),()),[])
                            else
                              some ((false,()),[])
                          else
                            some ((false,()),[])
                        else
                          some ((false,()),[])
                      else
                        some ((false,()),[])
                    else
                      bif (decide ((a0.1:Int)=7)) then
                        Option.bind (Zg n (a0.2.2.2.2.1:Int) true) fun r107 =>
                        bif (r107.1.1:Bool) then
                          Option.bind (Zg n (a0.2.2.2.2.2.2.1:Int) (decide ((a0.1:Int)=8))) fun r108 =>
                          bif (r108.1.1:Bool) then
                            Option.bind (Zg n (a0.2.2.2.2.2.2.2.2.1:Int) (decide ((a0.1:Int)=8))) fun r109 =>
                            bif (r109.1.1:Bool) then
                              Option.bind (Zi n (a0.2.2.2.2.2.1:(List Int)) (decide ((a0.1:Int)=8))) fun r110 =>
                              bif (r110.1.1:Bool) then
                                Option.bind (Zi n (a0.2.2.2.2.2.2.2.1:(List Int)) (decide ((a0.1:Int)=8))) fun r111 =>
                                some (((r111.1.1:Bool),()),[])
                              else
                                some ((false,()),[])
                            else
                              some ((false,()),[])
                          else
                            some ((false,()),[])
                        else
                          some ((false,()),[])
                      else
                        Option.bind (Zg n (a0.2.2.2.2.1:Int) (decide ((a0.1:Int)=8))) fun r112 =>
                        bif (r112.1.1:Bool) then
                          Option.bind (Zg n (a0.2.2.2.2.2.2.1:Int) (decide ((a0.1:Int)=8))) fun r113 =>
                          bif (r113.1.1:Bool) then
                            Option.bind (Zg n (a0.2.2.2.2.2.2.2.2.1:Int) (decide ((a0.1:Int)=8))) fun r114 =>
                            bif (r114.1.1:Bool) then
                              Option.bind (Zi n (a0.2.2.2.2.2.1:(List Int)) (decide ((a0.1:Int)=8))) fun r115 =>
                              bif (r115.1.1:Bool) then
                                Option.bind (Zi n (a0.2.2.2.2.2.2.2.1:(List Int)) (decide ((a0.1:Int)=8))) fun r116 =>
                                some (((r116.1.1:Bool),()),[])
                              else
                                some ((false,()),[])
                            else
                              some ((false,()),[])
                          else
                            some ((false,()),[])
                        else
                          some ((false,()),[])
                  else
                    some ((false,()),[])
                else
                  Option.bind (Zg n (a0.2.2.2.1:Int) (decide ((a0.1:Int)=6))) fun r117 =>
                  bif (r117.1.1:Bool) then
                    bif (decide ((a0.1:Int)=2)) then
                      Option.bind (Zg n (a0.2.2.2.2.1:Int) true) fun r118 =>
                      bif (r118.1.1:Bool) then
                        Option.bind (Zg n (a0.2.2.2.2.2.2.1:Int) (decide ((a0.1:Int)=8))) fun r119 =>
                        bif (r119.1.1:Bool) then
                          Option.bind (Zg n (a0.2.2.2.2.2.2.2.2.1:Int) (decide ((a0.1:Int)=8))) fun r120 =>
                          bif (r120.1.1:Bool) then
                            Option.bind (Zi n (a0.2.2.2.2.2.1:(List Int)) (decide ((a0.1:Int)=8))) fun r121 =>
                            bif (r121.1.1:Bool) then
                              Option.bind (Zi n (a0.2.2.2.2.2.2.2.1:(List Int)) (decide ((a0.1:Int)=8))) fun r122 =>
                              some (((r122.1.1:Bool),()),[])
                            else
                              some ((false,()),[])
                          else
                            some ((false,()),[])
                        else
                          some ((false,()),[])
                      else
                        some ((false,()),[])
                    else
                      bif (decide ((a0.1:Int)=7)) then
                        Option.bind (Zg n (a0.2.2.2.2.1:Int) true) fun r123 =>
                        bif (r123.1.1:Bool) then
                          Option.bind (Zg n (a0.2.2.2.2.2.2.1:Int) (decide ((a0.1:Int)=8))) fun r124 =>
                          bif (r124.1.1:Bool) then
                            Option.bind (Zg n (a0.2.2.2.2.2.2.2.2.1:Int) (decide ((a0.1:Int)=8))) fun r125 =>
                            bif (r125.1.1:Bool) then
                              Option.bind (Zi n (a0.2.2.2.2.2.1:(List Int)) (decide ((a0.1:Int)=8))) fun r126 =>
                              bif (r126.1.1:Bool) then
                                Option.bind (Zi n (a0.2.2.2.2.2.2.2.1:(List Int)) (decide ((a0.1:Int)=8))) fun r127 =>
                                some (((r127.1.1:Bool),()),[])
                              else
                                some ((false,()),[])
                            else
                              some ((false,()),[])
                          else
                            some ((false,()),[])
                        else
                          some ((false,()),[])
                      else
                        Option.bind (Zg n (a0.2.2.2.2.1:Int) (decide ((a0.1:Int)=8))) fun r128 =>
                        bif (r128.1.1:Bool) then
                          Option.bind (Zg n (a0.2.2.2.2.2.2.1:Int) (decide ((a0.1:Int)=8))) fun r129 =>
                          bif (r129.1.1:Bool) then
                            Option.bind (Zg n (a0.2.2.2.2.2.2.2.2.1:Int) (decide ((a0.1:Int)=8))) fun r130 =>
                            bif (r130.1.1:Bool) then
                              Option.bind (Zi n (a0.2.2.2.2.2.1:(List Int)) (decide ((a0.1:Int)=8))) fun r131 =>
                              bif (r131.1.1:Bool) then
                                Option.bind (Zi n (a0.2.2.2.2.2.2.2.1:(List Int)) (decide ((a0.1:Int)=8))) fun r132 =>
                                some (((r132.1.1:Bool),()),[])
                              else
                                some ((false,()),[])
                            else
                              some ((false,()),[])
                          else
                            some ((false,()),[])
                        else
                          some ((false,()),[])
                  else
                    some ((false,()),[])
              else
                some ((false,()),[]):=by kernel_rfl
@[reducible] def Xx.R:Type:=Xg [.d Za]×Z1
def Xx (n:Nat) (a0:(den Za)):Option Xx.R:=gc n 77 [.dat Za a0 []] [.d Za]
theorem Xx.eq (n:Nat) (a0:(den Za)):Xx (n+1) a0 =
  if 0+(List.length (a0.2.1:(List Int)))≤1048576 then
  if 0+(List.length (a0.2.2.1:(List Int)))≤1048576 then
  if 0+(List.length (a0.2.2.2.1:(List (den Zb))))≤1048576 then
  some (((a0.1,(([]:List Int) ++ (a0.2.1:(List Int))),(([]:List Int) ++ (a0.2.2.1:(List Int))),(([]:List (den Zb)) ++ (a0.2.2.2.1:(List (den Zb)))),()),()),[(0,[1]),(0,[2]),(0,[3])])
  else none
  else none
  else none:=by kernel_rfl
@[reducible] def Yg.R:Type:=Xg [.d Za,.d (.int .i64),.d (.int .i64)]×Z1
def Yg (n:Nat) (a0:(den Za)) (a1:Int) (a2:Int):Option Yg.R:=gc n 71 [.dat Za a0 [],.dat (.int .i64) a1 [],.dat (.int .i64) a2 []] [.d Za,.d (.int .i64),.d (.int .i64)]
theorem Yg.eq (n:Nat) (a0:(den Za)) (a1:Int) (a2:Int):Yg (n+1) a0 a1 a2 =
  if (0:Int)≤a1∧a1<(((List.length (a0.2.1:(List Int))):Nat):Int) then
  if (0:Int)≤(List.getD (a0.2.1:(List Int)) (Int.toNat a1) (0:Int):Int)∧(List.getD (a0.2.1:(List Int)) (Int.toNat a1) (0:Int):Int)<(((List.length (a0.1.1:(List (List Int)))):Nat):Int) then
  if (0:Int)≤a2∧a2<((4:Nat):Int) then
  bif (decide ((List.getD (List.getD (a0.1.1:(List (List Int))) (Int.toNat (List.getD (a0.2.1:(List Int)) (Int.toNat a1) (0:Int):Int)) (dft (.arr 4 (.int .i64))):(List Int)) (Int.toNat a2) (0:Int):Int)=(-1))) then
    some ((a0,0,4,()),[])
  else
    Option.bind (Xx n a0) fun r1 =>
    bif (Zn r1.2 [((0,[1]),3)]) then
      if (0:Int)≤a1∧a1<(((List.length (r1.1.1.2.1:(List Int))):Nat):Int) then
      some (((r1.1.1.1,(List.set (r1.1.1.2.1:(List Int)) (Int.toNat a1) (List.getD (List.getD (a0.1.1:(List (List Int))) (Int.toNat (List.getD (a0.2.1:(List Int)) (Int.toNat a1) (0:Int):Int)) (dft (.arr 4 (.int .i64))):(List Int)) (Int.toNat a2) (0:Int):Int):(List Int)),(r1.1.1.2.2.1:(List Int)),(r1.1.1.2.2.2.1:(List (den Zb))),()),(List.getD (List.getD (a0.1.1:(List (List Int))) (Int.toNat (List.getD (a0.2.1:(List Int)) (Int.toNat a1) (0:Int):Int)) (dft (.arr 4 (.int .i64))):(List Int)) (Int.toNat a2) (0:Int):Int),0,()),[(0,[1])])
      else none
    else
      none
  else none
  else none
  else none:=by kernel_rfl
@[reducible] def Yr.R:Type:=Xg [.d Za,.d (.int .i64),.d (.int .i64)]×Z1
def Yr (n:Nat) (a0:(den Za)) (a1:Int) (a2:Int):Option Yr.R:=gc n 23 [.dat Za a0 [],.dat (.int .i64) a1 [],.dat (.int .i64) a2 []] [.d Za,.d (.int .i64),.d (.int .i64)]
theorem Yr.eq (n:Nat) (a0:(den Za)) (a1:Int) (a2:Int):Yr (n+1) a0 a1 a2 =
  Option.bind (Yg n a0 a1 a2) fun r1 =>
  some ((r1.1.1,(r1.1.2.1:Int),(r1.1.2.2.1:Int),()),[]):=by kernel_rfl
@[reducible] def Yv.R:Type:=Xg [.d Za,.d (.int .i64),.d (.int .i64)]×Z1
def Yv (n:Nat) (a0:(den Za)) (a1:Int) (a2:Int) (a3:Int):Option Yv.R:=gc n 24 [.dat Za a0 [],.dat (.int .i64) a1 [],.dat (.int .i64) a2 [],.dat (.int .i64) a3 []] [.d Za,.d (.int .i64),.d (.int .i64)]
theorem Yv.eq (n:Nat) (a0:(den Za)) (a1:Int) (a2:Int) (a3:Int):Yv (n+1) a0 a1 a2 a3 =
  bif (decide (a2<0)) then
    some ((a0,0,3,()),[])
  else
    bif (decide (((List.length (a0.2.1:(List Int))):Int)≤a2)) then
      some ((a0,0,3,()),[])
    else
      bif (decide (a2=a1)) then
        some ((a0,0,12,()),[])
      else
        if (0:Int)≤a1∧a1<(((List.length (a0.2.1:(List Int))):Nat):Int) then
        if (0:Int)≤a2∧a2<(((List.length (a0.2.1:(List Int))):Nat):Int) then
        bif (!(decide ((List.getD (a0.2.1:(List Int)) (Int.toNat a1) (0:Int):Int)=(List.getD (a0.2.1:(List Int)) (Int.toNat a2) (0:Int):Int)))) then
          some ((a0,0,5,()),[])
        else
          Option.bind (Yg n a0 a2 a3) fun r1 =>
          some ((r1.1.1,(r1.1.2.1:Int),(r1.1.2.2.1:Int),()),[])
        else none
        else none:=by kernel_rfl
@[reducible] def Xj.R:Type:=Xg [.d (.int .i64)]×Z1
def Xj (n:Nat) (a0:(den Za)) (a1:(den Zb)):Option Xj.R:=gc n 72 [.dat Za a0 [],.dat Zb a1 []] [.d (.int .i64)]
theorem Xj.eq (n:Nat) (a0:(den Za)) (a1:(den Zb)):Xj (n+1) a0 a1 =
  Option.bind (Yo n a0 a1) fun r1 =>
  Option.bind (Z8 n a0 a1) fun r2 =>
  some (((IntKind.wrap .i64 ((r1.1.1:Int) - (r2.1.1:Int))),()),[]):=by kernel_rfl
@[reducible] def Yc.R:Type:=Xg [.d Za]×Z1
def Yc (n:Nat) (a0:(den Za)) (a1:Int) (a2:(den Zb)):Option Yc.R:=gc n 73 [.dat Za a0 [],.dat (.int .i64) a1 [],.dat Zb a2 []] [.d Za]
theorem Yc.eq (n:Nat) (a0:(den Za)) (a1:Int) (a2:(den Zb)):Yc (n+1) a0 a1 a2 =
  Option.bind (Xx n a0) fun r1 =>
  bif (Zn r1.2 [((0,[3]),4)]) then
    if (0:Int)≤a1∧a1<(((List.length (r1.1.1.2.2.2.1:(List (den Zb)))):Nat):Int) then
    some (((r1.1.1.1,(r1.1.1.2.1:(List Int)),(r1.1.1.2.2.1:(List Int)),(List.set (r1.1.1.2.2.2.1:(List (den Zb))) (Int.toNat a1) a2:(List (den Zb))),()),()),[(0,[3])])
    else none
  else
    none:=by kernel_rfl
@[reducible] def Y2.R:Type:=Xg [.d Za,.d (.int .i64)]×Z1
def Y2 (n:Nat) (a0:(den Za)) (a1:Int) (a2:Int):Option Y2.R:=gc n 25 [.dat Za a0 [],.dat (.int .i64) a1 [],.dat (.int .i64) a2 []] [.d Za,.d (.int .i64)]
theorem Y2.eq (n:Nat) (a0:(den Za)) (a1:Int) (a2:Int):Y2 (n+1) a0 a1 a2 =
  bif (decide (a2<0)) then
    some ((a0,3,()),[])
  else
    bif (decide (((List.length (a0.2.2.2.1:(List (den Zb)))):Int)≤a2)) then
      some ((a0,3,()),[])
    else
      if (0:Int)≤a2∧a2<(((List.length (a0.2.2.2.1:(List (den Zb)))):Nat):Int) then
      if (0:Int)≤a1∧a1<(((List.length (a0.2.1:(List Int))):Nat):Int) then
      bif (!(eqT Zb (List.getD (a0.2.2.2.1:(List (den Zb))) (Int.toNat a2) (dft Zb):(den Zb)) (0,(List.getD (a0.2.1:(List Int)) (Int.toNat a1) (0:Int):Int),()))) then
        some ((a0,5,()),[])
      else
        Option.bind (Xj n a0 (1,a1,())) fun r1 =>
        bif (decide ((r1.1.1:Int)=0)) then
          some ((a0,9,()),[])
        else
          Option.bind (Yc n a0 a2 (1,a1,())) fun r2 =>
          some ((r2.1.1,0,()),[])
      else none
      else none:=by kernel_rfl
@[reducible] def Yq.R:Type:=Xg [.d Za,.d (.int .i64)]×Z1
def Yq (n:Nat) (a0:(den Za)) (a1:Int) (a2:Int):Option Yq.R:=gc n 26 [.dat Za a0 [],.dat (.int .i64) a1 [],.dat (.int .i64) a2 []] [.d Za,.d (.int .i64)]
theorem Yq.eq (n:Nat) (a0:(den Za)) (a1:Int) (a2:Int):Yq (n+1) a0 a1 a2 =
  bif (decide (a2<0)) then
    some ((a0,3,()),[])
  else
    bif (decide (((List.length (a0.2.2.2.1:(List (den Zb)))):Int)≤a2)) then
      some ((a0,3,()),[])
    else
      if (0:Int)≤a2∧a2<(((List.length (a0.2.2.2.1:(List (den Zb)))):Nat):Int) then
      bif (!(eqT Zb (List.getD (a0.2.2.2.1:(List (den Zb))) (Int.toNat a2) (dft Zb):(den Zb)) (1,a1,()))) then
        some ((a0,5,()),[])
      else
        if (0:Int)≤a1∧a1<(((List.length (a0.2.1:(List Int))):Nat):Int) then
        Option.bind (Xj n a0 (0,(List.getD (a0.2.1:(List Int)) (Int.toNat a1) (0:Int):Int),())) fun r1 =>
        bif (decide ((r1.1.1:Int)=0)) then
          some ((a0,9,()),[])
        else
          if (0:Int)≤a1∧a1<(((List.length (a0.2.1:(List Int))):Nat):Int) then
          Option.bind (Yc n a0 a2 (0,(List.getD (a0.2.1:(List Int)) (Int.toNat a1) (0:Int):Int),())) fun r2 =>
          some ((r2.1.1,0,()),[])
          else none
        else none
      else none:=by kernel_rfl
@[reducible] def Yj.R:Type:=Xg [.d .bool]×Z1
def Yj (n:Nat) (a0:(den Za)) (a1:Int):Option Yj.R:=gc n 74 [.dat Za a0 [],.dat (.int .i64) a1 []] [.d .bool]
theorem Yj.eq (n:Nat) (a0:(den Za)) (a1:Int):Yj (n+1) a0 a1 =
  bif (decide (0≤a1)) then
    some (((decide (a1<((List.length (a0.2.2.2.1:(List (den Zb)))):Int))),()),[])
  else
    some ((false,()),[]):=by kernel_rfl
@[reducible] def X9.R:Type:=Xg [.d Zb]×Z1
def X9 (n:Nat) (a0:(den Za)) (a1:Int):Option X9.R:=gc n 126 [.dat Za a0 [],.dat (.int .i64) a1 []] [.d Zb]
theorem X9.eq (n:Nat) (a0:(den Za)) (a1:Int):X9 (n+1) a0 a1 =
  if (0:Int)≤a1∧a1<(((List.length (a0.2.2.2.1:(List (den Zb)))):Nat):Int) then
  bif (!(decide (((List.getD (a0.2.2.2.1:(List (den Zb))) (Int.toNat a1) (dft Zb):(den Zb)).1:Int)=2))) then
    some (((List.getD (a0.2.2.2.1:(List (den Zb))) (Int.toNat a1) (dft Zb):(den Zb)),()),[])
  else
    Option.bind (X9 n a0 ((List.getD (a0.2.2.2.1:(List (den Zb))) (Int.toNat a1) (dft Zb):(den Zb)).2.1:Int)) fun r1 =>
    some ((r1.1.1,()),[])
  else none:=by kernel_rfl
@[reducible] def Yh.R:Type:=Xg [.d .bool]×Z1
def Yh (n:Nat) (a0:(den Za)) (a1:Int) (a2:Int):Option Yh.R:=gc n 75 [.dat Za a0 [],.dat (.int .i64) a1 [],.dat (.int .i64) a2 []] [.d .bool]
theorem Yh.eq (n:Nat) (a0:(den Za)) (a1:Int) (a2:Int):Yh (n+1) a0 a1 a2 =
  Option.bind (X9 n a0 a2) fun r1 =>
  bif (decide ((r1.1.1.1:Int)=0)) then
    if (0:Int)≤a1∧a1<(((List.length (a0.2.1:(List Int))):Nat):Int) then
    bif (decide ((r1.1.1.2.1:Int)=(List.getD (a0.2.1:(List Int)) (Int.toNat a1) (0:Int):Int))) then
      some ((true,()),[])
    else
      bif (decide ((r1.1.1.1:Int)=1)) then
        some (((decide ((r1.1.1.2.1:Int)=a1)),()),[])
      else
        some ((false,()),[])
    else none
  else
    bif (decide ((r1.1.1.1:Int)=1)) then
      some (((decide ((r1.1.1.2.1:Int)=a1)),()),[])
    else
      some ((false,()),[]):=by kernel_rfl
@[reducible] def Xy.R:Type:=Xg [.d .bool]×Z1
def Xy (n:Nat) (a0:(den Za)) (a1:Int) (a2:Int):Option Xy.R:=gc n 76 [.dat Za a0 [],.dat (.int .i64) a1 [],.dat (.int .i64) a2 []] [.d .bool]
theorem Xy.eq (n:Nat) (a0:(den Za)) (a1:Int) (a2:Int):Xy (n+1) a0 a1 a2 =
  bif (decide (a1=a2)) then
    some ((true,()),[])
  else
    if (0:Int)≤a1∧a1<(((List.length (a0.2.2.2.1:(List (den Zb)))):Nat):Int) then
    bif (decide (((List.getD (a0.2.2.2.1:(List (den Zb))) (Int.toNat a1) (dft Zb):(den Zb)).1:Int)=2)) then
      Option.bind (Xy n a0 ((List.getD (a0.2.2.2.1:(List (den Zb))) (Int.toNat a1) (dft Zb):(den Zb)).2.1:Int) a2) fun r1 =>
      some (((r1.1.1:Bool),()),[])
    else
      some ((false,()),[])
    else none:=by kernel_rfl
def Xa.res:List Sh:=[.d Za,.d (.int .i64)]
@[reducible] def Xa.R:Type:=Xg [.d Za,.d (.int .i64)]×Z1
def Xa (n:Nat) (a0:(den Za)) (a1:Int) (a2:Int) (a3:Int):Option Xa.R:=gc n 27 [.dat Za a0 [],.dat (.int .i64) a1 [],.dat (.int .i64) a2 [],.dat (.int .i64) a3 []] [.d Za,.d (.int .i64)]
def Xa.l0 (n m0:Nat) (t0:(den Za)) (t1:Int) (t2:Int) (t3:Int) (t9:Int) (t11:Int) (o0:(den Za)) (o1:(den Za)) (o2:(den Za)):Option Xa.R :=
  lpN n ANo m0 (Qs 0 (Qj (run (gc n) n) ALc (Xe Xa.fn Xa.res) (Xe Xa.fn Xa.res)) (Xe Xa.fn Xa.res))
    [(0,.dat Za t0 []),(1,.dat (.int .i64) t1 []),(2,.dat (.int .i64) t2 []),(3,.dat (.int .i64) t3 []),(4,.ptr 0 []),(8,.ptr 1 []),(9,.dat (.int .i64) t9 []),(10,.ptr 2 []),(11,.dat (.int .i64) t11 [])]
    [.box Za o0 [],.box Za o1 [],.box Za o2 []]
theorem Xa.l0_eq (n m0:Nat) (t0:(den Za)) (t1:Int) (t2:Int) (t3:Int) (t9:Int) (t11:Int) (o0:(den Za)) (o1:(den Za)) (o2:(den Za)):Xa.l0 n (m0+1) t0 t1 t2 t3 t9 t11 o0 o1 o2 =
  bif (decide (t11<((List.length (o2.2.2.2.1:(List (den Zb)))):Int))) then
    if (0:Int)≤t11∧t11<(((List.length (o2.2.2.2.1:(List (den Zb)))):Nat):Int) then
    Option.bind (Z7 n o2 (List.getD (o2.2.2.2.1:(List (den Zb))) (Int.toNat t11) (dft Zb):(den Zb))) fun r6 =>
    bif (decide (4<(r6.1.1:Int))) then
      some ((o0,8,()),[])
    else
      Xa.l0 n m0 t0 t1 t2 t3 t9 (IntKind.wrap .i64 (t11+1)) o0 o1 o2
    else none
  else
    Option.bind (Xj n o0 (2,t3,())) fun r7 =>
    bif (decide ((r7.1.1:Int)=0)) then
      some ((o0,9,()),[])
    else
      some ((o2,0,()),[]):=by kernel_rfl
theorem Xa.eq (n:Nat) (a0:(den Za)) (a1:Int) (a2:Int) (a3:Int):Xa (n+1) a0 a1 a2 a3 =
  Option.bind (Yj n a0 a2) fun r1 =>
  bif (!(r1.1.1:Bool)) then
    some ((a0,3,()),[])
  else
    Option.bind (Yj n a0 a3) fun r2 =>
    bif (!(r2.1.1:Bool)) then
      some ((a0,3,()),[])
    else
      if (0:Int)≤a2∧a2<(((List.length (a0.2.2.2.1:(List (den Zb)))):Nat):Int) then
      bif (!(eqT Zb (List.getD (a0.2.2.2.1:(List (den Zb))) (Int.toNat a2) (dft Zb):(den Zb)) (1,a1,()))) then
        some ((a0,5,()),[])
      else
        Option.bind (Yh n a0 a1 a3) fun r3 =>
        bif (!(r3.1.1:Bool)) then
          some ((a0,5,()),[])
        else
          if (0:Int)≤a3∧a3<(((List.length (a0.1.2.2.2.2.1:(List Bool))):Nat):Int) then
          bif (!(List.getD (a0.1.2.2.2.2.1:(List Bool)) (Int.toNat a3) false:Bool)) then
            some ((a0,6,()),[])
          else
            Option.bind (Xy n a0 a3 a2) fun r4 =>
            bif (r4.1.1:Bool) then
              some ((a0,7,()),[])
            else
              Option.bind (Yc n a0 a2 (2,a3,())) fun r5 =>
              Xa.l0 n n a0 a1 a2 a3 0 0 a0 ((([]:List (List Int)),([]:List Int),([]:List Int),([]:List Int),([]:List Bool),0,0,0,()),([]:List Int),([]:List Int),([]:List (den Zb)),()) r5.1.1
          else none
      else none:=by kernel_rfl
@[reducible] def Yx.R:Type:=Xg [.d Za,.d (.int .i64)]×Z1
def Yx (n:Nat) (a0:(den Za)) (a1:Int) (a2:Int) (a3:Int):Option Yx.R:=gc n 28 [.dat Za a0 [],.dat (.int .i64) a1 [],.dat (.int .i64) a2 [],.dat (.int .i64) a3 []] [.d Za,.d (.int .i64)]
theorem Yx.eq (n:Nat) (a0:(den Za)) (a1:Int) (a2:Int) (a3:Int):Yx (n+1) a0 a1 a2 a3 =
  Option.bind (Yj n a0 a2) fun r1 =>
  bif (!(r1.1.1:Bool)) then
    some ((a0,3,()),[])
  else
    Option.bind (Yj n a0 a3) fun r2 =>
    bif (!(r2.1.1:Bool)) then
      some ((a0,3,()),[])
    else
      Option.bind (Yh n a0 a1 a3) fun r3 =>
      bif (!(r3.1.1:Bool)) then
        some ((a0,5,()),[])
      else
        if (0:Int)≤a3∧a3<(((List.length (a0.1.2.2.2.2.1:(List Bool))):Nat):Int) then
        bif (!(List.getD (a0.1.2.2.2.2.1:(List Bool)) (Int.toNat a3) false:Bool)) then
          some ((a0,6,()),[])
        else
          if (0:Int)≤a2∧a2<(((List.length (a0.2.2.2.1:(List (den Zb)))):Nat):Int) then
          bif (!(eqT Zb (List.getD (a0.2.2.2.1:(List (den Zb))) (Int.toNat a2) (dft Zb):(den Zb)) (2,a3,()))) then
            some ((a0,5,()),[])
          else
            Option.bind (Xj n a0 (1,a1,())) fun r4 =>
            bif (decide ((r4.1.1:Int)=0)) then
              some ((a0,9,()),[])
            else
              Option.bind (Yc n a0 a2 (1,a1,())) fun r5 =>
              some ((r5.1.1,0,()),[])
          else none
        else none:=by kernel_rfl
@[reducible] def Yw.R:Type:=Xg [.d Za,.d (.int .i64)]×Z1
def Yw (n:Nat) (a0:(den Za)) (a1:Int) (a2:Int) (a3:Int):Option Yw.R:=gc n 29 [.dat Za a0 [],.dat (.int .i64) a1 [],.dat (.int .i64) a2 [],.dat (.int .i64) a3 []] [.d Za,.d (.int .i64)]
theorem Yw.eq (n:Nat) (a0:(den Za)) (a1:Int) (a2:Int) (a3:Int):Yw (n+1) a0 a1 a2 a3 =
  bif (decide (a2<0)) then
    some ((a0,3,()),[])
  else
    bif (decide (((List.length (a0.2.2.2.1:(List (den Zb)))):Int)≤a2)) then
      some ((a0,3,()),[])
    else
      bif (decide (a3<0)) then
        some ((a0,3,()),[])
      else
        bif (decide (((List.length (a0.2.1:(List Int))):Int)≤a3)) then
          some ((a0,3,()),[])
        else
          bif (decide (a1=a3)) then
            some ((a0,12,()),[])
          else
            if (0:Int)≤a1∧a1<(((List.length (a0.2.1:(List Int))):Nat):Int) then
            if (0:Int)≤a3∧a3<(((List.length (a0.2.1:(List Int))):Nat):Int) then
            bif (!(decide ((List.getD (a0.2.1:(List Int)) (Int.toNat a1) (0:Int):Int)=(List.getD (a0.2.1:(List Int)) (Int.toNat a3) (0:Int):Int)))) then
              some ((a0,5,()),[])
            else
              if (0:Int)≤a2∧a2<(((List.length (a0.2.2.2.1:(List (den Zb)))):Nat):Int) then
              bif (!(eqT Zb (List.getD (a0.2.2.2.1:(List (den Zb))) (Int.toNat a2) (dft Zb):(den Zb)) (1,a1,()))) then
                some ((a0,5,()),[])
              else
                Option.bind (Xj n a0 (1,a3,())) fun r1 =>
                bif (decide ((r1.1.1:Int)=0)) then
                  some ((a0,9,()),[])
                else
                  Option.bind (Yc n a0 a2 (1,a3,())) fun r2 =>
                  some ((r2.1.1,0,()),[])
              else none
            else none
            else none:=by kernel_rfl
@[reducible] def Ys.R:Type:=Xg [.d (.int .i64),.d (.int .i64),.d (.int .i64)]×Z1
def Ys (n:Nat) (a0:Int) (a1:Int) (a2:Int) (a3:Int):Option Ys.R:=gc n 78 [.dat (.int .i64) a0 [],.dat (.int .i64) a1 [],.dat (.int .i64) a2 [],.dat (.int .i64) a3 []] [.d (.int .i64),.d (.int .i64),.d (.int .i64)]
theorem Ys.eq (n:Nat) (a0:Int) (a1:Int) (a2:Int) (a3:Int):Ys (n+1) a0 a1 a2 a3 =
  bif (decide (a2<0)) then
    some ((a0,a1,1,()),[])
  else
    bif (decide (a3<0)) then
      some ((a0,a1,1,()),[])
    else
      bif (decide (a0<a2)) then
        some ((a0,a1,10,()),[])
      else
        bif (decide (a1<a3)) then
          some ((a0,a1,10,()),[])
        else
          Option.bind (X4 n (IntKind.wrap .i64 ((IntKind.wrap .i64 (a0+a3)) - a2))) fun r1 =>
          bif (!(r1.1.1:Bool)) then
            some ((a0,a1,11,()),[])
          else
            Option.bind (X4 n (IntKind.wrap .i64 ((IntKind.wrap .i64 (a1+a2)) - a3))) fun r2 =>
            bif (!(r2.1.1:Bool)) then
              some ((a0,a1,11,()),[])
            else
              some (((IntKind.wrap .i64 ((IntKind.wrap .i64 (a0+a3)) - a2)),(IntKind.wrap .i64 ((IntKind.wrap .i64 (a1+a2)) - a3)),0,()),[]):=by kernel_rfl
def Ze.res:List Sh:=[.d Za,.d (.int .i64)]
@[reducible] def Ze.R:Type:=Xg [.d Za,.d (.int .i64)]×Z1
def Ze (n:Nat) (a0:(den Za)) (a1:Int) (a2:(den Zx)):Option Ze.R:=gc n 30 [.dat Za a0 [],.dat (.int .i64) a1 [],.dat Zx a2 []] [.d Za,.d (.int .i64)]
def Ze.l0 (n m0:Nat) (t0:(den Za)) (t1:Int) (t2:(den Zx)) (t7:Int) (t8:Int) (t10:Int) (o0:(den Za)) (o1:(den Zx)) (o2:(den Za)) (o5:(List Int)):Option Ze.R :=
  lpN n AN4 m0 (Qs 0 (Qj (run (gc n) n) ANd (Xe Ze.fn Ze.res) (Xe Ze.fn Ze.res)) (Xe Ze.fn Ze.res))
    [(0,.dat Za t0 []),(1,.dat (.int .i64) t1 []),(2,.dat Zx t2 []),(3,.ptr 0 []),(5,.ptr 1 []),(6,.ptr 2 []),(7,.dat (.int .i64) t7 []),(8,.dat (.int .i64) t8 []),(9,.dat (.sl (.int .i64)) ([]:List Int) [([],some 5)]),(10,.dat (.int .i64) t10 [])]
    [.box Za o0 [],.box Zx o1 [],.box Za o2 [],.dead,.dead,.arr (.int .i64) o5]
def Ze.l1 (n m0:Nat) (t0_1:(den Za)) (t1_1:Int) (t2_1:(den Zx)) (t7_1:Int) (t8_1:Int) (t10_1:Int) (t11_1:Int) (o0_1:(den Za)) (o1_1:(den Zx)) (o2_1:(den Za)) (o5_1:(List Int)):Option Ze.R :=
  lpN n ADo m0 (Qs 2 (Qj (run (gc n) n) Og (Xe Ze.fn Ze.res) (Xe Ze.fn Ze.res)) (Xe Ze.fn Ze.res))
    [(0,.dat Za t0_1 []),(1,.dat (.int .i64) t1_1 []),(2,.dat Zx t2_1 []),(3,.ptr 0 []),(5,.ptr 1 []),(6,.ptr 2 []),(7,.dat (.int .i64) t7_1 []),(8,.dat (.int .i64) t8_1 []),(9,.dat (.sl (.int .i64)) ([]:List Int) [([],some 5)]),(10,.dat (.int .i64) t10_1 []),(11,.dat (.int .i64) t11_1 [])]
    [.box Za o0_1 [],.box Zx o1_1 [],.box Za o2_1 [],.dead,.dead,.arr (.int .i64) o5_1]
def Ze.l2 (n m0 m1:Nat) (t0_2:(den Za)) (t1_2:Int) (t2_2:(den Zx)) (t7_2:Int) (t8_2:Int) (t10_2:Int) (t11_2:Int) (t12_2:Int) (o0_2:(den Za)) (o1_2:(den Zx)) (o2_2:(den Za)) (o5_2:(List Int)):Option Ze.R :=
  lpN n AOn m1 (Qs 4 (Qj (run (gc n) n) AH8 (Qj (run (gc n) n) AHf (fun _ s h=>lpN n ADo m0 (Qs 2 (Qj (run (gc n) n) Og (Xe Ze.fn Ze.res) (Xe Ze.fn Ze.res)) (Xe Ze.fn Ze.res)) s h) (Qs 2 (Qj (run (gc n) n) Og (Xe Ze.fn Ze.res) (Xe Ze.fn Ze.res)) (Xe Ze.fn Ze.res))) (Qs 2 (Qj (run (gc n) n) Og (Xe Ze.fn Ze.res) (Xe Ze.fn Ze.res)) (Xe Ze.fn Ze.res))) (Qs 3 (Qj (run (gc n) n) AH8 (Qj (run (gc n) n) AHf (fun _ s h=>lpN n ADo m0 (Qs 2 (Qj (run (gc n) n) Og (Xe Ze.fn Ze.res) (Xe Ze.fn Ze.res)) (Xe Ze.fn Ze.res)) s h) (Qs 2 (Qj (run (gc n) n) Og (Xe Ze.fn Ze.res) (Xe Ze.fn Ze.res)) (Xe Ze.fn Ze.res))) (Qs 2 (Qj (run (gc n) n) Og (Xe Ze.fn Ze.res) (Xe Ze.fn Ze.res)) (Xe Ze.fn Ze.res))) (Qs 2 (Qj (run (gc n) n) Og (Xe Ze.fn Ze.res) (Xe Ze.fn Ze.res)) (Xe Ze.fn Ze.res))))
    [(0,.dat Za t0_2 []),(1,.dat (.int .i64) t1_2 []),(2,.dat Zx t2_2 []),(3,.ptr 0 []),(5,.ptr 1 []),(6,.ptr 2 []),(7,.dat (.int .i64) t7_2 []),(8,.dat (.int .i64) t8_2 []),(9,.dat (.sl (.int .i64)) ([]:List Int) [([],some 5)]),(10,.dat (.int .i64) t10_2 []),(11,.dat (.int .i64) t11_2 []),(12,.dat (.int .i64) t12_2 [])]
    [.box Za o0_2 [],.box Zx o1_2 [],.box Za o2_2 [],.dead,.dead,.arr (.int .i64) o5_2]
def Ze.l3 (n m0:Nat) (t0_3:(den Za)) (t1_3:Int) (t2_3:(den Zx)) (t7_3:Int) (t8_3:Int) (t10_3:Int) (t11_3:Int) (t14_3:Int) (o0_3:(den Za)) (o1_3:(den Zx)) (o2_3:(den Za)) (o5_3:(List Int)) (o6_3:(den Za)) (o7_3:(List (den Zb))) (o8_3:(List Int)):Option Ze.R :=
  lpN n AMp m0 (Qs 6 (Qj (run (gc n) n) AM0 (Xe Ze.fn Ze.res) (Xe Ze.fn Ze.res)) (Xe Ze.fn Ze.res))
    [(0,.dat Za t0_3 []),(1,.dat (.int .i64) t1_3 []),(2,.dat Zx t2_3 []),(3,.ptr 0 []),(5,.ptr 1 []),(6,.ptr 2 []),(7,.dat (.int .i64) t7_3 []),(8,.dat (.int .i64) t8_3 []),(9,.dat (.sl (.int .i64)) ([]:List Int) [([],some 5)]),(10,.dat (.int .i64) t10_3 []),(11,.dat (.int .i64) t11_3 []),(13,.ptr 6 []),(14,.dat (.int .i64) t14_3 [])]
    [.box Za o0_3 [],.box Zx o1_3 [],.box Za o2_3 [],.dead,.dead,.arr (.int .i64) o5_3,.box Za o6_3 [([2],some 8),([3],some 7)],.arr Zb o7_3,.arr (.int .i64) o8_3]
theorem Ze.l0_eq (n m0:Nat) (t0:(den Za)) (t1:Int) (t2:(den Zx)) (t7:Int) (t8:Int) (t10:Int) (o0:(den Za)) (o1:(den Zx)) (o2:(den Za)) (o5:(List Int)):Ze.l0 n (m0+1) t0 t1 t2 t7 t8 t10 o0 o1 o2 o5 =
  bif (decide (t10<((List.length o5):Int))) then
    if (0:Int)≤t10∧t10<(((List.length o5):Nat):Int) then
    bif (decide ((List.getD o5 (Int.toNat t10) (0:Int):Int)<0)) then
      some ((o0,3,()),[])
    else
      if (0:Int)≤t10∧t10<(((List.length o5):Nat):Int) then
      bif (decide (((List.length (o0.2.2.2.1:(List (den Zb)))):Int)≤(List.getD o5 (Int.toNat t10) (0:Int):Int))) then
        some ((o0,3,()),[])
      else
        Ze.l0 n m0 t0 t1 t2 t7 t8 (IntKind.wrap .i64 (t10+1)) o0 o1 o2 o5
      else none
    else none
  else
    bif (decide (t1=t8)) then
      some ((o0,12,()),[])
    else
      if (0:Int)≤t1∧t1<(((List.length (o0.2.1:(List Int))):Nat):Int) then
      if (0:Int)≤t8∧t8<(((List.length (o0.2.1:(List Int))):Nat):Int) then
      bif (!(decide ((List.getD (o0.2.1:(List Int)) (Int.toNat t1) (0:Int):Int)=(List.getD (o0.2.1:(List Int)) (Int.toNat t8) (0:Int):Int)))) then
        some ((o0,5,()),[])
      else
        Ze.l1 n n t0 t1 t2 t7 t8 t10 0 o0 o1 o2 o5
      else none
      else none:=by kernel_rfl
theorem Ze.l1_eq (n m0:Nat) (t0_1:(den Za)) (t1_1:Int) (t2_1:(den Zx)) (t7_1:Int) (t8_1:Int) (t10_1:Int) (t11_1:Int) (o0_1:(den Za)) (o1_1:(den Zx)) (o2_1:(den Za)) (o5_1:(List Int)):Ze.l1 n (m0+1) t0_1 t1_1 t2_1 t7_1 t8_1 t10_1 t11_1 o0_1 o1_1 o2_1 o5_1 =
  bif (decide (t11_1<((List.length o5_1):Int))) then
    Ze.l2 n m0 n t0_1 t1_1 t2_1 t7_1 t8_1 t10_1 t11_1 0 o0_1 o1_1 o2_1 o5_1
  else
    Option.bind (Xx n o0_1) fun r1 =>
    bif (Zn r1.2 [((0,[3]),7),((0,[2]),8)]) then
      Ze.l3 n n t0_1 t1_1 t2_1 t7_1 t8_1 t10_1 t11_1 0 o0_1 o1_1 o2_1 o5_1 (r1.1.1.1,(r1.1.1.2.1:(List Int)),([]:List Int),([]:List (den Zb)),()) (r1.1.1.2.2.2.1:(List (den Zb))) (r1.1.1.2.2.1:(List Int))
    else
      none:=by kernel_rfl
theorem Ze.l2_eq (n m0 m1:Nat) (t0_2:(den Za)) (t1_2:Int) (t2_2:(den Zx)) (t7_2:Int) (t8_2:Int) (t10_2:Int) (t11_2:Int) (t12_2:Int) (o0_2:(den Za)) (o1_2:(den Zx)) (o2_2:(den Za)) (o5_2:(List Int)):Ze.l2 n m0 (m1+1) t0_2 t1_2 t2_2 t7_2 t8_2 t10_2 t11_2 t12_2 o0_2 o1_2 o2_2 o5_2 =
  bif (decide (t12_2<t11_2)) then
    if (0:Int)≤t11_2∧t11_2<(((List.length o5_2):Nat):Int) then
    if (0:Int)≤t12_2∧t12_2<(((List.length o5_2):Nat):Int) then
    bif (decide ((List.getD o5_2 (Int.toNat t11_2) (0:Int):Int)=(List.getD o5_2 (Int.toNat t12_2) (0:Int):Int))) then
      some ((o0_2,13,()),[])
    else
      Ze.l2 n m0 m1 t0_2 t1_2 t2_2 t7_2 t8_2 t10_2 t11_2 (IntKind.wrap .i64 (t12_2+1)) o0_2 o1_2 o2_2 o5_2
    else none
    else none
  else
    Ze.l1 n m0 t0_2 t1_2 t2_2 t7_2 t8_2 t10_2 (IntKind.wrap .i64 (t11_2+1)) o0_2 o1_2 o2_2 o5_2:=by kernel_rfl
theorem Ze.l3_eq (n m0:Nat) (t0_3:(den Za)) (t1_3:Int) (t2_3:(den Zx)) (t7_3:Int) (t8_3:Int) (t10_3:Int) (t11_3:Int) (t14_3:Int) (o0_3:(den Za)) (o1_3:(den Zx)) (o2_3:(den Za)) (o5_3:(List Int)) (o6_3:(den Za)) (o7_3:(List (den Zb))) (o8_3:(List Int)):Ze.l3 n (m0+1) t0_3 t1_3 t2_3 t7_3 t8_3 t10_3 t11_3 t14_3 o0_3 o1_3 o2_3 o5_3 o6_3 o7_3 o8_3 =
  bif (decide (t14_3<((List.length o5_3):Int))) then
    bif (decide (((List.length (o1_3.2.2.2.2.2.1:(List Int))):Int)≤t14_3)) then
      if (0:Int)≤t14_3∧t14_3<(((List.length o5_3):Nat):Int) then
      if (0:Int)≤(List.getD o5_3 (Int.toNat t14_3) (0:Int):Int)∧(List.getD o5_3 (Int.toNat t14_3) (0:Int):Int)<(((List.length (o0_3.2.2.2.1:(List (den Zb)))):Nat):Int) then
      bif (!(eqT Zb (List.getD (o0_3.2.2.2.1:(List (den Zb))) (Int.toNat (List.getD o5_3 (Int.toNat t14_3) (0:Int):Int)) (dft Zb):(den Zb)) (1,t8_3,()))) then
        some ((o0_3,5,()),[])
      else
        if (0:Int)≤t14_3∧t14_3<(((List.length o5_3):Nat):Int) then
        if (0:Int)≤(List.getD o5_3 (Int.toNat t14_3) (0:Int):Int)∧(List.getD o5_3 (Int.toNat t14_3) (0:Int):Int)<(((List.length o7_3):Nat):Int) then
        Ze.l3 n m0 t0_3 t1_3 t2_3 t7_3 t8_3 t10_3 t11_3 (IntKind.wrap .i64 (t14_3+1)) o0_3 o1_3 o2_3 o5_3 o6_3 (List.set o7_3 (Int.toNat (List.getD o5_3 (Int.toNat t14_3) (0:Int):Int)) (1,t1_3,()):(List (den Zb))) o8_3
        else none
        else none
      else none
      else none
    else
      if (0:Int)≤t14_3∧t14_3<(((List.length o5_3):Nat):Int) then
      if (0:Int)≤(List.getD o5_3 (Int.toNat t14_3) (0:Int):Int)∧(List.getD o5_3 (Int.toNat t14_3) (0:Int):Int)<(((List.length (o0_3.2.2.2.1:(List (den Zb)))):Nat):Int) then
      bif (!(eqT Zb (List.getD (o0_3.2.2.2.1:(List (den Zb))) (Int.toNat (List.getD o5_3 (Int.toNat t14_3) (0:Int):Int)) (dft Zb):(den Zb)) (1,t1_3,()))) then
        some ((o0_3,5,()),[])
      else
        if (0:Int)≤t14_3∧t14_3<(((List.length o5_3):Nat):Int) then
        if (0:Int)≤(List.getD o5_3 (Int.toNat t14_3) (0:Int):Int)∧(List.getD o5_3 (Int.toNat t14_3) (0:Int):Int)<(((List.length o7_3):Nat):Int) then
        Ze.l3 n m0 t0_3 t1_3 t2_3 t7_3 t8_3 t10_3 t11_3 (IntKind.wrap .i64 (t14_3+1)) o0_3 o1_3 o2_3 o5_3 o6_3 (List.set o7_3 (Int.toNat (List.getD o5_3 (Int.toNat t14_3) (0:Int):Int)) (1,t8_3,()):(List (den Zb))) o8_3
        else none
        else none
      else none
      else none
  else
    Option.bind (Xj n (o6_3.1,(o6_3.2.1:(List Int)),o8_3,o7_3,()) (1,t1_3,())) fun r2 =>
    bif (decide ((r2.1.1:Int)<0)) then
      some ((o0_3,9,()),[])
    else
      Option.bind (Xj n (o6_3.1,(o6_3.2.1:(List Int)),o8_3,o7_3,()) (1,t8_3,())) fun r3 =>
      bif (decide ((r3.1.1:Int)<0)) then
        some ((o0_3,9,()),[])
      else
        if (0:Int)≤t1_3∧t1_3<(((List.length (o0_3.2.2.1:(List Int))):Nat):Int) then
        if (0:Int)≤t8_3∧t8_3<(((List.length (o0_3.2.2.1:(List Int))):Nat):Int) then
        Option.bind (Ys n (List.getD (o0_3.2.2.1:(List Int)) (Int.toNat t1_3) (0:Int):Int) (List.getD (o0_3.2.2.1:(List Int)) (Int.toNat t8_3) (0:Int):Int) (o1_3.2.2.2.2.2.2.1:Int) (o1_3.2.2.2.2.2.2.2.2.1:Int)) fun r4 =>
        bif (!(decide ((r4.1.2.2.1:Int)=0))) then
          some ((o0_3,(r4.1.2.2.1:Int),()),[])
        else
          if (0:Int)≤t1_3∧t1_3<(((List.length o8_3):Nat):Int) then
          if (0:Int)≤t8_3∧t8_3<(((List.length (List.set o8_3 (Int.toNat t1_3) (r4.1.1:Int):(List Int))):Nat):Int) then
          some (((o6_3.1,(o6_3.2.1:(List Int)),(List.set (List.set o8_3 (Int.toNat t1_3) (r4.1.1:Int):(List Int)) (Int.toNat t8_3) (r4.1.2.1:Int):(List Int)),o7_3,()),0,()),[(0,[2]),(0,[3])])
          else none
          else none
        else none
        else none:=by kernel_rfl
theorem Ze.eq (n:Nat) (a0:(den Za)) (a1:Int) (a2:(den Zx)):Ze (n+1) a0 a1 a2 =
  if 0+(List.length (a2.2.2.2.2.2.1:(List Int)))≤1048576 then
  if (List.length (([]:List Int) ++ (a2.2.2.2.2.2.1:(List Int))))+(List.length (a2.2.2.2.2.2.2.2.1:(List Int)))≤1048576 then
  bif (decide ((a2.2.2.2.2.1:Int)<0)) then
    some ((a0,3,()),[])
  else
    bif (decide (((List.length (a0.2.1:(List Int))):Int)≤(a2.2.2.2.2.1:Int))) then
      some ((a0,3,()),[])
    else
      Ze.l0 n n a0 a1 a2 0 (a2.2.2.2.2.1:Int) 0 a0 a2 ((([]:List (List Int)),([]:List Int),([]:List Int),([]:List Int),([]:List Bool),0,0,0,()),([]:List Int),([]:List Int),([]:List (den Zb)),()) ((([]:List Int) ++ (a2.2.2.2.2.2.1:(List Int))) ++ (a2.2.2.2.2.2.2.2.1:(List Int)))
  else none
  else none:=by kernel_rfl
def Z0.res:List Sh:=[.d (.sl (.int .i64))]
@[reducible] def Z0.R:Type:=Xg [.d (.sl (.int .i64))]×Z1
def Z0 (n:Nat) (a0:(den Za)) (a1:Int):Option Z0.R:=gc n 79 [.dat Za a0 [],.dat (.int .i64) a1 []] [.d (.sl (.int .i64))]
def Z0.l0 (n m0:Nat) (t0:(den Za)) (t1:Int) (t4:(List Int)) (t6:Int) (o0:(den Za)) (o3:(List Int)):Option Z0.R :=
  lpN n ATx m0 (Qs 0 (Qj (run (gc n) n) ATp (Xe Z0.fn Z0.res) (Xe Z0.fn Z0.res)) (Xe Z0.fn Z0.res))
    [(0,.dat Za t0 []),(1,.dat (.int .i64) t1 []),(2,.ptr 0 []),(4,.dat (.sl (.int .i64)) t4 []),(5,.dat (.sl (.int .i64)) ([]:List Int) [([],some 3)]),(6,.dat (.int .i64) t6 [])]
    [.box Za o0 [],.none,.none,.arr (.int .i64) o3]
theorem Z0.l0_eq (n m0:Nat) (t0:(den Za)) (t1:Int) (t4:(List Int)) (t6:Int) (o0:(den Za)) (o3:(List Int)):Z0.l0 n (m0+1) t0 t1 t4 t6 o0 o3 =
  bif (decide (t6<((List.length (o0.2.1:(List Int))):Int))) then
    if (0:Int)≤t6∧t6<(((List.length (o0.2.1:(List Int))):Nat):Int) then
    bif (decide ((List.getD (o0.2.1:(List Int)) (Int.toNat t6) (0:Int):Int)=t1)) then
      if (List.length o3)+1≤1048576 then
      Z0.l0 n m0 t0 t1 t4 (IntKind.wrap .i64 (t6+1)) o0 (o3 ++ ([t6]:List Int))
      else none
    else
      Z0.l0 n m0 t0 t1 t4 (IntKind.wrap .i64 (t6+1)) o0 o3
    else none
  else
    some ((o3,()),[(0,[])]):=by kernel_rfl
theorem Z0.eq (n:Nat) (a0:(den Za)) (a1:Int):Z0 (n+1) a0 a1 =
  Z0.l0 n n a0 a1 ([]:List Int) 0 a0 ([]:List Int):=by kernel_rfl
def Z4.res:List Sh:=[.d (.sl Xn)]
@[reducible] def Z4.R:Type:=Xg [.d (.sl Xn)]×Z1
def Z4 (n:Nat) (a0:(den Za)) (a1:(den Zb)):Option Z4.R:=gc n 80 [.dat Za a0 [],.dat Zb a1 []] [.d (.sl Xn)]
def Z4.l0 (n m0:Nat) (t0:(den Za)) (t1:(den Zb)) (t4:(List (den Xn))) (t6:Int) (o0:(den Za)) (o1:(den Zb)) (o4:(List (den Xn))):Option Z4.R :=
  lpN n ATb m0 (Qs 0 (Qj (run (gc n) n) ATo (Xe Z4.fn Z4.res) (Xe Z4.fn Z4.res)) (Xe Z4.fn Z4.res))
    [(0,.dat Za t0 []),(1,.dat Zb t1 []),(2,.ptr 0 []),(3,.ptr 1 []),(4,.dat (.sl Xn) t4 []),(5,.dat (.sl Xn) ([]:List (den Xn)) [([],some 4)]),(6,.dat (.int .i64) t6 [])]
    [.box Za o0 [],.box Zb o1 [],.none,.none,.arr Xn o4]
theorem Z4.l0_eq (n m0:Nat) (t0:(den Za)) (t1:(den Zb)) (t4:(List (den Xn))) (t6:Int) (o0:(den Za)) (o1:(den Zb)) (o4:(List (den Xn))):Z4.l0 n (m0+1) t0 t1 t4 t6 o0 o1 o4 =
  bif (decide (t6<((List.length (o0.2.2.2.1:(List (den Zb)))):Int))) then
    Option.bind (X9 n o0 t6) fun r1 =>
    bif (eqT Zb r1.1.1 o1) then
      if (0:Int)≤t6∧t6<(((List.length (o0.2.2.2.1:(List (den Zb)))):Nat):Int) then
      if (List.length o4)+1≤1048576 then
      Z4.l0 n m0 t0 t1 t4 (IntKind.wrap .i64 (t6+1)) o0 o1 (o4 ++ ([(t6,(List.getD (o0.2.2.2.1:(List (den Zb))) (Int.toNat t6) (dft Zb):(den Zb)),())]:List (den Xn)))
      else none
      else none
    else
      Z4.l0 n m0 t0 t1 t4 (IntKind.wrap .i64 (t6+1)) o0 o1 o4
  else
    some ((o4,()),[(0,[])]):=by kernel_rfl
theorem Z4.eq (n:Nat) (a0:(den Za)) (a1:(den Zb)):Z4 (n+1) a0 a1 =
  Z4.l0 n n a0 a1 ([]:List (den Xn)) 0 a0 a1 ([]:List (den Xn)):=by kernel_rfl
@[reducible] def Yt.R:Type:=Xg [.d Zt]×Z1
def Yt (n:Nat) (a0:(den Za)) (a1:Int):Option Yt.R:=gc n 31 [.dat Za a0 [],.dat (.int .i64) a1 []] [.d Zt]
theorem Yt.eq (n:Nat) (a0:(den Za)) (a1:Int):Yt (n+1) a0 a1 =
  if (0:Int)≤a1∧a1<(((List.length (a0.2.1:(List Int))):Nat):Int) then
  if (0:Int)≤a1∧a1<(((List.length (a0.2.1:(List Int))):Nat):Int) then
  Option.bind (Z0 n a0 (List.getD (a0.2.1:(List Int)) (Int.toNat a1) (0:Int):Int)) fun r1 =>
  if (0:Int)≤a1∧a1<(((List.length (a0.2.1:(List Int))):Nat):Int) then
  Option.bind (Z4 n a0 (0,(List.getD (a0.2.1:(List Int)) (Int.toNat a1) (0:Int):Int),())) fun r2 =>
  some (((0,9,(List.getD (a0.2.1:(List Int)) (Int.toNat a1) (0:Int):Int),(r1.1.1:(List Int)),(r2.1.1:(List (den Xn))),0,()),()),[])
  else none
  else none
  else none:=by kernel_rfl
@[reducible] def Y1.R:Type:=Xg [.d Zt]×Z1
def Y1 (n:Nat) (a0:(den Za)) (a1:Int):Option Y1.R:=gc n 32 [.dat Za a0 [],.dat (.int .i64) a1 []] [.d Zt]
theorem Y1.eq (n:Nat) (a0:(den Za)) (a1:Int):Y1 (n+1) a0 a1 =
  if (0:Int)≤a1∧a1<(((List.length (a0.2.2.1:(List Int))):Nat):Int) then
  Option.bind (Z4 n a0 (1,a1,())) fun r1 =>
  some (((0,10,0,([]:List Int),(r1.1.1:(List (den Xn))),(List.getD (a0.2.2.1:(List Int)) (Int.toNat a1) (0:Int):Int),()),()),[])
  else none:=by kernel_rfl
@[reducible] def Qc.R:Type:=Xg [.d Za,.d Zt]×Z1
def Qc (n:Nat) (a0:(den Za)) (a1:Int) (a2:(den Zx)):Option Qc.R:=gc n 11 [.dat Za a0 [],.dat (.int .i64) a1 [],.dat Zx a2 []] [.d Za,.d Zt]
theorem Qc.eq (n:Nat) (a0:(den Za)) (a1:Int) (a2:(den Zx)):Qc (n+1) a0 a1 a2 =
  Option.bind (Yp n a2) fun r1 =>
  bif (!(r1.1.1:Bool)) then
    some ((a0,(2,0,0,([]:List Int),([]:List (den Xn)),0,()),()),[])
  else
    bif (decide ((a2.1:Int)=1)) then
      Option.bind (Yr n a0 a1 (a2.2.1:Int)) fun r2 =>
      bif (!(decide ((r2.1.2.2.1:Int)=0))) then
        some ((a0,((r2.1.2.2.1:Int),0,0,([]:List Int),([]:List (den Xn)),0,()),()),[])
      else
        some ((r2.1.1,(0,(a2.1:Int),(r2.1.2.1:Int),([]:List Int),([]:List (den Xn)),0,()),()),[])
    else
      bif (decide ((a2.1:Int)=2)) then
        Option.bind (Yv n a0 a1 (a2.2.2.2.2.1:Int) (a2.2.1:Int)) fun r3 =>
        bif (!(decide ((r3.1.2.2.1:Int)=0))) then
          some ((a0,((r3.1.2.2.1:Int),0,0,([]:List Int),([]:List (den Xn)),0,()),()),[])
        else
          some ((r3.1.1,(0,(a2.1:Int),(r3.1.2.1:Int),([]:List Int),([]:List (den Xn)),0,()),()),[])
      else
        bif (decide ((a2.1:Int)=3)) then
          Option.bind (Y2 n a0 a1 (a2.2.2.1:Int)) fun r4 =>
          bif (!(decide ((r4.1.2.1:Int)=0))) then
            some ((a0,((r4.1.2.1:Int),0,0,([]:List Int),([]:List (den Xn)),0,()),()),[])
          else
            some ((r4.1.1,(0,(a2.1:Int),0,([]:List Int),([]:List (den Xn)),0,()),()),[])
        else
          bif (decide ((a2.1:Int)=4)) then
            Option.bind (Yq n a0 a1 (a2.2.2.1:Int)) fun r5 =>
            bif (!(decide ((r5.1.2.1:Int)=0))) then
              some ((a0,((r5.1.2.1:Int),0,0,([]:List Int),([]:List (den Xn)),0,()),()),[])
            else
              some ((r5.1.1,(0,(a2.1:Int),0,([]:List Int),([]:List (den Xn)),0,()),()),[])
          else
            bif (decide ((a2.1:Int)=5)) then
              Option.bind (Xa n a0 a1 (a2.2.2.1:Int) (a2.2.2.2.1:Int)) fun r6 =>
              bif (!(decide ((r6.1.2.1:Int)=0))) then
                some ((a0,((r6.1.2.1:Int),0,0,([]:List Int),([]:List (den Xn)),0,()),()),[])
              else
                some ((r6.1.1,(0,(a2.1:Int),0,([]:List Int),([]:List (den Xn)),0,()),()),[])
            else
              bif (decide ((a2.1:Int)=6)) then
                Option.bind (Yx n a0 a1 (a2.2.2.1:Int) (a2.2.2.2.1:Int)) fun r7 =>
                bif (!(decide ((r7.1.2.1:Int)=0))) then
                  some ((a0,((r7.1.2.1:Int),0,0,([]:List Int),([]:List (den Xn)),0,()),()),[])
                else
                  some ((r7.1.1,(0,(a2.1:Int),0,([]:List Int),([]:List (den Xn)),0,()),()),[])
              else
                bif (decide ((a2.1:Int)=7)) then
                  Option.bind (Yw n a0 a1 (a2.2.2.1:Int) (a2.2.2.2.2.1:Int)) fun r8 =>
                  bif (!(decide ((r8.1.2.1:Int)=0))) then
                    some ((a0,((r8.1.2.1:Int),0,0,([]:List Int),([]:List (den Xn)),0,()),()),[])
                  else
                    some ((r8.1.1,(0,(a2.1:Int),0,([]:List Int),([]:List (den Xn)),0,()),()),[])
                else
                  bif (decide ((a2.1:Int)=8)) then
                    Option.bind (Ze n a0 a1 a2) fun r9 =>
                    bif (!(decide ((r9.1.2.1:Int)=0))) then
                      some ((a0,((r9.1.2.1:Int),0,0,([]:List Int),([]:List (den Xn)),0,()),()),[])
                    else
                      some ((r9.1.1,(0,(a2.1:Int),0,([]:List Int),([]:List (den Xn)),0,()),()),[])
                  else
                    bif (decide ((a2.1:Int)=9)) then
                      Option.bind (Yt n a0 a1) fun r10 =>
                      some ((a0,r10.1.1,()),[])
                    else
                      bif (decide ((a2.1:Int)=10)) then
                        Option.bind (Y1 n a0 a1) fun r11 =>
                        some ((a0,r11.1.1,()),[])
                      else
                        some ((a0,(0,(a2.1:Int),0,([]:List Int),([]:List (den Xn)),0,()),()),[]):=by kernel_rfl
def Z5.res:List Sh:=[.d .bool]
@[reducible] def Z5.R:Type:=Xg [.d .bool]×Z1
def Z5 (n:Nat) (a0:(List (den Zb))) (a1:(List (den Zb))):Option Z5.R:=gc n 34 [.dat (.sl Zb) a0 [],.dat (.sl Zb) a1 []] [.d .bool]
def Z5.l0 (n m0:Nat) (t0:(List (den Zb))) (t1:(List (den Zb))) (t4:Bool) (t5:Int):Option Z5.R :=
  lpN n ATg m0 (Qs 0 (Qj (run (gc n) n) ATj (Xe Z5.fn Z5.res) (Xe Z5.fn Z5.res)) (Xe Z5.fn Z5.res))
    [(0,.dat (.sl Zb) t0 []),(1,.dat (.sl Zb) t1 []),(4,.dat .bool t4 []),(5,.dat (.int .i64) t5 [])]
    []
theorem Z5.l0_eq (n m0:Nat) (t0:(List (den Zb))) (t1:(List (den Zb))) (t4:Bool) (t5:Int):Z5.l0 n (m0+1) t0 t1 t4 t5 =
  bif (decide (t5<((List.length t0):Int))) then
    if (0:Int)≤t5∧t5<(((List.length t0):Nat):Int) then
    if (0:Int)≤t5∧t5<(((List.length t1):Nat):Int) then
    bif (!(eqT Zb (List.getD t0 (Int.toNat t5) (dft Zb):(den Zb)) (List.getD t1 (Int.toNat t5) (dft Zb):(den Zb)))) then
      some ((false,()),[])
    else
      Z5.l0 n m0 t0 t1 t4 (IntKind.wrap .i64 (t5+1))
    else none
    else none
  else
    some ((true,()),[]):=by kernel_rfl
theorem Z5.eq (n:Nat) (a0:(List (den Zb))) (a1:(List (den Zb))):Z5 (n+1) a0 a1 =
  bif (!(decide (((List.length a0):Int)=((List.length a1):Int)))) then
    some ((false,()),[])
  else
    Z5.l0 n n a0 a1 false 0:=by kernel_rfl
def Zq.res:List Sh:=[.d .bool]
@[reducible] def Zq.R:Type:=Xg [.d .bool]×Z1
def Zq (n:Nat) (a0:(den Za)) (a1:(den Za)):Option Zq.R:=gc n 12 [.dat Za a0 [],.dat Za a1 []] [.d .bool]
def Zq.l0 (n m0:Nat) (t0:(den Za)) (t1:(den Za)) (t4:Bool) (t7:Int) (o0:(den Za)) (o1:(den Za)) (o2:(den Z6)) (o3:(den Z6)):Option Zq.R :=
  lpN n AL4 m0 (Qs 0 (Qj (run (gc n) n) AOk (Xe Zq.fn Zq.res) (Xe Zq.fn Zq.res)) (Xe Zq.fn Zq.res))
    [(0,.dat Za t0 []),(1,.dat Za t1 []),(2,.ptr 0 []),(3,.ptr 1 []),(4,.dat .bool t4 []),(5,.ptr 2 []),(6,.ptr 3 []),(7,.dat (.int .i64) t7 [])]
    [.box Za o0 [],.box Za o1 [],.box Z6 o2 [],.box Z6 o3 []]
def Zq.l1 (n m0:Nat) (t0_1:(den Za)) (t1_1:(den Za)) (t4_1:Bool) (t7_1:Int) (t8_1:Int) (o0_1:(den Za)) (o1_1:(den Za)) (o2_1:(den Z6)) (o3_1:(den Z6)):Option Zq.R :=
  lpN n AM5 m0 (Qs 2 (Qj (run (gc n) n) AMj (Xe Zq.fn Zq.res) (Xe Zq.fn Zq.res)) (Xe Zq.fn Zq.res))
    [(0,.dat Za t0_1 []),(1,.dat Za t1_1 []),(2,.ptr 0 []),(3,.ptr 1 []),(4,.dat .bool t4_1 []),(5,.ptr 2 []),(6,.ptr 3 []),(7,.dat (.int .i64) t7_1 []),(8,.dat (.int .i64) t8_1 [])]
    [.box Za o0_1 [],.box Za o1_1 [],.box Z6 o2_1 [],.box Z6 o3_1 []]
theorem Zq.l0_eq (n m0:Nat) (t0:(den Za)) (t1:(den Za)) (t4:Bool) (t7:Int) (o0:(den Za)) (o1:(den Za)) (o2:(den Z6)) (o3:(den Z6)):Zq.l0 n (m0+1) t0 t1 t4 t7 o0 o1 o2 o3 =
  bif (decide (t7<((List.length (o2.1:(List (List Int)))):Int))) then
    if (0:Int)≤t7∧t7<(((List.length (o2.1:(List (List Int)))):Nat):Int) then
    if (0:Int)≤t7∧t7<(((List.length (o3.1:(List (List Int)))):Nat):Int) then
    bif (!(eqT (.arr 4 (.int .i64)) (List.getD (o2.1:(List (List Int))) (Int.toNat t7) (dft (.arr 4 (.int .i64))):(List Int)) (List.getD (o3.1:(List (List Int))) (Int.toNat t7) (dft (.arr 4 (.int .i64))):(List Int)))) then
      some ((false,()),[])
    else
      Zq.l0 n m0 t0 t1 t4 (IntKind.wrap .i64 (t7+1)) o0 o1 o2 o3
    else none
    else none
  else
    Zq.l1 n n t0 t1 t4 t7 0 o0 o1 o2 o3:=by kernel_rfl
theorem Zq.l1_eq (n m0:Nat) (t0_1:(den Za)) (t1_1:(den Za)) (t4_1:Bool) (t7_1:Int) (t8_1:Int) (o0_1:(den Za)) (o1_1:(den Za)) (o2_1:(den Z6)) (o3_1:(den Z6)):Zq.l1 n (m0+1) t0_1 t1_1 t4_1 t7_1 t8_1 o0_1 o1_1 o2_1 o3_1 =
  bif (decide (t8_1<((List.length (o2_1.2.2.2.2.1:(List Bool))):Int))) then
    if (0:Int)≤t8_1∧t8_1<(((List.length (o2_1.2.2.2.2.1:(List Bool))):Nat):Int) then
    if (0:Int)≤t8_1∧t8_1<(((List.length (o3_1.2.2.2.2.1:(List Bool))):Nat):Int) then
    bif (!(eqT .bool (List.getD (o2_1.2.2.2.2.1:(List Bool)) (Int.toNat t8_1) false:Bool) (List.getD (o3_1.2.2.2.2.1:(List Bool)) (Int.toNat t8_1) false:Bool))) then
      some ((false,()),[])
    else
      Zq.l1 n m0 t0_1 t1_1 t4_1 t7_1 (IntKind.wrap .i64 (t8_1+1)) o0_1 o1_1 o2_1 o3_1
    else none
    else none
  else
    Option.bind (Z2 n (o2_1.2.1:(List Int)) (o3_1.2.1:(List Int))) fun r1 =>
    bif (r1.1.1:Bool) then
      Option.bind (Z2 n (o2_1.2.2.1:(List Int)) (o3_1.2.2.1:(List Int))) fun r2 =>
      bif (r2.1.1:Bool) then
        Option.bind (Z2 n (o2_1.2.2.2.1:(List Int)) (o3_1.2.2.2.1:(List Int))) fun r3 =>
        bif (r3.1.1:Bool) then
          Option.bind (Z2 n (o0_1.2.1:(List Int)) (o1_1.2.1:(List Int))) fun r4 =>
          bif (r4.1.1:Bool) then
            Option.bind (Z2 n (o0_1.2.2.1:(List Int)) (o1_1.2.2.1:(List Int))) fun r5 =>
            bif (r5.1.1:Bool) then
              Option.bind (Z5 n (o0_1.2.2.2.1:(List (den Zb))) (o1_1.2.2.2.1:(List (den Zb)))) fun r6 =>
              some (((r6.1.1:Bool),()),[])
            else
              some ((false,()),[])
          else
            some ((false,()),[])
        else
          some ((false,()),[])
      else
        some ((false,()),[])
    else
      some ((false,()),[]):=by kernel_rfl
theorem Zq.eq (n:Nat) (a0:(den Za)) (a1:(den Za)):Zq (n+1) a0 a1 =
  bif (!(decide ((a0.1.2.2.2.2.2.1:Int)=(a1.1.2.2.2.2.2.1:Int)))) then
    some ((false,()),[])
  else
    bif (!(decide ((a0.1.2.2.2.2.2.2.1:Int)=(a1.1.2.2.2.2.2.2.1:Int)))) then
      some ((false,()),[])
    else
      bif (!(decide ((a0.1.2.2.2.2.2.2.2.1:Int)=(a1.1.2.2.2.2.2.2.2.1:Int)))) then
        some ((false,()),[])
      else
        bif (!(decide (((List.length (a0.1.1:(List (List Int)))):Int)=((List.length (a1.1.1:(List (List Int)))):Int)))) then
          some ((false,()),[])
        else
          bif (!(decide (((List.length (a0.1.2.2.2.2.1:(List Bool))):Int)=((List.length (a1.1.2.2.2.2.1:(List Bool))):Int)))) then
            some ((false,()),[])
          else
            Zq.l0 n n a0 a1 false 0 a0 a1 a0.1 a1.1:=by kernel_rfl
@[reducible] def X8.R:Type:=Xg [.d .bool]×Z1
def X8 (n:Nat) (a0:(den Za)) (a1:Int) (a2:(den Zx)):Option X8.R:=gc n 3 [.dat Za a0 [],.dat (.int .u8) a1 [],.dat Zx a2 []] [.d .bool]
theorem X8.eq (n:Nat) (a0:(den Za)) (a1:Int) (a2:(den Zx)):X8 (n+1) a0 a1 a2 =
  Option.bind (Yi n) fun r1 =>
  bif (!(r1.1.1:Bool)) then
    Option.bind (Yi n) fun r2 =>
    some (((r2.1.1:Bool),()),[])
  else
    Option.bind (Yu n a0) fun r3 =>
    bif (!(r3.1.1:Bool)) then
      Option.bind (Yi n) fun r4 =>
      some (((r4.1.1:Bool),()),[])
    else
      Option.bind (Y3 n a2) fun r5 =>
      bif (!(r5.1.1:Bool)) then
        Option.bind (Yi n) fun r6 =>
        some (((r6.1.1:Bool),()),[])
      else
        if ((List.length (a0.2.1:(List Int))):Int)=0 then none else
        Option.bind (Vh n a0 (Int.tmod (IntKind.wrap .i64 (a1)) ((List.length (a0.2.1:(List Int))):Int)) a2) fun r7 =>
        Option.bind (Qc n a0 (Int.tmod (IntKind.wrap .i64 (a1)) ((List.length (a0.2.1:(List Int))):Int)) a2) fun r8 =>
        Option.bind (Zq n r7.1.1 r8.1.1) fun r9 =>
        bif (r9.1.1:Bool) then
          Option.bind (Yf n r7.1.2.1 r8.1.2.1) fun r10 =>
          some (((r10.1.1:Bool),()),[])
        else
          some ((false,()),[]):=by kernel_rfl
end Go.Proofs.YtpemapoblhleoaaGreatDoor.Ghost
