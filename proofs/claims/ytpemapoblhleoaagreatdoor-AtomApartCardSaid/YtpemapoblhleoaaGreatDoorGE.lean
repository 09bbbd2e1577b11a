/- What each function and each loop comes to, one step. Conditions: none. -/
import Derived.Test.YtpemapoblhleoaaGreatDoorGSp
import Derived.KernelRfl
set_option linter.unusedVariables false
set_option linter.unusedSimpArgs false
set_option linter.unusedSectionVars false
set_option linter.unnecessarySimpa false
namespace Go.Proofs.YtpemapoblhleoaaGreatDoor.Ghost
open Go
abbrev gc (n:Nat):Calls:=Km prog sp n
abbrev lpN {R:Type} (n:Nat) (c:Cd) (m:Nat) (K:Kt R) (s:Xm) (h:Y5):Option R:=Mm (fun Kn K s h=>run (gc n) n c Kn K s h) m K s h
@[reducible] def Jq.R:Type:=Z8 [.d Za]×Zz
def Jq (n:Nat) (a0:(den Zu)):Option Jq.R:=gc n 18 [.dat Zu a0 []] [.d Za]
@[reducible] def Kl.R:Type:=Z8 [.d .str]×Zz
def Kl (n:Nat) (a0:(List ByteArray)) (a1:Int):Option Kl.R:=gc n 81 [.dat (.sl .str) a0 [],.dat (.int .i64) a1 []] [.d .str]
theorem Kl.eq (n:Nat) (a0:(List ByteArray)) (a1:Int):Kl (n+1) a0 a1 =
  bif (decide (a1<0)) then
    some (((⟨#[]⟩:ByteArray),()),[])
  else
    bif (decide (((List.length a0):Int)≤a1)) then
      some (((⟨#[]⟩:ByteArray),()),[])
    else
      if (0:Int)≤a1∧a1<(((List.length a0):Nat):Int) then
      some (((List.getD a0 (Int.toNat a1) (dft .str):ByteArray),()),[])
      else none:=by kernel_rfl
@[reducible] def K7.R:Type:=Z8 [.d .str]×Zz
def K7 (n:Nat) (a0:Int):Option K7.R:=gc n 45 [.dat (.int .i64) a0 []] [.d .str]
theorem K7.eq (n:Nat) (a0:Int):K7 (n+1) a0 =
  Option.bind (Kl n (L2:(List ByteArray)) a0) fun r1 =>
  some (((r1.1.1:ByteArray),()),[]):=by kernel_rfl
@[reducible] def Qb.R:Type:=Z8 [.d Z1]×Zz
def Qb (n:Nat) (a0:(den Z1)):Option Qb.R:=gc n 47 [.dat Z1 a0 []] [.d Z1]
theorem Qb.eq (n:Nat) (a0:(den Z1)):Qb (n+1) a0 =
  bif (decide ((a0.1:Int)=1)) then
    some ((((a0.1:Int),(a0.2.1:Int),0,0,0,([]:List Int),0,([]:List Int),0,()),()),[])
  else
    bif (decide ((a0.1:Int)=2)) then
      some ((((a0.1:Int),(a0.2.1:Int),0,0,(a0.2.2.2.2.1:Int),([]:List Int),0,([]:List Int),0,()),()),[])
    else
      bif (decide ((a0.1:Int)=3)) then
        bif (decide ((a0.1:Int)=3)) then
          some ((((a0.1:Int),0,(a0.2.2.1:Int),0,0,([]:List Int),0,([]:List Int),0,()),()),[])
        else
          bif (decide ((a0.1:Int)=5)) then
            bif (decide ((a0.1:Int)=5)) then
              some ((((a0.1:Int),0,(a0.2.2.1:Int),(a0.2.2.2.1:Int),0,([]:List Int),0,([]:List Int),0,()),()),[])
            else
              bif (decide ((a0.1:Int)=7)) then
                some ((((a0.1:Int),0,(a0.2.2.1:Int),0,(a0.2.2.2.2.1:Int),([]:List Int),0,([]:List Int),0,()),()),[])
              else
                bif (decide ((a0.1:Int)=8)) then
                  some ((((a0.1:Int),0,0,0,(a0.2.2.2.2.1:Int),(a0.2.2.2.2.2.1:(List Int)),(a0.2.2.2.2.2.2.1:Int),(a0.2.2.2.2.2.2.2.1:(List Int)),(a0.2.2.2.2.2.2.2.2.1:Int),()),()),[])
                else
                  some ((((a0.1:Int),0,0,0,0,([]:List Int),0,([]:List Int),0,()),()),[])
          else
            bif (decide ((a0.1:Int)=6)) then
              some ((((a0.1:Int),0,(a0.2.2.1:Int),(a0.2.2.2.1:Int),0,([]:List Int),0,([]:List Int),0,()),()),[])
            else
              bif (decide ((a0.1:Int)=7)) then
                some ((((a0.1:Int),0,(a0.2.2.1:Int),0,(a0.2.2.2.2.1:Int),([]:List Int),0,([]:List Int),0,()),()),[])
              else
                bif (decide ((a0.1:Int)=8)) then
                  some ((((a0.1:Int),0,0,0,(a0.2.2.2.2.1:Int),(a0.2.2.2.2.2.1:(List Int)),(a0.2.2.2.2.2.2.1:Int),(a0.2.2.2.2.2.2.2.1:(List Int)),(a0.2.2.2.2.2.2.2.2.1:Int),()),()),[])
                else
                  some ((((a0.1:Int),0,0,0,0,([]:List Int),0,([]:List Int),0,()),()),[])
      else
        bif (decide ((a0.1:Int)=4)) then
          some ((((a0.1:Int),0,(a0.2.2.1:Int),0,0,([]:List Int),0,([]:List Int),0,()),()),[])
        else
          bif (decide ((a0.1:Int)=5)) then
            bif (decide ((a0.1:Int)=5)) then
              some ((((a0.1:Int),0,(a0.2.2.1:Int),(a0.2.2.2.1:Int),0,([]:List Int),0,([]:List Int),0,()),()),[])
            else
              bif (decide ((a0.1:Int)=7)) then
                some ((((a0.1:Int),0,(a0.2.2.1:Int),0,(a0.2.2.2.2.1:Int),([]:List Int),0,([]:List Int),0,()),()),[])
              else
                bif (decide ((a0.1:Int)=8)) then
                  some ((((a0.1:Int),0,0,0,(a0.2.2.2.2.1:Int),(a0.2.2.2.2.2.1:(List Int)),(a0.2.2.2.2.2.2.1:Int),(a0.2.2.2.2.2.2.2.1:(List Int)),(a0.2.2.2.2.2.2.2.2.1:Int),()),()),[])
                else
                  some ((((a0.1:Int),0,0,0,0,([]:List Int),0,([]:List Int),0,()),()),[])
          else
            bif (decide ((a0.1:Int)=6)) then
              some ((((a0.1:Int),0,(a0.2.2.1:Int),(a0.2.2.2.1:Int),0,([]:List Int),0,([]:List Int),0,()),()),[])
            else
              bif (decide ((a0.1:Int)=7)) then
                some ((((a0.1:Int),0,(a0.2.2.1:Int),0,(a0.2.2.2.2.1:Int),([]:List Int),0,([]:List Int),0,()),()),[])
              else
                bif (decide ((a0.1:Int)=8)) then
                  some ((((a0.1:Int),0,0,0,(a0.2.2.2.2.1:Int),(a0.2.2.2.2.2.1:(List Int)),(a0.2.2.2.2.2.2.1:Int),(a0.2.2.2.2.2.2.2.1:(List Int)),(a0.2.2.2.2.2.2.2.2.1:Int),()),()),[])
                else
                  some ((((a0.1:Int),0,0,0,0,([]:List Int),0,([]:List Int),0,()),()),[]):=by kernel_rfl
@[reducible] def Uf.R:Type:=Z8 [.d Ua]×Zz
def Uf (n:Nat) (a0:(den Z1)):Option Uf.R:=gc n 82 [.dat Z1 a0 []] [.d Ua]
theorem Uf.eq (n:Nat) (a0:(den Z1)):Uf (n+1) a0 =
  some ((((a0.1:Int),(a0.2.1:Int),(a0.2.2.1:Int),(a0.2.2.2.1:Int),(a0.2.2.2.2.1:Int),(a0.2.2.2.2.2.2.1:Int),(a0.2.2.2.2.2.2.2.2.1:Int),()),()),[]):=by kernel_rfl
def Zl.res:List Sh:=[.d .bool]
@[reducible] def Zl.R:Type:=Z8 [.d .bool]×Zz
def Zl (n:Nat) (a0:(List Int)) (a1:(List Int)):Option Zl.R:=gc n 83 [.dat (.sl (.int .i64)) a0 [],.dat (.sl (.int .i64)) a1 []] [.d .bool]
def Zl.l0 (n m0:Nat) (t0:(List Int)) (t1:(List Int)) (t4:Bool) (t12:Int) (t13:Int):Option Zl.R :=
  lpN n AKi m0 (Jl 0 (Q2 (run (gc n) n) AQ2 (Xa Zl.fn Zl.res) (Xa Zl.fn Zl.res)) (Xa Zl.fn Zl.res))
    [(0,.dat (.sl (.int .i64)) t0 []),(1,.dat (.sl (.int .i64)) t1 []),(4,.dat .bool t4 []),(12,.dat (.int .i64) t12 []),(13,.dat (.int .i64) t13 [])]
    []
theorem Zl.l0_eq (n m0:Nat) (t0:(List Int)) (t1:(List Int)) (t4:Bool) (t12:Int) (t13:Int):Zl.l0 n (m0+1) t0 t1 t4 t12 t13 =
  bif (decide (t13<t12)) then
    if (0:Int)≤t13∧t13<(((List.length t0):Nat):Int) then
    if (0:Int)≤t13∧t13<(((List.length t1):Nat):Int) then
    bif (!(decide ((List.getD t0 (Int.toNat t13) (0:Int):Int)=(List.getD t1 (Int.toNat t13) (0:Int):Int)))) then
      some ((false,()),[])
    else
      Zl.l0 n m0 t0 t1 t4 t12 (IntKind.wrap .i64 (t13+1))
    else none
    else none
  else
    some ((true,()),[]):=by kernel_rfl
theorem Zl.eq (n:Nat) (a0:(List Int)) (a1:(List Int)):Zl (n+1) a0 a1 =
  bif (!(decide (((List.length a0):Int)=((List.length a1):Int)))) then
    some ((false,()),[])
  else
    Zl.l0 n n a0 a1 false ((List.length a0):Int) 0:=by kernel_rfl
@[reducible] def K8.R:Type:=Z8 [.d .bool]×Zz
def K8 (n:Nat) (a0:(den Z1)) (a1:(den Z1)):Option K8.R:=gc n 46 [.dat Z1 a0 [],.dat Z1 a1 []] [.d .bool]
theorem K8.eq (n:Nat) (a0:(den Z1)) (a1:(den Z1)):K8 (n+1) a0 a1 =
  Option.bind (Uf n a0) fun r1 =>
  Option.bind (Uf n a1) fun r2 =>
  bif (eqT Ua r1.1.1 r2.1.1) then
    Option.bind (Zl n (a0.2.2.2.2.2.1:(List Int)) (a1.2.2.2.2.2.1:(List Int))) fun r3 =>
    bif (r3.1.1:Bool) then
      Option.bind (Zl n (a0.2.2.2.2.2.2.2.1:(List Int)) (a1.2.2.2.2.2.2.2.1:(List Int))) fun r4 =>
      some (((r4.1.1:Bool),()),[])
    else
      some ((false,()),[])
  else
    some ((false,()),[]):=by kernel_rfl
@[reducible] def Gh.R:Type:=Z8 [.d .str]×Zz
def Gh (n:Nat) (a0:Int):Option Gh.R:=gc n 48 [.dat (.int .i64) a0 []] [.d .str]
theorem Gh.eq (n:Nat) (a0:Int):Gh (n+1) a0 =
  Option.bind (Kl n (L3:(List ByteArray)) a0) fun r1 =>
  some (((r1.1.1:ByteArray),()),[]):=by kernel_rfl
@[reducible] def Ka.R:Type:=Z8 [.d .bool]×Zz
def Ka (n:Nat) (a0:Int):Option Ka.R:=gc n 49 [.dat (.int .i64) a0 []] [.d .bool]
theorem Ka.eq (n:Nat) (a0:Int):Ka (n+1) a0 =
  bif (decide (0≤a0)) then
    some (((decide (a0≤1073741824)),()),[])
  else
    some ((false,()),[]):=by kernel_rfl
@[reducible] def V2.R:Type:=Z8 [.d .bool]×Zz
def V2 (n:Nat) (a0:Int):Option V2.R:=gc n 85 [.dat (.int .i64) a0 []] [.d .bool]
theorem V2.eq (n:Nat) (a0:Int):V2 (n+1) a0 =
  Option.bind (Ka n a0) fun r1 =>
  some (((!(r1.1.1:Bool)),()),[]):=by kernel_rfl
def Zp.res:List Sh:=[.d (.int .i64)]
@[reducible] def Zp.R:Type:=Z8 [.d (.int .i64)]×Zz
def Zp (n:Nat) (a0:(List Int)):Option Zp.R:=gc n 127 [.dat (.sl (.int .i64)) a0 [],.clo 85 []] [.d (.int .i64)]
def Zp.l0 (n m0:Nat) (t0:(List Int)) (t4:Int) (t7:Int) (t8:Int):Option Zp.R :=
  lpN n AA9 m0 (Jl 0 (Q2 (run (gc n) n) AA8 (Xa Zh.fn Zp.res) (Xa Zh.fn Zp.res)) (Xa Zh.fn Zp.res))
    [(0,.dat (.sl (.int .i64)) t0 []),(1,.clo 85 []),(4,.dat (.int .i64) t4 []),(7,.dat (.int .i64) t7 []),(8,.dat (.int .i64) t8 [])]
    []
theorem Zp.l0_eq (n m0:Nat) (t0:(List Int)) (t4:Int) (t7:Int) (t8:Int):Zp.l0 n (m0+1) t0 t4 t7 t8 =
  bif (decide (t8<t7)) then
    if (0:Int)≤t8∧t8<(((List.length t0):Nat):Int) then
    Option.bind (V2 n (List.getD t0 (Int.toNat t8) (0:Int):Int)) fun r1 =>
    bif (r1.1.1:Bool) then
      some ((t8,()),[])
    else
      Zp.l0 n m0 t0 t4 t7 (IntKind.wrap .i64 (t8+1))
    else none
  else
    some (((-1),()),[]):=by kernel_rfl
theorem Zp.eq (n:Nat) (a0:(List Int)):Zp (n+1) a0 =
  Zp.l0 n n a0 0 ((List.length a0):Int) 0:=by kernel_rfl
@[reducible] def Xv.R:Type:=Z8 [.d .bool]×Zz
def Xv (n:Nat) (a0:(List Int)):Option Xv.R:=gc n 84 [.dat (.sl (.int .i64)) a0 [],.clo 85 []] [.d .bool]
theorem Xv.eq (n:Nat) (a0:(List Int)):Xv (n+1) a0 =
  Option.bind (Zp n a0) fun r1 =>
  some (((decide (0≤(r1.1.1:Int))),()),[]):=by kernel_rfl
@[reducible] def Hx.R:Type:=Z8 [.d .bool]×Zz
def Hx (n:Nat) (a0:(List Int)):Option Hx.R:=gc n 50 [.dat (.sl (.int .i64)) a0 []] [.d .bool]
theorem Hx.eq (n:Nat) (a0:(List Int)):Hx (n+1) a0 =
  bif (decide (((List.length a0):Int)≤16)) then
    Option.bind (Xv n a0) fun r1 =>
    some (((!(r1.1.1:Bool)),()),[])
  else
    some ((false,()),[]):=by kernel_rfl
@[reducible] def K0.R:Type:=Z8 [.d .bool]×Zz
def K0 (n:Nat) (a0:(den Z1)):Option K0.R:=gc n 21 [.dat Z1 a0 []] [.d .bool]
theorem K0.eq (n:Nat) (a0:(den Z1)):K0 (n+1) a0 =
  Option.bind (K7 n (a0.1:Int)) fun r1 =>
  bif (!(eqT .str (r1.1.1:ByteArray) (⟨#[]⟩:ByteArray))) then
    Option.bind (Qb n a0) fun r2 =>
    Option.bind (K8 n a0 r2.1.1) fun r3 =>
    bif (r3.1.1:Bool) then
      Option.bind (Gh n (a0.2.1:Int)) fun r4 =>
      bif (!(eqT .str (r4.1.1:ByteArray) (⟨#[]⟩:ByteArray))) then
        Option.bind (Ka n (a0.2.2.1:Int)) fun r5 =>
        bif (r5.1.1:Bool) then
          Option.bind (Ka n (a0.2.2.2.1:Int)) fun r6 =>
          bif (r6.1.1:Bool) then
            Option.bind (Ka n (a0.2.2.2.2.1:Int)) fun r7 =>
            bif (r7.1.1:Bool) then
              Option.bind (Ka n (a0.2.2.2.2.2.2.1:Int)) fun r8 =>
              bif (r8.1.1:Bool) then
                Option.bind (Ka n (a0.2.2.2.2.2.2.2.2.1:Int)) fun r9 =>
                bif (r9.1.1:Bool) then
                  Option.bind (Hx n (a0.2.2.2.2.2.1:(List Int))) fun r10 =>
                  bif (r10.1.1:Bool) then
                    Option.bind (Hx n (a0.2.2.2.2.2.2.2.1:(List Int))) fun r11 =>
                    some (((r11.1.1:Bool),()),[])
                  else
                    some ((false,()),[])
                else
                  some ((false,()),[])
              else
                some ((false,()),[])
            else
              some ((false,()),[])
          else
            some ((false,()),[])
        else
          some ((false,()),[])
      else
        some ((false,()),[])
    else
      some ((false,()),[])
  else
    some ((false,()),[]):=by kernel_rfl
@[reducible] def Wy.R:Type:=Z8 [.fmap [1,2,3,4,5,6,7,8,9,10] [.clo 86 [.refv (.clo 52 [])],.clo 86 [.refv (.clo 54 [])],.clo 91 [.refv (.clo 57 [])],.clo 91 [.refv (.clo 59 [])],.clo 91 [.refv (.clo 61 [])],.clo 91 [.refv (.clo 63 [])],.clo 91 [.refv (.clo 65 [])],.clo 91 [.refv (.clo 67 [])],.clo 123 [.refv (.clo 69 [])],.clo 123 [.refv (.clo 70 [])]]]×Zz
def Wy (n:Nat):Option Wy.R:=gc n 22 [] [.fmap [1,2,3,4,5,6,7,8,9,10] [.clo 86 [.refv (.clo 52 [])],.clo 86 [.refv (.clo 54 [])],.clo 91 [.refv (.clo 57 [])],.clo 91 [.refv (.clo 59 [])],.clo 91 [.refv (.clo 61 [])],.clo 91 [.refv (.clo 63 [])],.clo 91 [.refv (.clo 65 [])],.clo 91 [.refv (.clo 67 [])],.clo 123 [.refv (.clo 69 [])],.clo 123 [.refv (.clo 70 [])]]]
@[reducible] def H3.R:Type:=Z8 [.clo 138 [.ref Za,.ref (.int .i64)]]×Zz
def H3 (n:Nat) (a0:(den Za)) (a1:Int):Option H3.R:=gc n 131 [.dat Za a0 [],.dat (.int .i64) a1 []] [.clo 138 [.ref Za,.ref (.int .i64)]]
theorem H3.eq (n:Nat) (a0:(den Za)) (a1:Int):H3 (n+1) a0 a1 =
  some (((a0,a1,()),()),[]):=by kernel_rfl
@[reducible] def Qc.R:Type:=Z8 [.d (.sl Zb)]×Zz
def Qc (n:Nat) (a0:(den Za)) (a1:Int):Option Qc.R:=gc n 132 [.clo 138 [.ref Za a0,.ref (.int .i64) a1]] [.d (.sl Zb)]
@[reducible] def Vq.R:Type:=Z8 [.d Zb]×Zz
def Vq (n:Nat) (a0:(den Za)) (a1:Int):Option Vq.R:=gc n 130 [.dat Za a0 [],.dat (.int .i64) a1 []] [.d Zb]
theorem Vq.eq (n:Nat) (a0:(den Za)) (a1:Int):Vq (n+1) a0 a1 =
  Option.bind (H3 n a0 a1) fun r1 =>
  Option.bind (Qc n r1.1.1.1 (r1.1.1.2.1:Int)) fun r2 =>
  if (0:Int)≤(IntKind.wrap .i64 (((List.length (r2.1.1:(List (den Zb)))):Int) - 1))∧(IntKind.wrap .i64 (((List.length (r2.1.1:(List (den Zb)))):Int) - 1))<(((List.length (r2.1.1:(List (den Zb)))):Nat):Int) then
  some (((List.getD (r2.1.1:(List (den Zb))) (Int.toNat (IntKind.wrap .i64 (((List.length (r2.1.1:(List (den Zb)))):Int) - 1))) (dft Zb):(den Zb)),()),[])
  else none:=by kernel_rfl
def Xn.res:List Sh:=[.d (.sl X7)]
@[reducible] def Xn.R:Type:=Z8 [.d (.sl X7)]×Zz
def Xn (n:Nat) (a0:(den Za)) (a1:(den Zb)):Option Xn.R:=gc n 125 [.dat Za a0 [],.dat Zb a1 []] [.d (.sl X7)]
def Xn.l0 (n m0:Nat) (t0:(den Za)) (t1:(den Zb)) (t4:(List (den X7))) (t9:(List (den Zb))) (t10:Int) (t11:Int) (o0:(den Za)) (o1:(den Zb)) (o5:(List (den X7))):Option Xn.R :=
  lpN n AJu m0 (Jl 0 (Q2 (run (gc n) n) AJt (Xa Xn.fn Xn.res) (Xa Xn.fn Xn.res)) (Xa Xn.fn Xn.res))
    [(0,.dat Za t0 []),(1,.dat Zb t1 []),(2,.ptr 0 []),(3,.ptr 1 []),(4,.dat (.sl X7) t4 []),(5,.dat (.sl X7) ([]:List (den X7)) [([],some 5)]),(9,.dat (.sl Zb) t9 []),(10,.dat (.int .i64) t10 []),(11,.dat (.int .i64) t11 [])]
    [.box Za o0 [],.box Zb o1 [],.none,.none,.none,.arr X7 o5]
theorem Xn.l0_eq (n m0:Nat) (t0:(den Za)) (t1:(den Zb)) (t4:(List (den X7))) (t9:(List (den Zb))) (t10:Int) (t11:Int) (o0:(den Za)) (o1:(den Zb)) (o5:(List (den X7))):Xn.l0 n (m0+1) t0 t1 t4 t9 t10 t11 o0 o1 o5 =
  bif (decide (t11<t10)) then
    if (0:Int)≤t11∧t11<(((List.length t9):Nat):Int) then
    Option.bind (Vq n o0 t11) fun r1 =>
    bif (eqT Zb r1.1.1 o1) then
      if (List.length o5)+1≤1048576 then
      Xn.l0 n m0 t0 t1 t4 t9 t10 (IntKind.wrap .i64 (t11+1)) o0 o1 (o5 ++ ([(t11,(List.getD t9 (Int.toNat t11) (dft Zb):(den Zb)),())]:List (den X7)))
      else none
    else
      Xn.l0 n m0 t0 t1 t4 t9 t10 (IntKind.wrap .i64 (t11+1)) o0 o1 o5
    else none
  else
    some ((o5,()),[(0,[])]):=by kernel_rfl
theorem Xn.eq (n:Nat) (a0:(den Za)) (a1:(den Zb)):Xn (n+1) a0 a1 =
  Xn.l0 n n a0 a1 ([]:List (den X7)) (a0.2.2.2.1:(List (den Zb))) ((List.length (a0.2.2.2.1:(List (den Zb)))):Int) 0 a0 a1 ([]:List (den X7)):=by kernel_rfl
@[reducible] def V6.R:Type:=Z8 [.d Zn]×Zz
def V6 (n:Nat) (a0:(den Za)) (a1:Int):Option V6.R:=gc n 70 [.dat Za a0 [],.dat (.int .i64) a1 []] [.d Zn]
theorem V6.eq (n:Nat) (a0:(den Za)) (a1:Int):V6 (n+1) a0 a1 =
  if (0:Int)≤a1∧a1<(((List.length (a0.2.2.1:(List Int))):Nat):Int) then
  Option.bind (Xn n a0 (1,a1,())) fun r1 =>
  some (((0,10,0,([]:List Int),(r1.1.1:(List (den X7))),(List.getD (a0.2.2.1:(List Int)) (Int.toNat a1) (0:Int):Int),()),()),[])
  else none:=by kernel_rfl
@[reducible] def Y2.R:Type:=Z8 [.d Za,.d Zn]×Zz
def Y2 (n:Nat) (a0:(den Za)) (a1:Int) (a2:(den Z1)):Option Y2.R:=gc n 123 [.dat Za a0 [],.dat (.int .i64) a1 [],.dat Z1 a2 [],.refv (.clo 70 [])] [.d Za,.d Zn]
theorem Y2.eq (n:Nat) (a0:(den Za)) (a1:Int) (a2:(den Z1)):Y2 (n+1) a0 a1 a2 =
  Option.bind (V6 n a0 a1) fun r1 =>
  some ((a0,r1.1.1,()),[]):=by kernel_rfl
def Z7.res:List Sh:=[.d (.sl (.int .i64))]
@[reducible] def Z7.R:Type:=Z8 [.d (.sl (.int .i64))]×Zz
def Z7 (n:Nat) (a0:(den Za)) (a1:Int):Option Z7.R:=gc n 124 [.dat Za a0 [],.dat (.int .i64) a1 []] [.d (.sl (.int .i64))]
def Z7.l0 (n m0:Nat) (t0:(den Za)) (t1:Int) (t4:(List Int)) (t9:Int) (t10:Int) (o0:(den Za)) (o3:(List Int)):Option Z7.R :=
  lpN n AJs m0 (Jl 0 (Q2 (run (gc n) n) AJr (Xa Z7.fn Z7.res) (Xa Z7.fn Z7.res)) (Xa Z7.fn Z7.res))
    [(0,.dat Za t0 []),(1,.dat (.int .i64) t1 []),(2,.ptr 0 []),(4,.dat (.sl (.int .i64)) t4 []),(5,.dat (.sl (.int .i64)) ([]:List Int) [([],some 3)]),(9,.dat (.int .i64) t9 []),(10,.dat (.int .i64) t10 [])]
    [.box Za o0 [],.none,.none,.arr (.int .i64) o3]
theorem Z7.l0_eq (n m0:Nat) (t0:(den Za)) (t1:Int) (t4:(List Int)) (t9:Int) (t10:Int) (o0:(den Za)) (o3:(List Int)):Z7.l0 n (m0+1) t0 t1 t4 t9 t10 o0 o3 =
  bif (decide (t10<t9)) then
    if (0:Int)≤t10∧t10<(((List.length (o0.2.1:(List Int))):Nat):Int) then
    bif (decide ((List.getD (o0.2.1:(List Int)) (Int.toNat t10) (0:Int):Int)=t1)) then
      if (List.length o3)+1≤1048576 then
      Z7.l0 n m0 t0 t1 t4 t9 (IntKind.wrap .i64 (t10+1)) o0 (o3 ++ ([t10]:List Int))
      else none
    else
      Z7.l0 n m0 t0 t1 t4 t9 (IntKind.wrap .i64 (t10+1)) o0 o3
    else none
  else
    some ((o3,()),[(0,[])]):=by kernel_rfl
theorem Z7.eq (n:Nat) (a0:(den Za)) (a1:Int):Z7 (n+1) a0 a1 =
  Z7.l0 n n a0 a1 ([]:List Int) ((List.length (a0.2.1:(List Int))):Int) 0 a0 ([]:List Int):=by kernel_rfl
@[reducible] def Vf.R:Type:=Z8 [.d Zn]×Zz
def Vf (n:Nat) (a0:(den Za)) (a1:Int):Option Vf.R:=gc n 69 [.dat Za a0 [],.dat (.int .i64) a1 []] [.d Zn]
theorem Vf.eq (n:Nat) (a0:(den Za)) (a1:Int):Vf (n+1) a0 a1 =
  if (0:Int)≤a1∧a1<(((List.length (a0.2.1:(List Int))):Nat):Int) then
  Option.bind (Z7 n a0 (List.getD (a0.2.1:(List Int)) (Int.toNat a1) (0:Int):Int)) fun r1 =>
  Option.bind (Xn n a0 (0,(List.getD (a0.2.1:(List Int)) (Int.toNat a1) (0:Int):Int),())) fun r2 =>
  some (((0,9,(List.getD (a0.2.1:(List Int)) (Int.toNat a1) (0:Int):Int),(r1.1.1:(List Int)),(r2.1.1:(List (den X7))),0,()),()),[])
  else none:=by kernel_rfl
@[reducible] def Jo.R:Type:=Z8 [.d Za,.d Zn]×Zz
def Jo (n:Nat) (a0:(den Za)) (a1:Int) (a2:(den Z1)):Option Jo.R:=gc n 123 [.dat Za a0 [],.dat (.int .i64) a1 [],.dat Z1 a2 [],.refv (.clo 69 [])] [.d Za,.d Zn]
theorem Jo.eq (n:Nat) (a0:(den Za)) (a1:Int) (a2:(den Z1)):Jo (n+1) a0 a1 a2 =
  Option.bind (Vf n a0 a1) fun r1 =>
  some ((a0,r1.1.1,()),[]):=by kernel_rfl
@[reducible] def Vj.R:Type:=Z8 [.d (.sl (.int .i64))]×Zz
def Vj (n:Nat) (a0:(List (List Int))):Option Vj.R:=gc n 116 [.dat (.sl (.sl (.int .i64))) a0 []] [.d (.sl (.int .i64))]
@[reducible] def Y4.R:Type:=Z8 [.d .bool]×Zz
def Y4 (n:Nat) (a0:(den Za)) (a1:Int):Option Y4.R:=gc n 114 [.dat Za a0 [],.dat (.int .i64) a1 []] [.d .bool]
theorem Y4.eq (n:Nat) (a0:(den Za)) (a1:Int):Y4 (n+1) a0 a1 =
  bif (decide (0≤a1)) then
    some (((decide (a1<((List.length (a0.2.1:(List Int))):Int))),()),[])
  else
    some ((false,()),[]):=by kernel_rfl
@[reducible] def Ko.R:Type:=Z8 [.d .bool]×Zz
def Ko (n:Nat) (a0:(den Za)) (a1:Int):Option Ko.R:=gc n 113 [.dat Za a0 [],.dat (.int .i64) a1 []] [.d .bool]
theorem Ko.eq (n:Nat) (a0:(den Za)) (a1:Int):Ko (n+1) a0 a1 =
  bif (decide (0≤a1)) then
    some (((decide (a1<((List.length (a0.2.2.2.1:(List (den Zb)))):Int))),()),[])
  else
    some ((false,()),[]):=by kernel_rfl
@[reducible] def Y3.R:Type:=Z8 [.d .bool]×Zz
def Y3 (n:Nat) (a0:Int) (a1:(den Za)):Option Y3.R:=gc n 119 [.dat (.int .i64) a0 [],.ref Za a1] [.d .bool]
theorem Y3.eq (n:Nat) (a0:Int) (a1:(den Za)):Y3 (n+1) a0 a1 =
  Option.bind (Ko n a1 a0) fun r1 =>
  some (((!(r1.1.1:Bool)),()),[]):=by kernel_rfl
def Zh.res:List Sh:=[.d (.int .i64)]
@[reducible] def Zh.R:Type:=Z8 [.d (.int .i64)]×Zz
def Zh (n:Nat) (a0:(List Int)) (a1:(den Za)):Option Zh.R:=gc n 127 [.dat (.sl (.int .i64)) a0 [],.clo 119 [.ref Za a1]] [.d (.int .i64)]
def Zh.l0 (n m0:Nat) (t0:(List Int)) (t1:(den Za)) (t4:Int) (t7:Int) (t8:Int):Option Zh.R :=
  lpN n AA9 m0 (Jl 0 (Q2 (run (gc n) n) AA8 (Xa Zh.fn Zh.res) (Xa Zh.fn Zh.res)) (Xa Zh.fn Zh.res))
    [(0,.dat (.sl (.int .i64)) t0 []),(1,.clo 119 [.ref Za t1]),(4,.dat (.int .i64) t4 []),(7,.dat (.int .i64) t7 []),(8,.dat (.int .i64) t8 [])]
    []
theorem Zh.l0_eq (n m0:Nat) (t0:(List Int)) (t1:(den Za)) (t4:Int) (t7:Int) (t8:Int):Zh.l0 n (m0+1) t0 t1 t4 t7 t8 =
  bif (decide (t8<t7)) then
    if (0:Int)≤t8∧t8<(((List.length t0):Nat):Int) then
    Option.bind (Y3 n (List.getD t0 (Int.toNat t8) (0:Int):Int) t1) fun r1 =>
    bif (r1.1.1:Bool) then
      some ((t8,()),[])
    else
      Zh.l0 n m0 t0 t1 t4 t7 (IntKind.wrap .i64 (t8+1))
    else none
  else
    some (((-1),()),[]):=by kernel_rfl
theorem Zh.eq (n:Nat) (a0:(List Int)) (a1:(den Za)):Zh (n+1) a0 a1 =
  Zh.l0 n n a0 a1 0 ((List.length a0):Int) 0:=by kernel_rfl
@[reducible] def Z6.R:Type:=Z8 [.d .bool]×Zz
def Z6 (n:Nat) (a0:(List Int)) (a1:(den Za)):Option Z6.R:=gc n 84 [.dat (.sl (.int .i64)) a0 [],.clo 119 [.ref Za a1]] [.d .bool]
theorem Z6.eq (n:Nat) (a0:(List Int)) (a1:(den Za)):Z6 (n+1) a0 a1 =
  Option.bind (Zh n a0 a1) fun r1 =>
  some (((decide (0≤(r1.1.1:Int))),()),[]):=by kernel_rfl
def Xi.res:List Sh:=[.d .bool]
@[reducible] def Xi.R:Type:=Z8 [.d .bool]×Zz
def Xi (n:Nat) (a0:(List Int)):Option Xi.R:=gc n 120 [.dat (.sl (.int .i64)) a0 []] [.d .bool]
def Xi.l0 (n m0:Nat) (t0:(List Int)) (t2:Bool) (t7:(List Int)) (t8:Int) (t9:Int) (o0:(List (Int×Bool))):Option Xi.R :=
  lpN n AJq m0 (Jl 0 (Q2 (run (gc n) n) AJp (Xa Xi.fn Xi.res) (Xa Xi.fn Xi.res)) (Xa Xi.fn Xi.res))
    [(0,.dat (.sl (.int .i64)) t0 []),(2,.dat .bool t2 []),(3,.ptr 0 []),(7,.dat (.sl (.int .i64)) t7 []),(8,.dat (.int .i64) t8 []),(9,.dat (.int .i64) t9 [])]
    [.map (.int .i64) .bool o0]
theorem Xi.l0_eq (n m0:Nat) (t0:(List Int)) (t2:Bool) (t7:(List Int)) (t8:Int) (t9:Int) (o0:(List (Int×Bool))):Xi.l0 n (m0+1) t0 t2 t7 t8 t9 o0 =
  bif (decide (t9<t8)) then
    if (0:Int)≤t9∧t9<(((List.length t7):Nat):Int) then
    bif ((Option.getD (Yn (.int .i64) .bool (List.getD t7 (Int.toNat t9) (0:Int):Int) o0) false):Bool) then
      some ((true,()),[])
    else
      Xi.l0 n m0 t0 t2 t7 t8 (IntKind.wrap .i64 (t9+1)) (Gl (.int .i64) .bool (List.getD t7 (Int.toNat t9) (0:Int):Int) true o0)
    else none
  else
    some ((false,()),[]):=by kernel_rfl
theorem Xi.eq (n:Nat) (a0:(List Int)):Xi (n+1) a0 =
  Xi.l0 n n a0 false a0 ((List.length a0):Int) 0 []:=by kernel_rfl
@[reducible] def Yp.R:Type:=Z8 [.d Zb]×Zz
def Yp (n:Nat) (a0:Int):Option Yp.R:=gc n 115 [.dat (.int .i64) a0 []] [.d Zb]
theorem Yp.eq (n:Nat) (a0:Int):Yp (n+1) a0 =
  some (((1,a0,()),()),[]):=by kernel_rfl
@[reducible] def Yj.R:Type:=Z8 [.d .bool]×Zz
def Yj (n:Nat) (a0:Int) (a1:(den Za)) (a2:Int):Option Yj.R:=gc n 118 [.dat (.int .i64) a0 [],.ref Za a1,.ref (.int .i64) a2] [.d .bool]
theorem Yj.eq (n:Nat) (a0:Int) (a1:(den Za)) (a2:Int):Yj (n+1) a0 a1 a2 =
  if (0:Int)≤a0∧a0<(((List.length (a1.2.2.2.1:(List (den Zb)))):Nat):Int) then
  Option.bind (Yp n a2) fun r1 =>
  some (((!(eqT Zb (List.getD (a1.2.2.2.1:(List (den Zb))) (Int.toNat a0) (dft Zb):(den Zb)) r1.1.1)),()),[])
  else none:=by kernel_rfl
def Zo.res:List Sh:=[.d (.int .i64)]
@[reducible] def Zo.R:Type:=Z8 [.d (.int .i64)]×Zz
def Zo (n:Nat) (a0:(List Int)) (a1:(den Za)) (a2:Int):Option Zo.R:=gc n 127 [.dat (.sl (.int .i64)) a0 [],.clo 118 [.ref Za a1,.ref (.int .i64) a2]] [.d (.int .i64)]
def Zo.l0 (n m0:Nat) (t0:(List Int)) (t1:(den Za)) (t1':Int) (t4:Int) (t7:Int) (t8:Int):Option Zo.R :=
  lpN n AA9 m0 (Jl 0 (Q2 (run (gc n) n) AA8 (Xa Zh.fn Zo.res) (Xa Zh.fn Zo.res)) (Xa Zh.fn Zo.res))
    [(0,.dat (.sl (.int .i64)) t0 []),(1,.clo 118 [.ref Za t1,.ref (.int .i64) t1']),(4,.dat (.int .i64) t4 []),(7,.dat (.int .i64) t7 []),(8,.dat (.int .i64) t8 [])]
    []
theorem Zo.l0_eq (n m0:Nat) (t0:(List Int)) (t1:(den Za)) (t1':Int) (t4:Int) (t7:Int) (t8:Int):Zo.l0 n (m0+1) t0 t1 t1' t4 t7 t8 =
  bif (decide (t8<t7)) then
    if (0:Int)≤t8∧t8<(((List.length t0):Nat):Int) then
    Option.bind (Yj n (List.getD t0 (Int.toNat t8) (0:Int):Int) t1 t1') fun r1 =>
    bif (r1.1.1:Bool) then
      some ((t8,()),[])
    else
      Zo.l0 n m0 t0 t1 t1' t4 t7 (IntKind.wrap .i64 (t8+1))
    else none
  else
    some (((-1),()),[]):=by kernel_rfl
theorem Zo.eq (n:Nat) (a0:(List Int)) (a1:(den Za)) (a2:Int):Zo (n+1) a0 a1 a2 =
  Zo.l0 n n a0 a1 a2 0 ((List.length a0):Int) 0:=by kernel_rfl
@[reducible] def Xu.R:Type:=Z8 [.d .bool]×Zz
def Xu (n:Nat) (a0:(List Int)) (a1:(den Za)) (a2:Int):Option Xu.R:=gc n 84 [.dat (.sl (.int .i64)) a0 [],.clo 118 [.ref Za a1,.ref (.int .i64) a2]] [.d .bool]
theorem Xu.eq (n:Nat) (a0:(List Int)) (a1:(den Za)) (a2:Int):Xu (n+1) a0 a1 a2 =
  Option.bind (Zo n a0 a1 a2) fun r1 =>
  some (((decide (0≤(r1.1.1:Int))),()),[]):=by kernel_rfl
@[reducible] def Yv.R:Type:=Z8 [.d .bool]×Zz
def Yv (n:Nat) (a0:(List Int)) (a1:Int) (a2:(den Za)):Option Yv.R:=gc n 117 [.dat (.sl (.int .i64)) a0 [],.dat (.int .i64) a1 [],.ref Za a2] [.d .bool]
theorem Yv.eq (n:Nat) (a0:(List Int)) (a1:Int) (a2:(den Za)):Yv (n+1) a0 a1 a2 =
  Option.bind (Xu n a0 a2 a1) fun r1 =>
  some (((r1.1.1:Bool),()),[]):=by kernel_rfl
def Yu.res:List Sh:=[.d (.sl (.int .i64))]
@[reducible] def Yu.R:Type:=Z8 [.d (.sl (.int .i64))]×Zz
def Yu (n:Nat) (a0:(den Za)) (a1:(den Zb)):Option Yu.R:=gc n 133 [.dat Za a0 [],.dat Zb a1 []] [.d (.sl (.int .i64))]
def Yu.l0 (n m0:Nat) (t0:(den Za)) (t1:(den Zb)) (t4:(List Int)) (t9:(List (den Zb))) (t10:Int) (t11:Int) (o0:(den Za)) (o1:(den Zb)) (o5:(List Int)):Option Yu.R :=
  lpN n AJ0 m0 (Jl 0 (Q2 (run (gc n) n) AJz (Xa Yu.fn Yu.res) (Xa Yu.fn Yu.res)) (Xa Yu.fn Yu.res))
    [(0,.dat Za t0 []),(1,.dat Zb t1 []),(2,.ptr 0 []),(3,.ptr 1 []),(4,.dat (.sl (.int .i64)) t4 []),(5,.dat (.sl (.int .i64)) ([]:List Int) [([],some 5)]),(9,.dat (.sl Zb) t9 []),(10,.dat (.int .i64) t10 []),(11,.dat (.int .i64) t11 [])]
    [.box Za o0 [],.box Zb o1 [],.none,.none,.none,.arr (.int .i64) o5]
theorem Yu.l0_eq (n m0:Nat) (t0:(den Za)) (t1:(den Zb)) (t4:(List Int)) (t9:(List (den Zb))) (t10:Int) (t11:Int) (o0:(den Za)) (o1:(den Zb)) (o5:(List Int)):Yu.l0 n (m0+1) t0 t1 t4 t9 t10 t11 o0 o1 o5 =
  bif (decide (t11<t10)) then
    if (0:Int)≤t11∧t11<(((List.length t9):Nat):Int) then
    bif (eqT Zb o1 (List.getD t9 (Int.toNat t11) (dft Zb):(den Zb))) then
      if (List.length o5)+1≤1048576 then
      Yu.l0 n m0 t0 t1 t4 t9 t10 (IntKind.wrap .i64 (t11+1)) o0 o1 (o5 ++ ([t11]:List Int))
      else none
    else
      Yu.l0 n m0 t0 t1 t4 t9 t10 (IntKind.wrap .i64 (t11+1)) o0 o1 o5
    else none
  else
    some ((o5,()),[(0,[])]):=by kernel_rfl
theorem Yu.eq (n:Nat) (a0:(den Za)) (a1:(den Zb)):Yu (n+1) a0 a1 =
  Yu.l0 n n a0 a1 ([]:List Int) (a0.2.2.2.1:(List (den Zb))) ((List.length (a0.2.2.2.1:(List (den Zb)))):Int) 0 a0 a1 ([]:List Int):=by kernel_rfl
@[reducible] def Qz.R:Type:=Z8 [.d (.int .i64)]×Zz
def Qz (n:Nat) (a0:(den Za)) (a1:(den Zb)):Option Qz.R:=gc n 106 [.dat Za a0 [],.dat Zb a1 []] [.d (.int .i64)]
theorem Qz.eq (n:Nat) (a0:(den Za)) (a1:(den Zb)):Qz (n+1) a0 a1 =
  if (0:Int)≤(a1.1:Int)∧(a1.1:Int)<((3:Nat):Int) then
  Option.bind (Yu n a0 a1) fun r1 =>
  some (((IntKind.wrap .i64 ((List.getD ([(a0.1.2.2.2.2.2.1:Int),(a0.1.2.2.2.2.2.2.1:Int),(a0.1.2.2.2.2.2.2.2.1:Int)]:List Int) (Int.toNat (a1.1:Int)) (0:Int):Int) - ((List.length (r1.1.1:(List Int))):Int))),()),[])
  else none:=by kernel_rfl
@[reducible] def Hy.R:Type:=Z8 [.d .bool]×Zz
def Hy (n:Nat) (a0:Int):Option Hy.R:=gc n 135 [.dat (.int .i64) a0 []] [.d .bool]
theorem Hy.eq (n:Nat) (a0:Int):Hy (n+1) a0 =
  bif (decide (0≤a0)) then
    some (((decide (a0≤1073741824)),()),[])
  else
    some ((false,()),[]):=by kernel_rfl
@[reducible] def V3.R:Type:=Z8 [.d (.int .i64),.d (.int .i64),.d (.int .i64)]×Zz
def V3 (n:Nat) (a0:Int) (a1:Int) (a2:Int) (a3:Int):Option V3.R:=gc n 121 [.dat (.int .i64) a0 [],.dat (.int .i64) a1 [],.dat (.int .i64) a2 [],.dat (.int .i64) a3 []] [.d (.int .i64),.d (.int .i64),.d (.int .i64)]
theorem V3.eq (n:Nat) (a0:Int) (a1:Int) (a2:Int) (a3:Int):V3 (n+1) a0 a1 a2 a3 =
  bif (decide (a2<0)) then
    some ((a0,a1,1,()),[])
  else
    bif (decide (a3<0)) then
      some ((a0,a1,1,()),[])
    else
      bif (decide (a0<a2)) then
        some ((a0,a1,10,()),[])
      else
        bif (decide (a1<a3)) then
          some ((a0,a1,10,()),[])
        else
          Option.bind (Hy n (IntKind.wrap .i64 ((IntKind.wrap .i64 (a0 - a2))+a3))) fun r1 =>
          bif (!(r1.1.1:Bool)) then
            some ((a0,a1,11,()),[])
          else
            Option.bind (Hy n (IntKind.wrap .i64 ((IntKind.wrap .i64 (a1 - a3))+a2))) fun r2 =>
            bif (!(r2.1.1:Bool)) then
              some ((a0,a1,11,()),[])
            else
              some (((IntKind.wrap .i64 ((IntKind.wrap .i64 (a0 - a2))+a3)),(IntKind.wrap .i64 ((IntKind.wrap .i64 (a1 - a3))+a2)),0,()),[]):=by kernel_rfl
@[reducible] def Jn.R:Type:=Z8 [.d (.sl (.int .i64))]×Zz
def Jn (n:Nat) (a0:(List Int)):Option Jn.R:=gc n 136 [.dat (.sl (.int .i64)) a0 []] [.d (.sl (.int .i64))]
@[reducible] def Yt.R:Type:=Z8 [.d (.sl Zb)]×Zz
def Yt (n:Nat) (a0:(List (den Zb))):Option Yt.R:=gc n 137 [.dat (.sl Zb) a0 []] [.d (.sl Zb)]
@[reducible] def Ja.R:Type:=Z8 [.d Za]×Zz
def Ja (n:Nat) (a0:(den Za)):Option Ja.R:=gc n 122 [.dat Za a0 []] [.d Za]
theorem Ja.eq (n:Nat) (a0:(den Za)):Ja (n+1) a0 =
  Option.bind (Jn n (a0.2.1:(List Int))) fun r1 =>
  bif (Zv r1.2 [((0,[]),2)]) then
    Option.bind (Jn n (a0.2.2.1:(List Int))) fun r2 =>
    bif (Zv r2.2 [((0,[]),3)]) then
      Option.bind (Yt n (a0.2.2.2.1:(List (den Zb)))) fun r3 =>
      bif (Zv r3.2 [((0,[]),4)]) then
        some (((a0.1,(r1.1.1:(List Int)),(r2.1.1:(List Int)),(r3.1.1:(List (den Zb))),()),()),[(0,[1]),(0,[2]),(0,[3])])
      else
        none
    else
      none
  else
    none:=by kernel_rfl
def Z2.res:List Sh:=[.d Za,.d (.int .i64)]
@[reducible] def Z2.R:Type:=Z8 [.d Za,.d (.int .i64)]×Zz
def Z2 (n:Nat) (a0:(den Za)) (a1:Int) (a2:(den Z1)):Option Z2.R:=gc n 67 [.dat Za a0 [],.dat (.int .i64) a1 [],.dat Z1 a2 []] [.d Za,.d (.int .i64)]
def Z2.l0 (n m0:Nat) (t0:(den Za)) (t1:Int) (t2:(den Z1)) (t7:Int) (t8:Int) (t9:(List Int)) (t11:Int) (t12:Int) (t13:Int) (t14:Int) (t135:(List Int)) (t136:Int) (t137:Int) (o0:(den Za)) (o1:(den Z1)) (o2:(den Za)) (o3:(List (List Int))) (o4:(den Za)) (o5:(List Int)) (o6:(List (den Zb))):Option Z2.R :=
  lpN n AKf m0 (Jl 1 (Q2 (run (gc n) n) AKe (Xa Z2.fn Z2.res) (Xa Z2.fn Z2.res)) (Xa Z2.fn Z2.res))
    [(0,.dat Za t0 []),(1,.dat (.int .i64) t1 []),(2,.dat Z1 t2 []),(3,.ptr 0 []),(5,.ptr 1 []),(6,.ptr 2 []),(7,.dat (.int .i64) t7 []),(8,.dat (.int .i64) t8 []),(9,.dat (.sl (.int .i64)) t9 []),(10,.clo 117 [.ptr 0 []]),(11,.dat (.int .i64) t11 []),(12,.dat (.int .i64) t12 []),(13,.dat (.int .i64) t13 []),(14,.dat (.int .i64) t14 []),(15,.ptr 4 []),(135,.dat (.sl (.int .i64)) t135 []),(136,.dat (.int .i64) t136 []),(137,.dat (.int .i64) t137 [])]
    [.box Za o0 [],.box Z1 o1 [],.box Za o2 [],.frz (.sl (.int .i64)) o3,.box Za o4 [([2],some 5),([3],some 6)],.arr (.int .i64) o5,.arr Zb o6]
def Z2.l1 (n m0:Nat) (t0_1:(den Za)) (t1_1:Int) (t2_1:(den Z1)) (t7_1:Int) (t8_1:Int) (t9_1:(List Int)) (t11_1:Int) (t12_1:Int) (t13_1:Int) (t14_1:Int) (t135_1:(List Int)) (t136_1:Int) (t137_1:Int) (t149_1:(List Int)) (t150_1:Int) (t151_1:Int) (o0_1:(den Za)) (o1_1:(den Z1)) (o2_1:(den Za)) (o3_1:(List (List Int))) (o4_1:(den Za)) (o5_1:(List Int)) (o6_1:(List (den Zb))):Option Z2.R :=
  lpN n AKh m0 (Jl 3 (Q2 (run (gc n) n) AKg (Xa Z2.fn Z2.res) (Xa Z2.fn Z2.res)) (Xa Z2.fn Z2.res))
    [(0,.dat Za t0_1 []),(1,.dat (.int .i64) t1_1 []),(2,.dat Z1 t2_1 []),(3,.ptr 0 []),(5,.ptr 1 []),(6,.ptr 2 []),(7,.dat (.int .i64) t7_1 []),(8,.dat (.int .i64) t8_1 []),(9,.dat (.sl (.int .i64)) t9_1 []),(10,.clo 117 [.ptr 0 []]),(11,.dat (.int .i64) t11_1 []),(12,.dat (.int .i64) t12_1 []),(13,.dat (.int .i64) t13_1 []),(14,.dat (.int .i64) t14_1 []),(15,.ptr 4 []),(135,.dat (.sl (.int .i64)) t135_1 []),(136,.dat (.int .i64) t136_1 []),(137,.dat (.int .i64) t137_1 []),(149,.dat (.sl (.int .i64)) t149_1 []),(150,.dat (.int .i64) t150_1 []),(151,.dat (.int .i64) t151_1 [])]
    [.box Za o0_1 [],.box Z1 o1_1 [],.box Za o2_1 [],.frz (.sl (.int .i64)) o3_1,.box Za o4_1 [([2],some 5),([3],some 6)],.arr (.int .i64) o5_1,.arr Zb o6_1]
theorem Z2.l0_eq (n m0:Nat) (t0:(den Za)) (t1:Int) (t2:(den Z1)) (t7:Int) (t8:Int) (t9:(List Int)) (t11:Int) (t12:Int) (t13:Int) (t14:Int) (t135:(List Int)) (t136:Int) (t137:Int) (o0:(den Za)) (o1:(den Z1)) (o2:(den Za)) (o3:(List (List Int))) (o4:(den Za)) (o5:(List Int)) (o6:(List (den Zb))):Z2.l0 n (m0+1) t0 t1 t2 t7 t8 t9 t11 t12 t13 t14 t135 t136 t137 o0 o1 o2 o3 o4 o5 o6 =
  bif (decide (t137<t136)) then
    if (0:Int)≤t137∧t137<(((List.length t135):Nat):Int) then
    Option.bind (Yp n t8) fun r13 =>
    if (0:Int)≤(List.getD t135 (Int.toNat t137) (0:Int):Int)∧(List.getD t135 (Int.toNat t137) (0:Int):Int)<(((List.length o6):Nat):Int) then
    Z2.l0 n m0 t0 t1 t2 t7 t8 t9 t11 t12 t13 t14 t135 t136 (IntKind.wrap .i64 (t137+1)) o0 o1 o2 o3 o4 o5 (List.set o6 (Int.toNat (List.getD t135 (Int.toNat t137) (0:Int):Int)) r13.1.1:(List (den Zb)))
    else none
    else none
  else
    Z2.l1 n n t0 t1 t2 t7 t8 t9 t11 t12 t13 t14 t135 t136 t137 (o1.2.2.2.2.2.2.2.1:(List Int)) ((List.length (o1.2.2.2.2.2.2.2.1:(List Int))):Int) 0 o0 o1 o2 o3 o4 o5 o6:=by kernel_rfl
theorem Z2.l1_eq (n m0:Nat) (t0_1:(den Za)) (t1_1:Int) (t2_1:(den Z1)) (t7_1:Int) (t8_1:Int) (t9_1:(List Int)) (t11_1:Int) (t12_1:Int) (t13_1:Int) (t14_1:Int) (t135_1:(List Int)) (t136_1:Int) (t137_1:Int) (t149_1:(List Int)) (t150_1:Int) (t151_1:Int) (o0_1:(den Za)) (o1_1:(den Z1)) (o2_1:(den Za)) (o3_1:(List (List Int))) (o4_1:(den Za)) (o5_1:(List Int)) (o6_1:(List (den Zb))):Z2.l1 n (m0+1) t0_1 t1_1 t2_1 t7_1 t8_1 t9_1 t11_1 t12_1 t13_1 t14_1 t135_1 t136_1 t137_1 t149_1 t150_1 t151_1 o0_1 o1_1 o2_1 o3_1 o4_1 o5_1 o6_1 =
  bif (decide (t151_1<t150_1)) then
    if (0:Int)≤t151_1∧t151_1<(((List.length t149_1):Nat):Int) then
    Option.bind (Yp n t1_1) fun r14 =>
    if (0:Int)≤(List.getD t149_1 (Int.toNat t151_1) (0:Int):Int)∧(List.getD t149_1 (Int.toNat t151_1) (0:Int):Int)<(((List.length o6_1):Nat):Int) then
    Z2.l1 n m0 t0_1 t1_1 t2_1 t7_1 t8_1 t9_1 t11_1 t12_1 t13_1 t14_1 t135_1 t136_1 t137_1 t149_1 t150_1 (IntKind.wrap .i64 (t151_1+1)) o0_1 o1_1 o2_1 o3_1 o4_1 o5_1 (List.set o6_1 (Int.toNat (List.getD t149_1 (Int.toNat t151_1) (0:Int):Int)) r14.1.1:(List (den Zb)))
    else none
    else none
  else
    some (((o4_1.1,(o4_1.2.1:(List Int)),o5_1,o6_1,()),0,()),[(0,[2]),(0,[3])]):=by kernel_rfl
theorem Z2.eq (n:Nat) (a0:(den Za)) (a1:Int) (a2:(den Z1)):Z2 (n+1) a0 a1 a2 =
  Option.bind (Vj n ([(a2.2.2.2.2.2.1:(List Int)),(a2.2.2.2.2.2.2.2.1:(List Int))]:List (List Int))) fun r1 =>
  Option.bind (Y4 n a0 (a2.2.2.2.2.1:Int)) fun r2 =>
  bif (!(r2.1.1:Bool)) then
    some ((a0,3,()),[])
  else
    Option.bind (Z6 n (r1.1.1:(List Int)) a0) fun r3 =>
    bif (r3.1.1:Bool) then
      some ((a0,3,()),[])
    else
      bif (decide ((a2.2.2.2.2.1:Int)=a1)) then
        some ((a0,12,()),[])
      else
        if (0:Int)≤(a2.2.2.2.2.1:Int)∧(a2.2.2.2.2.1:Int)<(((List.length (a0.2.1:(List Int))):Nat):Int) then
        if (0:Int)≤a1∧a1<(((List.length (a0.2.1:(List Int))):Nat):Int) then
        bif (!(decide ((List.getD (a0.2.1:(List Int)) (Int.toNat (a2.2.2.2.2.1:Int)) (0:Int):Int)=(List.getD (a0.2.1:(List Int)) (Int.toNat a1) (0:Int):Int)))) then
          some ((a0,5,()),[])
        else
          Option.bind (Xi n (r1.1.1:(List Int))) fun r4 =>
          bif (r4.1.1:Bool) then
            some ((a0,13,()),[])
          else
            Option.bind (Yv n (a2.2.2.2.2.2.1:(List Int)) a1 a0) fun r5 =>
            bif (r5.1.1:Bool) then
              some ((a0,5,()),[])
            else
              Option.bind (Yv n (a2.2.2.2.2.2.2.2.1:(List Int)) (a2.2.2.2.2.1:Int) a0) fun r6 =>
              bif (r6.1.1:Bool) then
                some ((a0,5,()),[])
              else
                Option.bind (Yp n a1) fun r7 =>
                Option.bind (Qz n a0 r7.1.1) fun r8 =>
                bif (decide ((r8.1.1:Int)<(IntKind.wrap .i64 (((List.length (a2.2.2.2.2.2.2.2.1:(List Int))):Int) - ((List.length (a2.2.2.2.2.2.1:(List Int))):Int))))) then
                  some ((a0,9,()),[])
                else
                  Option.bind (Yp n (a2.2.2.2.2.1:Int)) fun r9 =>
                  Option.bind (Qz n a0 r9.1.1) fun r10 =>
                  bif (decide ((r10.1.1:Int)<(IntKind.wrap .i64 (0 - (IntKind.wrap .i64 (((List.length (a2.2.2.2.2.2.2.2.1:(List Int))):Int) - ((List.length (a2.2.2.2.2.2.1:(List Int))):Int))))))) then
                    some ((a0,9,()),[])
                  else
                    if (0:Int)≤a1∧a1<(((List.length (a0.2.2.1:(List Int))):Nat):Int) then
                    if (0:Int)≤(a2.2.2.2.2.1:Int)∧(a2.2.2.2.2.1:Int)<(((List.length (a0.2.2.1:(List Int))):Nat):Int) then
                    Option.bind (V3 n (List.getD (a0.2.2.1:(List Int)) (Int.toNat a1) (0:Int):Int) (List.getD (a0.2.2.1:(List Int)) (Int.toNat (a2.2.2.2.2.1:Int)) (0:Int):Int) (a2.2.2.2.2.2.2.1:Int) (a2.2.2.2.2.2.2.2.2.1:Int)) fun r11 =>
                    bif (!(decide ((r11.1.2.2.1:Int)=0))) then
                      some ((a0,(r11.1.2.2.1:Int),()),[])
                    else
                      Option.bind (Ja n a0) fun r12 =>
                      bif (Zv r12.2 [((0,[2]),5),((0,[3]),6)]) then
                        if (0:Int)≤a1∧a1<(((List.length (r12.1.1.2.2.1:(List Int))):Nat):Int) then
                        if (0:Int)≤(a2.2.2.2.2.1:Int)∧(a2.2.2.2.2.1:Int)<(((List.length (List.set (r12.1.1.2.2.1:(List Int)) (Int.toNat a1) (r11.1.1:Int):(List Int))):Nat):Int) then
                        Z2.l0 n n a0 a1 a2 0 (a2.2.2.2.2.1:Int) (r1.1.1:(List Int)) (IntKind.wrap .i64 (((List.length (a2.2.2.2.2.2.2.2.1:(List Int))):Int) - ((List.length (a2.2.2.2.2.2.1:(List Int))):Int))) (r11.1.1:Int) (r11.1.2.1:Int) (r11.1.2.2.1:Int) (a2.2.2.2.2.2.1:(List Int)) ((List.length (a2.2.2.2.2.2.1:(List Int))):Int) 0 a0 a2 ((([]:List (List Int)),([]:List Int),([]:List Int),([]:List Int),([]:List Bool),0,0,0,()),([]:List Int),([]:List Int),([]:List (den Zb)),()) ([(a2.2.2.2.2.2.1:(List Int)),(a2.2.2.2.2.2.2.2.1:(List Int))]:List (List Int)) (r12.1.1.1,(r12.1.1.2.1:(List Int)),([]:List Int),([]:List (den Zb)),()) (List.set (List.set (r12.1.1.2.2.1:(List Int)) (Int.toNat a1) (r11.1.1:Int):(List Int)) (Int.toNat (a2.2.2.2.2.1:Int)) (r11.1.2.1:Int):(List Int)) (r12.1.1.2.2.2.1:(List (den Zb)))
                        else none
                        else none
                      else
                        none
                    else none
                    else none
        else none
        else none:=by kernel_rfl
@[reducible] def Yd.R:Type:=Z8 [.d Zn]×Zz
def Yd (n:Nat) (a0:Int) (a1:Int) (a2:Int):Option Yd.R:=gc n 87 [.dat (.int .i64) a0 [],.dat (.int .i64) a1 [],.dat (.int .i64) a2 []] [.d Zn]
theorem Yd.eq (n:Nat) (a0:Int) (a1:Int) (a2:Int):Yd (n+1) a0 a1 a2 =
  bif (!(decide (a2=0))) then
    some (((a2,0,0,([]:List Int),([]:List (den X7)),0,()),()),[])
  else
    some (((0,a0,a1,([]:List Int),([]:List (den X7)),0,()),()),[]):=by kernel_rfl
@[reducible] def Qn.R:Type:=Z8 [.d Za,.d Zn]×Zz
def Qn (n:Nat) (a0:(den Za)) (a1:Int) (a2:(den Z1)):Option Qn.R:=gc n 91 [.dat Za a0 [],.dat (.int .i64) a1 [],.dat Z1 a2 [],.refv (.clo 67 [])] [.d Za,.d Zn]
theorem Qn.eq (n:Nat) (a0:(den Za)) (a1:Int) (a2:(den Z1)):Qn (n+1) a0 a1 a2 =
  Option.bind (Z2 n a0 a1 a2) fun r1 =>
  Option.bind (Yd n (a2.1:Int) 0 (r1.1.2.1:Int)) fun r2 =>
  some ((r1.1.1,r2.1.1,()),[]):=by kernel_rfl
@[reducible] def K2.R:Type:=Z8 [.d Za]×Zz
def K2 (n:Nat) (a0:(den Za)) (a1:Int) (a2:(den Zb)):Option K2.R:=gc n 107 [.dat Za a0 [],.dat (.int .i64) a1 [],.dat Zb a2 []] [.d Za]
theorem K2.eq (n:Nat) (a0:(den Za)) (a1:Int) (a2:(den Zb)):K2 (n+1) a0 a1 a2 =
  Option.bind (Ja n a0) fun r1 =>
  bif (Zv r1.2 [((0,[3]),4)]) then
    if (0:Int)≤a1∧a1<(((List.length (r1.1.1.2.2.2.1:(List (den Zb)))):Nat):Int) then
    some (((r1.1.1.1,(r1.1.1.2.1:(List Int)),(r1.1.1.2.2.1:(List Int)),(List.set (r1.1.1.2.2.2.1:(List (den Zb))) (Int.toNat a1) a2:(List (den Zb))),()),()),[(0,[3])])
    else none
  else
    none:=by kernel_rfl
@[reducible] def Ve.R:Type:=Z8 [.d Za,.d (.int .i64)]×Zz
def Ve (n:Nat) (a0:(den Za)) (a1:Int) (a2:Int) (a3:Int):Option Ve.R:=gc n 66 [.dat Za a0 [],.dat (.int .i64) a1 [],.dat (.int .i64) a2 [],.dat (.int .i64) a3 []] [.d Za,.d (.int .i64)]
theorem Ve.eq (n:Nat) (a0:(den Za)) (a1:Int) (a2:Int) (a3:Int):Ve (n+1) a0 a1 a2 a3 =
  Option.bind (Ko n a0 a2) fun r1 =>
  bif (!(r1.1.1:Bool)) then
    some ((a0,3,()),[])
  else
    Option.bind (Y4 n a0 a3) fun r2 =>
    bif (!(r2.1.1:Bool)) then
      some ((a0,3,()),[])
    else
      bif (decide (a3=a1)) then
        some ((a0,12,()),[])
      else
        if (0:Int)≤a3∧a3<(((List.length (a0.2.1:(List Int))):Nat):Int) then
        if (0:Int)≤a1∧a1<(((List.length (a0.2.1:(List Int))):Nat):Int) then
        bif (!(decide ((List.getD (a0.2.1:(List Int)) (Int.toNat a3) (0:Int):Int)=(List.getD (a0.2.1:(List Int)) (Int.toNat a1) (0:Int):Int)))) then
          some ((a0,5,()),[])
        else
          if (0:Int)≤a2∧a2<(((List.length (a0.2.2.2.1:(List (den Zb)))):Nat):Int) then
          Option.bind (Yp n a1) fun r3 =>
          bif (!(eqT Zb (List.getD (a0.2.2.2.1:(List (den Zb))) (Int.toNat a2) (dft Zb):(den Zb)) r3.1.1)) then
            some ((a0,5,()),[])
          else
            Option.bind (Yp n a3) fun r4 =>
            Option.bind (Qz n a0 r4.1.1) fun r5 =>
            bif (decide ((r5.1.1:Int)<1)) then
              some ((a0,9,()),[])
            else
              Option.bind (Yp n a3) fun r6 =>
              Option.bind (K2 n a0 a2 r6.1.1) fun r7 =>
              some ((r7.1.1,0,()),[])
          else none
        else none
        else none:=by kernel_rfl
@[reducible] def Ql.R:Type:=Z8 [.d Za,.d (.int .i64)]×Zz
def Ql (n:Nat) (a0:(den Za)) (a1:Int) (a2:(den Z1)):Option Ql.R:=gc n 65 [.dat Za a0 [],.dat (.int .i64) a1 [],.dat Z1 a2 []] [.d Za,.d (.int .i64)]
theorem Ql.eq (n:Nat) (a0:(den Za)) (a1:Int) (a2:(den Z1)):Ql (n+1) a0 a1 a2 =
  Option.bind (Ve n a0 a1 (a2.2.2.1:Int) (a2.2.2.2.2.1:Int)) fun r1 =>
  some ((r1.1.1,(r1.1.2.1:Int),()),[]):=by kernel_rfl
@[reducible] def J8.R:Type:=Z8 [.d Za,.d Zn]×Zz
def J8 (n:Nat) (a0:(den Za)) (a1:Int) (a2:(den Z1)):Option J8.R:=gc n 91 [.dat Za a0 [],.dat (.int .i64) a1 [],.dat Z1 a2 [],.refv (.clo 65 [])] [.d Za,.d Zn]
theorem J8.eq (n:Nat) (a0:(den Za)) (a1:Int) (a2:(den Z1)):J8 (n+1) a0 a1 a2 =
  Option.bind (Ql n a0 a1 a2) fun r1 =>
  Option.bind (Yd n (a2.1:Int) 0 (r1.1.2.1:Int)) fun r2 =>
  some ((r1.1.1,r2.1.1,()),[]):=by kernel_rfl
@[reducible] def Qv.R:Type:=Z8 [.d .bool]×Zz
def Qv (n:Nat) (a0:(den Za)) (a1:Int):Option Qv.R:=gc n 96 [.dat Za a0 [],.dat (.int .i64) a1 []] [.d .bool]
theorem Qv.eq (n:Nat) (a0:(den Za)) (a1:Int):Qv (n+1) a0 a1 =
  bif (decide (a1<0)) then
    some ((true,()),[])
  else
    some (((decide (((List.length (a0.2.2.2.1:(List (den Zb)))):Int)≤a1)),()),[]):=by kernel_rfl
@[reducible] def Yh.R:Type:=Z8 [.d .bool]×Zz
def Yh (n:Nat) (a0:(den Za)) (a1:Int) (a2:Int):Option Yh.R:=gc n 108 [.ref Za a0,.ref (.int .i64) a1,.ref (.int .i64) a2] [.d .bool]
theorem Yh.eq (n:Nat) (a0:(den Za)) (a1:Int) (a2:Int):Yh (n+1) a0 a1 a2 =
  Option.bind (Qv n a0 a1) fun r1 =>
  bif (r1.1.1:Bool) then
    some ((true,()),[])
  else
    Option.bind (Qv n a0 a2) fun r2 =>
    some (((r2.1.1:Bool),()),[]):=by kernel_rfl
@[reducible] def Jp.R:Type:=Z8 [.d .bool]×Zz
def Jp (n:Nat) (a0:(den Za)) (a1:Int) (a2:Int):Option Jp.R:=gc n 98 [.dat Za a0 [],.dat (.int .i64) a1 [],.dat (.int .i64) a2 []] [.d .bool]
theorem Jp.eq (n:Nat) (a0:(den Za)) (a1:Int) (a2:Int):Jp (n+1) a0 a1 a2 =
  Option.bind (Vq n a0 a2) fun r1 =>
  if (0:Int)≤a1∧a1<(((List.length (a0.2.1:(List Int))):Nat):Int) then
  bif (eqT Zb r1.1.1 (0,(List.getD (a0.2.1:(List Int)) (Int.toNat a1) (0:Int):Int),())) then
    some ((true,()),[])
  else
    some (((eqT Zb r1.1.1 (1,a1,())),()),[])
  else none:=by kernel_rfl
@[reducible] def Qo.R:Type:=Z8 [.d .bool]×Zz
def Qo (n:Nat) (a0:(den Za)) (a1:Int) (a2:Int):Option Qo.R:=gc n 109 [.ref Za a0,.ref (.int .i64) a1,.ref (.int .i64) a2] [.d .bool]
theorem Qo.eq (n:Nat) (a0:(den Za)) (a1:Int) (a2:Int):Qo (n+1) a0 a1 a2 =
  Option.bind (Jp n a0 a1 a2) fun r1 =>
  some (((!(r1.1.1:Bool)),()),[]):=by kernel_rfl
@[reducible] def Qp.R:Type:=Z8 [.d .bool]×Zz
def Qp (n:Nat) (a0:(den Za)) (a1:Int):Option Qp.R:=gc n 110 [.ref Za a0,.ref (.int .i64) a1] [.d .bool]
theorem Qp.eq (n:Nat) (a0:(den Za)) (a1:Int):Qp (n+1) a0 a1 =
  if (0:Int)≤a1∧a1<(((List.length (a0.1.2.2.2.2.1:(List Bool))):Nat):Int) then
  some (((!(List.getD (a0.1.2.2.2.2.1:(List Bool)) (Int.toNat a1) false:Bool)),()),[])
  else none:=by kernel_rfl
@[reducible] def Qq.R:Type:=Z8 [.d .bool]×Zz
def Qq (n:Nat) (a0:(den Za)) (a1:Int) (a2:(den Zb)):Option Qq.R:=gc n 111 [.ref Za a0,.ref (.int .i64) a1,.ref Zb a2] [.d .bool]
theorem Qq.eq (n:Nat) (a0:(den Za)) (a1:Int) (a2:(den Zb)):Qq (n+1) a0 a1 a2 =
  if (0:Int)≤a1∧a1<(((List.length (a0.2.2.2.1:(List (den Zb)))):Nat):Int) then
  some (((!(eqT Zb (List.getD (a0.2.2.2.1:(List (den Zb))) (Int.toNat a1) (dft Zb):(den Zb)) a2)),()),[])
  else none:=by kernel_rfl
@[reducible] def Qr.R:Type:=Z8 [.d .bool]×Zz
def Qr (n:Nat) (a0:(den Za)) (a1:(den Zb)):Option Qr.R:=gc n 112 [.ref Za a0,.ref Zb a1] [.d .bool]
theorem Qr.eq (n:Nat) (a0:(den Za)) (a1:(den Zb)):Qr (n+1) a0 a1 =
  Option.bind (Qz n a0 a1) fun r1 =>
  some (((decide ((r1.1.1:Int)<1)),()),[]):=by kernel_rfl
@[reducible] def Y9.R:Type:=Z8 [.d (.int .i64)]×Zz
def Y9 (n:Nat) (a0:(den Za)) (a1:Int) (a2:Int) (a3:Int) (a4:(den Za)) (a5:Int) (a6:Int) (a7:Int) (a8:(den Za)) (a9:Int) (a10:Int) (a11:(den Za)) (a12:Int) (a13:(den Zb)) (a14:Int) (a15:(den Za)) (a16:(den Zb)) (a17:Int):Option Y9.R:=gc n 94 [.slv [.agv [.clo 108 [.ref Za a0,.ref (.int .i64) a1,.ref (.int .i64) a2],.dat (.int .i64) a3 []],.agv [.clo 109 [.ref Za a4,.ref (.int .i64) a5,.ref (.int .i64) a6],.dat (.int .i64) a7 []],.agv [.clo 110 [.ref Za a8,.ref (.int .i64) a9],.dat (.int .i64) a10 []],.agv [.clo 111 [.ref Za a11,.ref (.int .i64) a12,.ref Zb a13],.dat (.int .i64) a14 []],.agv [.clo 112 [.ref Za a15,.ref Zb a16],.dat (.int .i64) a17 []]]] [.d (.int .i64)]
theorem Y9.eq (n:Nat) (a0:(den Za)) (a1:Int) (a2:Int) (a3:Int) (a4:(den Za)) (a5:Int) (a6:Int) (a7:Int) (a8:(den Za)) (a9:Int) (a10:Int) (a11:(den Za)) (a12:Int) (a13:(den Zb)) (a14:Int) (a15:(den Za)) (a16:(den Zb)) (a17:Int):Y9 (n+14) a0 a1 a2 a3 a4 a5 a6 a7 a8 a9 a10 a11 a12 a13 a14 a15 a16 a17 =
  Option.bind (Yh (n+13) a0 a1 a2) fun r1 =>
  bif (r1.1.1:Bool) then
    some ((a3,()),[])
  else
    Option.bind (Qo (n+13) a4 a5 a6) fun r2 =>
    bif (r2.1.1:Bool) then
      some ((a7,()),[])
    else
      Option.bind (Qp (n+13) a8 a9) fun r3 =>
      bif (r3.1.1:Bool) then
        some ((a10,()),[])
      else
        Option.bind (Qq (n+13) a11 a12 a13) fun r4 =>
        bif (r4.1.1:Bool) then
          some ((a14,()),[])
        else
          Option.bind (Qr (n+13) a15 a16) fun r5 =>
          bif (r5.1.1:Bool) then
            some ((a17,()),[])
          else
            some ((0,()),[]):=by kernel_rfl
@[reducible] def Vd.R:Type:=Z8 [.d Za,.d (.int .i64)]×Zz
def Vd (n:Nat) (a0:(den Za)) (a1:Int) (a2:Int) (a3:Int):Option Vd.R:=gc n 64 [.dat Za a0 [],.dat (.int .i64) a1 [],.dat (.int .i64) a2 [],.dat (.int .i64) a3 []] [.d Za,.d (.int .i64)]
theorem Vd.eq (n:Nat) (a0:(den Za)) (a1:Int) (a2:Int) (a3:Int):Vd (n+1) a0 a1 a2 a3 =
  Option.bind (Y9 n a0 a2 a3 3 a0 a1 a3 5 a0 a3 6 a0 a2 (2,a3,()) 5 a0 (1,a1,()) 9) fun r1 =>
  bif (!(decide ((r1.1.1:Int)=0))) then
    some ((a0,(r1.1.1:Int),()),[])
  else
    Option.bind (K2 n a0 a2 (1,a1,())) fun r2 =>
    some ((r2.1.1,0,()),[]):=by kernel_rfl
@[reducible] def Qk.R:Type:=Z8 [.d Za,.d (.int .i64)]×Zz
def Qk (n:Nat) (a0:(den Za)) (a1:Int) (a2:(den Z1)):Option Qk.R:=gc n 63 [.dat Za a0 [],.dat (.int .i64) a1 [],.dat Z1 a2 []] [.d Za,.d (.int .i64)]
theorem Qk.eq (n:Nat) (a0:(den Za)) (a1:Int) (a2:(den Z1)):Qk (n+1) a0 a1 a2 =
  Option.bind (Vd n a0 a1 (a2.2.2.1:Int) (a2.2.2.2.1:Int)) fun r1 =>
  some ((r1.1.1,(r1.1.2.1:Int),()),[]):=by kernel_rfl
@[reducible] def J9.R:Type:=Z8 [.d Za,.d Zn]×Zz
def J9 (n:Nat) (a0:(den Za)) (a1:Int) (a2:(den Z1)):Option J9.R:=gc n 91 [.dat Za a0 [],.dat (.int .i64) a1 [],.dat Z1 a2 [],.refv (.clo 63 [])] [.d Za,.d Zn]
theorem J9.eq (n:Nat) (a0:(den Za)) (a1:Int) (a2:(den Z1)):J9 (n+1) a0 a1 a2 =
  Option.bind (Qk n a0 a1 a2) fun r1 =>
  Option.bind (Yd n (a2.1:Int) 0 (r1.1.2.1:Int)) fun r2 =>
  some ((r1.1.1,r2.1.1,()),[]):=by kernel_rfl
@[reducible] def Yy.R:Type:=Z8 [.d .bool]×Zz
def Yy (n:Nat) (a0:(den Za)) (a1:Int) (a2:Int):Option Yy.R:=gc n 95 [.ref Za a0,.ref (.int .i64) a1,.ref (.int .i64) a2] [.d .bool]
theorem Yy.eq (n:Nat) (a0:(den Za)) (a1:Int) (a2:Int):Yy (n+1) a0 a1 a2 =
  Option.bind (Qv n a0 a1) fun r1 =>
  bif (r1.1.1:Bool) then
    some ((true,()),[])
  else
    Option.bind (Qv n a0 a2) fun r2 =>
    some (((r2.1.1:Bool),()),[]):=by kernel_rfl
@[reducible] def Jb.R:Type:=Z8 [.d .bool]×Zz
def Jb (n:Nat) (a0:(den Za)) (a1:Int) (a2:(den Zb)) (a3:Int) (a4:Int):Option Jb.R:=gc n 97 [.ref Za a0,.ref (.int .i64) a1,.ref Zb a2,.ref (.int .i64) a3,.ref (.int .i64) a4] [.d .bool]
theorem Jb.eq (n:Nat) (a0:(den Za)) (a1:Int) (a2:(den Zb)) (a3:Int) (a4:Int):Jb (n+1) a0 a1 a2 a3 a4 =
  if (0:Int)≤a1∧a1<(((List.length (a0.2.2.2.1:(List (den Zb)))):Nat):Int) then
  bif (!(eqT Zb (List.getD (a0.2.2.2.1:(List (den Zb))) (Int.toNat a1) (dft Zb):(den Zb)) a2)) then
    some ((true,()),[])
  else
    Option.bind (Jp n a0 a3 a4) fun r1 =>
    some (((!(r1.1.1:Bool)),()),[])
  else none:=by kernel_rfl
@[reducible] def Jc.R:Type:=Z8 [.d .bool]×Zz
def Jc (n:Nat) (a0:(den Za)) (a1:Int):Option Jc.R:=gc n 99 [.ref Za a0,.ref (.int .i64) a1] [.d .bool]
theorem Jc.eq (n:Nat) (a0:(den Za)) (a1:Int):Jc (n+1) a0 a1 =
  if (0:Int)≤a1∧a1<(((List.length (a0.1.2.2.2.2.1:(List Bool))):Nat):Int) then
  some (((!(List.getD (a0.1.2.2.2.2.1:(List Bool)) (Int.toNat a1) false:Bool)),()),[])
  else none:=by kernel_rfl
@[reducible] def U5.R:Type:=Z8 [.d .bool]×Zz
def U5 (n:Nat) (a0:(den Za)) (a1:Int) (a2:Int):Option U5.R:=gc n 101 [.dat Za a0 [],.dat (.int .i64) a1 [],.dat (.int .i64) a2 []] [.d .bool]
@[reducible] def Jd.R:Type:=Z8 [.d .bool]×Zz
def Jd (n:Nat) (a0:(den Za)) (a1:Int) (a2:Int):Option Jd.R:=gc n 100 [.ref Za a0,.ref (.int .i64) a1,.ref (.int .i64) a2] [.d .bool]
theorem Jd.eq (n:Nat) (a0:(den Za)) (a1:Int) (a2:Int):Jd (n+1) a0 a1 a2 =
  Option.bind (U5 n a0 a1 a2) fun r1 =>
  some (((r1.1.1:Bool),()),[]):=by kernel_rfl
@[reducible] def Q9.R:Type:=Z8 [.d (.int .i64)]×Zz
def Q9 (n:Nat) (a0:(den Za)) (a1:Int):Option Q9.R:=gc n 103 [.dat Za a0 [],.dat (.int .i64) a1 []] [.d (.int .i64)]
theorem Q9.eq (n:Nat) (a0:(den Za)) (a1:Int):Q9 (n+1) a0 a1 =
  Option.bind (H3 n a0 a1) fun r1 =>
  Option.bind (Qc n r1.1.1.1 (r1.1.1.2.1:Int)) fun r2 =>
  some (((IntKind.wrap .i64 (((List.length (r2.1.1:(List (den Zb)))):Int) - 1)),()),[]):=by kernel_rfl
def Xg.res:List Sh:=[.d (.int .i64)]
@[reducible] def Xg.R:Type:=Z8 [.d (.int .i64)]×Zz
def Xg (n:Nat) (a0:(den Za)) (a1:Int):Option Xg.R:=gc n 104 [.dat Za a0 [],.dat (.int .i64) a1 []] [.d (.int .i64)]
def Xg.l0 (n m0:Nat) (t0:(den Za)) (t1:Int) (t4:Int) (t5:Int) (t9:Int) (t10:Int) (o0:(den Za)):Option Xg.R :=
  lpN n AJo m0 (Jl 0 (Q2 (run (gc n) n) AJn (Xa Xg.fn Xg.res) (Xa Xg.fn Xg.res)) (Xa Xg.fn Xg.res))
    [(0,.dat Za t0 []),(1,.dat (.int .i64) t1 []),(2,.ptr 0 []),(4,.dat (.int .i64) t4 []),(5,.dat (.int .i64) t5 []),(9,.dat (.int .i64) t9 []),(10,.dat (.int .i64) t10 [])]
    [.box Za o0 []]
theorem Xg.l0_eq (n m0:Nat) (t0:(den Za)) (t1:Int) (t4:Int) (t5:Int) (t9:Int) (t10:Int) (o0:(den Za)):Xg.l0 n (m0+1) t0 t1 t4 t5 t9 t10 o0 =
  bif (decide (t10<t9)) then
    Option.bind (U5 n o0 t10 t1) fun r1 =>
    bif (r1.1.1:Bool) then
      Option.bind (Q9 n o0 t10) fun r2 =>
      Option.bind (Q9 n o0 t1) fun r3 =>
      Xg.l0 n m0 t0 t1 t4 (if t5<(IntKind.wrap .i64 ((r2.1.1:Int) - (r3.1.1:Int))) then (IntKind.wrap .i64 ((r2.1.1:Int) - (r3.1.1:Int))) else t5) t9 (IntKind.wrap .i64 (t10+1)) o0
    else
      Xg.l0 n m0 t0 t1 t4 t5 t9 (IntKind.wrap .i64 (t10+1)) o0
  else
    some ((t5,()),[]):=by kernel_rfl
theorem Xg.eq (n:Nat) (a0:(den Za)) (a1:Int):Xg (n+1) a0 a1 =
  Xg.l0 n n a0 a1 0 0 ((List.length (a0.2.2.2.1:(List (den Zb)))):Int) 0 a0:=by kernel_rfl
@[reducible] def Je.R:Type:=Z8 [.d .bool]×Zz
def Je (n:Nat) (a0:(den Za)) (a1:Int) (a2:Int):Option Je.R:=gc n 102 [.ref Za a0,.ref (.int .i64) a1,.ref (.int .i64) a2] [.d .bool]
theorem Je.eq (n:Nat) (a0:(den Za)) (a1:Int) (a2:Int):Je (n+1) a0 a1 a2 =
  Option.bind (Q9 n a0 a1) fun r1 =>
  Option.bind (Xg n a0 a2) fun r2 =>
  some (((decide (4<(IntKind.wrap .i64 ((IntKind.wrap .i64 ((r1.1.1:Int)+1))+(r2.1.1:Int))))),()),[]):=by kernel_rfl
@[reducible] def Jf.R:Type:=Z8 [.d .bool]×Zz
def Jf (n:Nat) (a0:(den Za)) (a1:(den Zb)):Option Jf.R:=gc n 105 [.ref Za a0,.ref Zb a1] [.d .bool]
theorem Jf.eq (n:Nat) (a0:(den Za)) (a1:(den Zb)):Jf (n+1) a0 a1 =
  Option.bind (Qz n a0 a1) fun r1 =>
  some (((decide ((r1.1.1:Int)<1)),()),[]):=by kernel_rfl
@[reducible] def Y1.R:Type:=Z8 [.d (.int .i64)]×Zz
def Y1 (n:Nat) (a0:(den Za)) (a1:Int) (a2:Int) (a3:Int) (a4:(den Za)) (a5:Int) (a6:(den Zb)) (a7:Int) (a8:Int) (a9:Int) (a10:(den Za)) (a11:Int) (a12:Int) (a13:(den Za)) (a14:Int) (a15:Int) (a16:Int) (a17:(den Za)) (a18:Int) (a19:Int) (a20:Int) (a21:(den Za)) (a22:(den Zb)) (a23:Int):Option Y1.R:=gc n 94 [.slv [.agv [.clo 95 [.ref Za a0,.ref (.int .i64) a1,.ref (.int .i64) a2],.dat (.int .i64) a3 []],.agv [.clo 97 [.ref Za a4,.ref (.int .i64) a5,.ref Zb a6,.ref (.int .i64) a7,.ref (.int .i64) a8],.dat (.int .i64) a9 []],.agv [.clo 99 [.ref Za a10,.ref (.int .i64) a11],.dat (.int .i64) a12 []],.agv [.clo 100 [.ref Za a13,.ref (.int .i64) a14,.ref (.int .i64) a15],.dat (.int .i64) a16 []],.agv [.clo 102 [.ref Za a17,.ref (.int .i64) a18,.ref (.int .i64) a19],.dat (.int .i64) a20 []],.agv [.clo 105 [.ref Za a21,.ref Zb a22],.dat (.int .i64) a23 []]]] [.d (.int .i64)]
theorem Y1.eq (n:Nat) (a0:(den Za)) (a1:Int) (a2:Int) (a3:Int) (a4:(den Za)) (a5:Int) (a6:(den Zb)) (a7:Int) (a8:Int) (a9:Int) (a10:(den Za)) (a11:Int) (a12:Int) (a13:(den Za)) (a14:Int) (a15:Int) (a16:Int) (a17:(den Za)) (a18:Int) (a19:Int) (a20:Int) (a21:(den Za)) (a22:(den Zb)) (a23:Int):Y1 (n+14) a0 a1 a2 a3 a4 a5 a6 a7 a8 a9 a10 a11 a12 a13 a14 a15 a16 a17 a18 a19 a20 a21 a22 a23 =
  Option.bind (Yy (n+13) a0 a1 a2) fun r1 =>
  bif (r1.1.1:Bool) then
    some ((a3,()),[])
  else
    Option.bind (Jb (n+13) a4 a5 a6 a7 a8) fun r2 =>
    bif (r2.1.1:Bool) then
      some ((a9,()),[])
    else
      Option.bind (Jc (n+13) a10 a11) fun r3 =>
      bif (r3.1.1:Bool) then
        some ((a12,()),[])
      else
        Option.bind (Jd (n+13) a13 a14 a15) fun r4 =>
        bif (r4.1.1:Bool) then
          some ((a16,()),[])
        else
          Option.bind (Je (n+13) a17 a18 a19) fun r5 =>
          bif (r5.1.1:Bool) then
            some ((a20,()),[])
          else
            Option.bind (Jf (n+13) a21 a22) fun r6 =>
            bif (r6.1.1:Bool) then
              some ((a23,()),[])
            else
              some ((0,()),[]):=by kernel_rfl
@[reducible] def V1.R:Type:=Z8 [.d Za,.d (.int .i64)]×Zz
def V1 (n:Nat) (a0:(den Za)) (a1:Int) (a2:Int) (a3:Int):Option V1.R:=gc n 62 [.dat Za a0 [],.dat (.int .i64) a1 [],.dat (.int .i64) a2 [],.dat (.int .i64) a3 []] [.d Za,.d (.int .i64)]
theorem V1.eq (n:Nat) (a0:(den Za)) (a1:Int) (a2:Int) (a3:Int):V1 (n+1) a0 a1 a2 a3 =
  Option.bind (Y1 n a0 a2 a3 3 a0 a2 (1,a1,()) a1 a3 5 a0 a3 6 a0 a3 a2 7 a0 a3 a2 8 a0 (2,a3,()) 9) fun r1 =>
  bif (!(decide ((r1.1.1:Int)=0))) then
    some ((a0,(r1.1.1:Int),()),[])
  else
    Option.bind (K2 n a0 a2 (2,a3,())) fun r2 =>
    some ((r2.1.1,0,()),[]):=by kernel_rfl
@[reducible] def Qj.R:Type:=Z8 [.d Za,.d (.int .i64)]×Zz
def Qj (n:Nat) (a0:(den Za)) (a1:Int) (a2:(den Z1)):Option Qj.R:=gc n 61 [.dat Za a0 [],.dat (.int .i64) a1 [],.dat Z1 a2 []] [.d Za,.d (.int .i64)]
theorem Qj.eq (n:Nat) (a0:(den Za)) (a1:Int) (a2:(den Z1)):Qj (n+1) a0 a1 a2 =
  Option.bind (V1 n a0 a1 (a2.2.2.1:Int) (a2.2.2.2.1:Int)) fun r1 =>
  some ((r1.1.1,(r1.1.2.1:Int),()),[]):=by kernel_rfl
@[reducible] def Va.R:Type:=Z8 [.d Za,.d Zn]×Zz
def Va (n:Nat) (a0:(den Za)) (a1:Int) (a2:(den Z1)):Option Va.R:=gc n 91 [.dat Za a0 [],.dat (.int .i64) a1 [],.dat Z1 a2 [],.refv (.clo 61 [])] [.d Za,.d Zn]
theorem Va.eq (n:Nat) (a0:(den Za)) (a1:Int) (a2:(den Z1)):Va (n+1) a0 a1 a2 =
  Option.bind (Qj n a0 a1 a2) fun r1 =>
  Option.bind (Yd n (a2.1:Int) 0 (r1.1.2.1:Int)) fun r2 =>
  some ((r1.1.1,r2.1.1,()),[]):=by kernel_rfl
@[reducible] def Qx.R:Type:=Z8 [.d Zb,.d Zb]×Zz
def Qx (n:Nat) (a0:(den Za)) (a1:Int):Option Qx.R:=gc n 92 [.dat Za a0 [],.dat (.int .i64) a1 []] [.d Zb,.d Zb]
theorem Qx.eq (n:Nat) (a0:(den Za)) (a1:Int):Qx (n+1) a0 a1 =
  if (0:Int)≤a1∧a1<(((List.length (a0.2.1:(List Int))):Nat):Int) then
  some (((0,(List.getD (a0.2.1:(List Int)) (Int.toNat a1) (0:Int):Int),()),(1,a1,()),()),[])
  else none:=by kernel_rfl
@[reducible] def Vn.R:Type:=Z8 [.d Za,.d (.int .i64)]×Zz
def Vn (n:Nat) (a0:(den Za)) (a1:Int) (a2:(den Zb)) (a3:(den Zb)):Option Vn.R:=gc n 93 [.dat Za a0 [],.dat (.int .i64) a1 [],.dat Zb a2 [],.dat Zb a3 []] [.d Za,.d (.int .i64)]
theorem Vn.eq (n:Nat) (a0:(den Za)) (a1:Int) (a2:(den Zb)) (a3:(den Zb)):Vn (n+1) a0 a1 a2 a3 =
  bif (decide (a1<0)) then
    some ((a0,3,()),[])
  else
    bif (decide (((List.length (a0.2.2.2.1:(List (den Zb)))):Int)≤a1)) then
      some ((a0,3,()),[])
    else
      if (0:Int)≤a1∧a1<(((List.length (a0.2.2.2.1:(List (den Zb)))):Nat):Int) then
      bif (!(eqT Zb (List.getD (a0.2.2.2.1:(List (den Zb))) (Int.toNat a1) (dft Zb):(den Zb)) a2)) then
        some ((a0,5,()),[])
      else
        Option.bind (Qz n a0 a3) fun r1 =>
        bif (decide ((r1.1.1:Int)<1)) then
          some ((a0,9,()),[])
        else
          Option.bind (K2 n a0 a1 a3) fun r2 =>
          some ((r2.1.1,0,()),[])
      else none:=by kernel_rfl
@[reducible] def V5.R:Type:=Z8 [.d Za,.d (.int .i64)]×Zz
def V5 (n:Nat) (a0:(den Za)) (a1:Int) (a2:Int):Option V5.R:=gc n 60 [.dat Za a0 [],.dat (.int .i64) a1 [],.dat (.int .i64) a2 []] [.d Za,.d (.int .i64)]
theorem V5.eq (n:Nat) (a0:(den Za)) (a1:Int) (a2:Int):V5 (n+1) a0 a1 a2 =
  Option.bind (Qx n a0 a1) fun r1 =>
  Option.bind (Vn n a0 a2 r1.1.2.1 r1.1.1) fun r2 =>
  some ((r2.1.1,(r2.1.2.1:Int),()),[]):=by kernel_rfl
@[reducible] def Qi.R:Type:=Z8 [.d Za,.d (.int .i64)]×Zz
def Qi (n:Nat) (a0:(den Za)) (a1:Int) (a2:(den Z1)):Option Qi.R:=gc n 59 [.dat Za a0 [],.dat (.int .i64) a1 [],.dat Z1 a2 []] [.d Za,.d (.int .i64)]
theorem Qi.eq (n:Nat) (a0:(den Za)) (a1:Int) (a2:(den Z1)):Qi (n+1) a0 a1 a2 =
  Option.bind (V5 n a0 a1 (a2.2.2.1:Int)) fun r1 =>
  some ((r1.1.1,(r1.1.2.1:Int),()),[]):=by kernel_rfl
@[reducible] def Vb.R:Type:=Z8 [.d Za,.d Zn]×Zz
def Vb (n:Nat) (a0:(den Za)) (a1:Int) (a2:(den Z1)):Option Vb.R:=gc n 91 [.dat Za a0 [],.dat (.int .i64) a1 [],.dat Z1 a2 [],.refv (.clo 59 [])] [.d Za,.d Zn]
theorem Vb.eq (n:Nat) (a0:(den Za)) (a1:Int) (a2:(den Z1)):Vb (n+1) a0 a1 a2 =
  Option.bind (Qi n a0 a1 a2) fun r1 =>
  Option.bind (Yd n (a2.1:Int) 0 (r1.1.2.1:Int)) fun r2 =>
  some ((r1.1.1,r2.1.1,()),[]):=by kernel_rfl
@[reducible] def K9.R:Type:=Z8 [.d Za,.d (.int .i64)]×Zz
def K9 (n:Nat) (a0:(den Za)) (a1:Int) (a2:Int):Option K9.R:=gc n 58 [.dat Za a0 [],.dat (.int .i64) a1 [],.dat (.int .i64) a2 []] [.d Za,.d (.int .i64)]
theorem K9.eq (n:Nat) (a0:(den Za)) (a1:Int) (a2:Int):K9 (n+1) a0 a1 a2 =
  Option.bind (Qx n a0 a1) fun r1 =>
  Option.bind (Vn n a0 a2 r1.1.1 r1.1.2.1) fun r2 =>
  some ((r2.1.1,(r2.1.2.1:Int),()),[]):=by kernel_rfl
@[reducible] def Qh.R:Type:=Z8 [.d Za,.d (.int .i64)]×Zz
def Qh (n:Nat) (a0:(den Za)) (a1:Int) (a2:(den Z1)):Option Qh.R:=gc n 57 [.dat Za a0 [],.dat (.int .i64) a1 [],.dat Z1 a2 []] [.d Za,.d (.int .i64)]
theorem Qh.eq (n:Nat) (a0:(den Za)) (a1:Int) (a2:(den Z1)):Qh (n+1) a0 a1 a2 =
  Option.bind (K9 n a0 a1 (a2.2.2.1:Int)) fun r1 =>
  some ((r1.1.1,(r1.1.2.1:Int),()),[]):=by kernel_rfl
@[reducible] def Vc.R:Type:=Z8 [.d Za,.d Zn]×Zz
def Vc (n:Nat) (a0:(den Za)) (a1:Int) (a2:(den Z1)):Option Vc.R:=gc n 91 [.dat Za a0 [],.dat (.int .i64) a1 [],.dat Z1 a2 [],.refv (.clo 57 [])] [.d Za,.d Zn]
theorem Vc.eq (n:Nat) (a0:(den Za)) (a1:Int) (a2:(den Z1)):Vc (n+1) a0 a1 a2 =
  Option.bind (Qh n a0 a1 a2) fun r1 =>
  Option.bind (Yd n (a2.1:Int) 0 (r1.1.2.1:Int)) fun r2 =>
  some ((r1.1.1,r2.1.1,()),[]):=by kernel_rfl
@[reducible] def Hg.R:Type:=Z8 [.clo 128 [.refv (.clo 90 [.ref (.int .i64),.ref Za,.ref (.int .i64)]),.ref Za,.ref (.int .i64)]]×Zz
def Hg (n:Nat) (a0:(den Za)) (a1:Int) (a2:Int) (a3:(den Za)) (a4:Int):Option Hg.R:=gc n 88 [.dat Za a0 [],.dat (.int .i64) a1 [],.clo 90 [.ref (.int .i64) a2,.ref Za a3,.ref (.int .i64) a4]] [.clo 128 [.refv (.clo 90 [.ref (.int .i64),.ref Za,.ref (.int .i64)]),.ref Za,.ref (.int .i64)]]
theorem Hg.eq (n:Nat) (a0:(den Za)) (a1:Int) (a2:Int) (a3:(den Za)) (a4:Int):Hg (n+1) a0 a1 a2 a3 a4 =
  some ((((a2,a3,a4,()),a0,a1,()),()),[]):=by kernel_rfl
@[reducible] def Jh.R:Type:=Z8 [.d (.int .i64)]×Zz
def Jh (n:Nat) (a0:Int) (a1:(den Za)) (a2:Int):Option Jh.R:=gc n 90 [.ref (.int .i64) a0,.ref Za a1,.ref (.int .i64) a2] [.d (.int .i64)]
theorem Jh.eq (n:Nat) (a0:Int) (a1:(den Za)) (a2:Int):Jh (n+1) a0 a1 a2 =
  bif (decide (a0<0)) then
    some ((3,()),[])
  else
    bif (decide (((List.length (a1.2.1:(List Int))):Int)≤a0)) then
      some ((3,()),[])
    else
      bif (decide (a0=a2)) then
        some ((12,()),[])
      else
        if (0:Int)≤a0∧a0<(((List.length (a1.2.1:(List Int))):Nat):Int) then
        if (0:Int)≤a2∧a2<(((List.length (a1.2.1:(List Int))):Nat):Int) then
        bif (!(decide ((List.getD (a1.2.1:(List Int)) (Int.toNat a0) (0:Int):Int)=(List.getD (a1.2.1:(List Int)) (Int.toNat a2) (0:Int):Int)))) then
          some ((5,()),[])
        else
          some ((0,()),[])
        else none
        else none:=by kernel_rfl
@[reducible] def J6.R:Type:=Z8 [.d (.int .i64),.d .bool]×Zz
def J6 (n:Nat) (a0:(den Za)) (a1:Int) (a2:Int):Option J6.R:=gc n 129 [.dat Za a0 [],.dat (.int .i64) a1 [],.dat (.int .i64) a2 []] [.d (.int .i64),.d .bool]
theorem J6.eq (n:Nat) (a0:(den Za)) (a1:Int) (a2:Int):J6 (n+1) a0 a1 a2 =
  if (0:Int)≤a1∧a1<(((List.length (a0.1.1:(List (List Int)))):Nat):Int) then
  if (0:Int)≤a2∧a2<((4:Nat):Int) then
  some (((if (List.getD (List.getD (a0.1.1:(List (List Int))) (Int.toNat a1) (dft (.arr 4 (.int .i64))):(List Int)) (Int.toNat a2) (0:Int):Int)<0 then 0 else (List.getD (List.getD (a0.1.1:(List (List Int))) (Int.toNat a1) (dft (.arr 4 (.int .i64))):(List Int)) (Int.toNat a2) (0:Int):Int)),(decide (0≤(List.getD (List.getD (a0.1.1:(List (List Int))) (Int.toNat a1) (dft (.arr 4 (.int .i64))):(List Int)) (Int.toNat a2) (0:Int):Int))),()),[])
  else none
  else none:=by kernel_rfl
@[reducible] def V9.R:Type:=Z8 [.d Za,.d (.int .i64),.d (.int .i64)]×Zz
def V9 (n:Nat) (a0:Int) (a1:Int) (a2:(den Za)) (a3:Int) (a4:(den Za)) (a5:Int):Option V9.R:=gc n 128 [.dat (.int .i64) a0 [],.refv (.clo 90 [.ref (.int .i64) a1,.ref Za a2,.ref (.int .i64) a3]),.ref Za a4,.ref (.int .i64) a5] [.d Za,.d (.int .i64),.d (.int .i64)]
theorem V9.eq (n:Nat) (a0:Int) (a1:Int) (a2:(den Za)) (a3:Int) (a4:(den Za)) (a5:Int):V9 (n+1) a0 a1 a2 a3 a4 a5 =
  Option.bind (Jh n a1 a2 a3) fun r1 =>
  bif (!(decide ((r1.1.1:Int)=0))) then
    some ((a4,0,(r1.1.1:Int),()),[])
  else
    if (0:Int)≤a0∧a0<(((List.length (a4.2.1:(List Int))):Nat):Int) then
    Option.bind (J6 n a4 (List.getD (a4.2.1:(List Int)) (Int.toNat a0) (0:Int):Int) a5) fun r2 =>
    bif (!(r2.1.2.1:Bool)) then
      some ((a4,0,4,()),[])
    else
      Option.bind (Ja n a4) fun r3 =>
      bif (Zv r3.2 [((0,[1]),2)]) then
        if (0:Int)≤a0∧a0<(((List.length (r3.1.1.2.1:(List Int))):Nat):Int) then
        some (((r3.1.1.1,(List.set (r3.1.1.2.1:(List Int)) (Int.toNat a0) (r2.1.1:Int):(List Int)),(r3.1.1.2.2.1:(List Int)),(r3.1.1.2.2.2.1:(List (den Zb))),()),(r2.1.1:Int),0,()),[(0,[1])])
        else none
      else
        none
    else none:=by kernel_rfl
@[reducible] def V8.R:Type:=Z8 [.d Za,.d (.int .i64),.d (.int .i64)]×Zz
def V8 (n:Nat) (a0:(den Za)) (a1:Int) (a2:Int) (a3:Int):Option V8.R:=gc n 55 [.dat Za a0 [],.dat (.int .i64) a1 [],.dat (.int .i64) a2 [],.dat (.int .i64) a3 []] [.d Za,.d (.int .i64),.d (.int .i64)]
theorem V8.eq (n:Nat) (a0:(den Za)) (a1:Int) (a2:Int) (a3:Int):V8 (n+1) a0 a1 a2 a3 =
  Option.bind (Hg n a0 a3 a2 a0 a1) fun r1 =>
  Option.bind (V9 n a2 (r1.1.1.1.1:Int) r1.1.1.1.2.1 (r1.1.1.1.2.2.1:Int) r1.1.1.2.1 (r1.1.1.2.2.1:Int)) fun r2 =>
  some ((r2.1.1,(r2.1.2.1:Int),(r2.1.2.2.1:Int),()),[]):=by kernel_rfl
@[reducible] def Qg.R:Type:=Z8 [.d Za,.d (.int .i64),.d (.int .i64)]×Zz
def Qg (n:Nat) (a0:(den Za)) (a1:Int) (a2:(den Z1)):Option Qg.R:=gc n 54 [.dat Za a0 [],.dat (.int .i64) a1 [],.dat Z1 a2 []] [.d Za,.d (.int .i64),.d (.int .i64)]
theorem Qg.eq (n:Nat) (a0:(den Za)) (a1:Int) (a2:(den Z1)):Qg (n+1) a0 a1 a2 =
  Option.bind (V8 n a0 a1 (a2.2.2.2.2.1:Int) (a2.2.1:Int)) fun r1 =>
  some ((r1.1.1,(r1.1.2.1:Int),(r1.1.2.2.1:Int),()),[]):=by kernel_rfl
@[reducible] def Qm.R:Type:=Z8 [.d Za,.d Zn]×Zz
def Qm (n:Nat) (a0:(den Za)) (a1:Int) (a2:(den Z1)):Option Qm.R:=gc n 86 [.dat Za a0 [],.dat (.int .i64) a1 [],.dat Z1 a2 [],.refv (.clo 54 [])] [.d Za,.d Zn]
theorem Qm.eq (n:Nat) (a0:(den Za)) (a1:Int) (a2:(den Z1)):Qm (n+1) a0 a1 a2 =
  Option.bind (Qg n a0 a1 a2) fun r1 =>
  Option.bind (Yd n (a2.1:Int) (r1.1.2.1:Int) (r1.1.2.2.1:Int)) fun r2 =>
  some ((r1.1.1,r2.1.1,()),[]):=by kernel_rfl
@[reducible] def Vu.R:Type:=Z8 [.clo 128 [.refv (.clo 89 []),.ref Za,.ref (.int .i64)]]×Zz
def Vu (n:Nat) (a0:(den Za)) (a1:Int):Option Vu.R:=gc n 88 [.dat Za a0 [],.dat (.int .i64) a1 [],.clo 89 []] [.clo 128 [.refv (.clo 89 []),.ref Za,.ref (.int .i64)]]
theorem Vu.eq (n:Nat) (a0:(den Za)) (a1:Int):Vu (n+1) a0 a1 =
  some ((((()),a0,a1,()),()),[]):=by kernel_rfl
@[reducible] def J1.R:Type:=Z8 [.d (.int .i64)]×Zz
def J1 (n:Nat):Option J1.R:=gc n 89 [] [.d (.int .i64)]
theorem J1.eq (n:Nat):J1 (n+1) =
  some ((0,()),[]):=by kernel_rfl
@[reducible] def Qu.R:Type:=Z8 [.d Za,.d (.int .i64),.d (.int .i64)]×Zz
def Qu (n:Nat) (a0:Int) (a1:(den Za)) (a2:Int):Option Qu.R:=gc n 128 [.dat (.int .i64) a0 [],.refv (.clo 89 []),.ref Za a1,.ref (.int .i64) a2] [.d Za,.d (.int .i64),.d (.int .i64)]
theorem Qu.eq (n:Nat) (a0:Int) (a1:(den Za)) (a2:Int):Qu (n+1) a0 a1 a2 =
  Option.bind (J1 n) fun r1 =>
  bif (!(decide ((r1.1.1:Int)=0))) then
    some ((a1,0,(r1.1.1:Int),()),[])
  else
    if (0:Int)≤a0∧a0<(((List.length (a1.2.1:(List Int))):Nat):Int) then
    Option.bind (J6 n a1 (List.getD (a1.2.1:(List Int)) (Int.toNat a0) (0:Int):Int) a2) fun r2 =>
    bif (!(r2.1.2.1:Bool)) then
      some ((a1,0,4,()),[])
    else
      Option.bind (Ja n a1) fun r3 =>
      bif (Zv r3.2 [((0,[1]),2)]) then
        if (0:Int)≤a0∧a0<(((List.length (r3.1.1.2.1:(List Int))):Nat):Int) then
        some (((r3.1.1.1,(List.set (r3.1.1.2.1:(List Int)) (Int.toNat a0) (r2.1.1:Int):(List Int)),(r3.1.1.2.2.1:(List Int)),(r3.1.1.2.2.2.1:(List (den Zb))),()),(r2.1.1:Int),0,()),[(0,[1])])
        else none
      else
        none
    else none:=by kernel_rfl
@[reducible] def V7.R:Type:=Z8 [.d Za,.d (.int .i64),.d (.int .i64)]×Zz
def V7 (n:Nat) (a0:(den Za)) (a1:Int) (a2:Int):Option V7.R:=gc n 53 [.dat Za a0 [],.dat (.int .i64) a1 [],.dat (.int .i64) a2 []] [.d Za,.d (.int .i64),.d (.int .i64)]
theorem V7.eq (n:Nat) (a0:(den Za)) (a1:Int) (a2:Int):V7 (n+1) a0 a1 a2 =
  Option.bind (Vu n a0 a2) fun r1 =>
  Option.bind (Qu n a1 r1.1.1.2.1 (r1.1.1.2.2.1:Int)) fun r2 =>
  some ((r2.1.1,(r2.1.2.1:Int),(r2.1.2.2.1:Int),()),[]):=by kernel_rfl
@[reducible] def Qf.R:Type:=Z8 [.d Za,.d (.int .i64),.d (.int .i64)]×Zz
def Qf (n:Nat) (a0:(den Za)) (a1:Int) (a2:(den Z1)):Option Qf.R:=gc n 52 [.dat Za a0 [],.dat (.int .i64) a1 [],.dat Z1 a2 []] [.d Za,.d (.int .i64),.d (.int .i64)]
theorem Qf.eq (n:Nat) (a0:(den Za)) (a1:Int) (a2:(den Z1)):Qf (n+1) a0 a1 a2 =
  Option.bind (V7 n a0 a1 (a2.2.1:Int)) fun r1 =>
  some ((r1.1.1,(r1.1.2.1:Int),(r1.1.2.2.1:Int),()),[]):=by kernel_rfl
@[reducible] def J7.R:Type:=Z8 [.d Za,.d Zn]×Zz
def J7 (n:Nat) (a0:(den Za)) (a1:Int) (a2:(den Z1)):Option J7.R:=gc n 86 [.dat Za a0 [],.dat (.int .i64) a1 [],.dat Z1 a2 [],.refv (.clo 52 [])] [.d Za,.d Zn]
theorem J7.eq (n:Nat) (a0:(den Za)) (a1:Int) (a2:(den Z1)):J7 (n+1) a0 a1 a2 =
  Option.bind (Qf n a0 a1 a2) fun r1 =>
  Option.bind (Yd n (a2.1:Int) (r1.1.2.1:Int) (r1.1.2.2.1:Int)) fun r2 =>
  some ((r1.1.1,r2.1.1,()),[]):=by kernel_rfl
@[reducible] def Qe.R:Type:=Z8 [.d Za,.d Zn]×Zz
def Qe (n:Nat) (a0:(den Za)) (a1:Int) (a2:(den Z1)):Option Qe.R:=gc n 10 [.dat Za a0 [],.dat (.int .i64) a1 [],.dat Z1 a2 []] [.d Za,.d Zn]
theorem Qe.eq (n:Nat) (a0:(den Za)) (a1:Int) (a2:(den Z1)):Qe (n+1) a0 a1 a2 =
  Option.bind (K0 n a2) fun r1 =>
  bif (!(r1.1.1:Bool)) then
    some ((a0,(2,0,0,([]:List Int),([]:List (den X7)),0,()),()),[])
  else
    Option.bind (Wy n) fun r2 =>
    bif (decide ((a2.1:Int)=1)) then
      Option.bind (J7 n a0 a1 a2) fun r12 =>
      some ((r12.1.1,r12.1.2.1,()),[])
    else
      bif (decide ((a2.1:Int)=2)) then
        Option.bind (Qm n a0 a1 a2) fun r11 =>
        some ((r11.1.1,r11.1.2.1,()),[])
      else
        bif (decide ((a2.1:Int)=3)) then
          Option.bind (Vc n a0 a1 a2) fun r10 =>
          some ((r10.1.1,r10.1.2.1,()),[])
        else
          bif (decide ((a2.1:Int)=4)) then
            Option.bind (Vb n a0 a1 a2) fun r9 =>
            some ((r9.1.1,r9.1.2.1,()),[])
          else
            bif (decide ((a2.1:Int)=5)) then
              Option.bind (Va n a0 a1 a2) fun r8 =>
              some ((r8.1.1,r8.1.2.1,()),[])
            else
              bif (decide ((a2.1:Int)=6)) then
                Option.bind (J9 n a0 a1 a2) fun r7 =>
                some ((r7.1.1,r7.1.2.1,()),[])
              else
                bif (decide ((a2.1:Int)=7)) then
                  Option.bind (J8 n a0 a1 a2) fun r6 =>
                  some ((r6.1.1,r6.1.2.1,()),[])
                else
                  bif (decide ((a2.1:Int)=8)) then
                    Option.bind (Qn n a0 a1 a2) fun r5 =>
                    some ((r5.1.1,r5.1.2.1,()),[])
                  else
                    bif (decide ((a2.1:Int)=9)) then
                      Option.bind (Jo n a0 a1 a2) fun r4 =>
                      some ((r4.1.1,r4.1.2.1,()),[])
                    else
                      bif (decide ((a2.1:Int)=10)) then
                        Option.bind (Y2 n a0 a1 a2) fun r3 =>
                        some ((r3.1.1,r3.1.2.1,()),[])
                      else
                        none:=by kernel_rfl
@[reducible] def Wx.R:Type:=Z8 [.d Za,.d (.sl Zn)]×Zz
def Wx (n:Nat) (a0:(den Za)) (a1:(List (den Of))):Option Wx.R:=gc n 19 [.dat Za a0 [],.dat (.sl Of) a1 []] [.d Za,.d (.sl Zn)]
def Zq.res:List Sh:=[.d .bool]
@[reducible] def Zq.R:Type:=Z8 [.d .bool]×Zz
def Zq (n:Nat) (a0:(List Int)) (a1:(List Int)):Option Zq.R:=gc n 33 [.dat (.sl (.int .i64)) a0 [],.dat (.sl (.int .i64)) a1 []] [.d .bool]
def Zq.l0 (n m0:Nat) (t0:(List Int)) (t1:(List Int)) (t4:Bool) (t5:Int):Option Zq.R :=
  lpN n AQt m0 (Jl 0 (Q2 (run (gc n) n) AQs (Xa Zq.fn Zq.res) (Xa Zq.fn Zq.res)) (Xa Zq.fn Zq.res))
    [(0,.dat (.sl (.int .i64)) t0 []),(1,.dat (.sl (.int .i64)) t1 []),(4,.dat .bool t4 []),(5,.dat (.int .i64) t5 [])]
    []
theorem Zq.l0_eq (n m0:Nat) (t0:(List Int)) (t1:(List Int)) (t4:Bool) (t5:Int):Zq.l0 n (m0+1) t0 t1 t4 t5 =
  bif (decide (t5<((List.length t0):Int))) then
    if (0:Int)≤t5∧t5<(((List.length t0):Nat):Int) then
    if (0:Int)≤t5∧t5<(((List.length t1):Nat):Int) then
    bif (!(decide ((List.getD t0 (Int.toNat t5) (0:Int):Int)=(List.getD t1 (Int.toNat t5) (0:Int):Int)))) then
      some ((false,()),[])
    else
      Zq.l0 n m0 t0 t1 t4 (IntKind.wrap .i64 (t5+1))
    else none
    else none
  else
    some ((true,()),[]):=by kernel_rfl
theorem Zq.eq (n:Nat) (a0:(List Int)) (a1:(List Int)):Zq (n+1) a0 a1 =
  bif (!(decide (((List.length a0):Int)=((List.length a1):Int)))) then
    some ((false,()),[])
  else
    Zq.l0 n n a0 a1 false 0:=by kernel_rfl
def Zx.res:List Sh:=[.d .bool]
@[reducible] def Zx.R:Type:=Z8 [.d .bool]×Zz
def Zx (n:Nat) (a0:(List (den X7))) (a1:(List (den X7))):Option Zx.R:=gc n 35 [.dat (.sl X7) a0 [],.dat (.sl X7) a1 []] [.d .bool]
def Zx.l0 (n m0:Nat) (t0:(List (den X7))) (t1:(List (den X7))) (t4:Bool) (t5:Int):Option Zx.R :=
  lpN n AQx m0 (Jl 0 (Q2 (run (gc n) n) AQw (Xa Zx.fn Zx.res) (Xa Zx.fn Zx.res)) (Xa Zx.fn Zx.res))
    [(0,.dat (.sl X7) t0 []),(1,.dat (.sl X7) t1 []),(4,.dat .bool t4 []),(5,.dat (.int .i64) t5 [])]
    []
theorem Zx.l0_eq (n m0:Nat) (t0:(List (den X7))) (t1:(List (den X7))) (t4:Bool) (t5:Int):Zx.l0 n (m0+1) t0 t1 t4 t5 =
  bif (decide (t5<((List.length t0):Int))) then
    if (0:Int)≤t5∧t5<(((List.length t0):Nat):Int) then
    if (0:Int)≤t5∧t5<(((List.length t1):Nat):Int) then
    bif (!(eqT X7 (List.getD t0 (Int.toNat t5) (dft X7):(den X7)) (List.getD t1 (Int.toNat t5) (dft X7):(den X7)))) then
      some ((false,()),[])
    else
      Zx.l0 n m0 t0 t1 t4 (IntKind.wrap .i64 (t5+1))
    else none
    else none
  else
    some ((true,()),[]):=by kernel_rfl
theorem Zx.eq (n:Nat) (a0:(List (den X7))) (a1:(List (den X7))):Zx (n+1) a0 a1 =
  bif (!(decide (((List.length a0):Int)=((List.length a1):Int)))) then
    some ((false,()),[])
  else
    Zx.l0 n n a0 a1 false 0:=by kernel_rfl
@[reducible] def Xy.R:Type:=Z8 [.d .bool]×Zz
def Xy (n:Nat) (a0:(den Zn)) (a1:(den Zn)):Option Xy.R:=gc n 13 [.dat Zn a0 [],.dat Zn a1 []] [.d .bool]
theorem Xy.eq (n:Nat) (a0:(den Zn)) (a1:(den Zn)):Xy (n+1) a0 a1 =
  bif (decide ((a0.1:Int)=(a1.1:Int))) then
    bif (decide ((a0.2.1:Int)=(a1.2.1:Int))) then
      bif (decide ((a0.2.2.1:Int)=(a1.2.2.1:Int))) then
        bif (decide ((a0.2.2.2.2.2.1:Int)=(a1.2.2.2.2.2.1:Int))) then
          Option.bind (Zq n (a0.2.2.2.1:(List Int)) (a1.2.2.2.1:(List Int))) fun r1 =>
          bif (r1.1.1:Bool) then
            Option.bind (Zx n (a0.2.2.2.2.1:(List (den X7))) (a1.2.2.2.2.1:(List (den X7)))) fun r2 =>
            some (((r2.1.1:Bool),()),[])
          else
            some ((false,()),[])
        else
          some ((false,()),[])
      else
        some ((false,()),[])
    else
      some ((false,()),[])
  else
    some ((false,()),[]):=by kernel_rfl
@[reducible] def Xd.R:Type:=Z8 [.d .bool]×Zz
def Xd (n:Nat):Option Xd.R:=gc n 7 [] [.d .bool]
@[reducible] def X5.R:Type:=Z8 [.d .bool]×Zz
def X5 (n:Nat) (a0:(den Za)):Option X5.R:=gc n 20 [.dat Za a0 []] [.d .bool]
theorem X5.eq (n:Nat) (a0:(den Za)):X5 (n+1) a0 =
  bif (decide (((List.length (a0.1.1:(List (List Int)))):Int)≤20)) then
    bif (decide (((List.length (a0.1.2.1:(List Int))):Int)≤20)) then
      bif (decide (((List.length (a0.1.2.2.1:(List Int))):Int)≤20)) then
        bif (decide (((List.length (a0.1.2.2.2.1:(List Int))):Int)≤40)) then
          bif (decide (((List.length (a0.1.2.2.2.2.1:(List Bool))):Int)≤40)) then
            bif (decide (((List.length (a0.2.1:(List Int))):Int)≤40)) then
              bif (decide (((List.length (a0.2.2.1:(List Int))):Int)≤40)) then
                some (((decide (((List.length (a0.2.2.2.1:(List (den Zb)))):Int)≤40)),()),[])
              else
                some ((false,()),[])
            else
              some ((false,()),[])
          else
            some ((false,()),[])
        else
          some ((false,()),[])
      else
        some ((false,()),[])
    else
      some ((false,()),[])
  else
    some ((false,()),[]):=by kernel_rfl
@[reducible] def Z5.R:Type:=Z8 [.d .bool]×Zz
def Z5 (n:Nat) (a0:Int) (a1:Int):Option Z5.R:=gc n 37 [.dat (.int .i64) a0 [],.dat (.int .i64) a1 []] [.d .bool]
theorem Z5.eq (n:Nat) (a0:Int) (a1:Int):Z5 (n+1) a0 a1 =
  bif (decide (0≤a0)) then
    some (((decide (a0<a1)),()),[])
  else
    some ((false,()),[]):=by kernel_rfl
@[reducible] def Ya.R:Type:=Z8 [.d .bool]×Zz
def Ya (n:Nat) (a0:Int):Option Ya.R:=gc n 38 [.dat (.int .i64) a0 []] [.d .bool]
theorem Ya.eq (n:Nat) (a0:Int):Ya (n+1) a0 =
  bif (decide (0≤a0)) then
    some (((decide (a0≤1073741824)),()),[])
  else
    some ((false,()),[]):=by kernel_rfl
def Zc.res:List Sh:=[.d .bool]
@[reducible] def Zc.R:Type:=Z8 [.d .bool]×Zz
def Zc (n:Nat) (a0:(den Zu)):Option Zc.R:=gc n 36 [.dat Zu a0 []] [.d .bool]
def Zc.l0 (n m0:Nat) (t0:(den Zu)) (t2:Bool) (t3:Int) (t4:Int) (o0:(den Zu)):Option Zc.R :=
  lpN n Or m0 (Jl 0 (Q2 (run (gc n) n) Vi (Xa Zc.fn Zc.res) (Xa Zc.fn Zc.res)) (Xa Zc.fn Zc.res))
    [(0,.dat Zu t0 []),(1,.ptr 0 []),(2,.dat .bool t2 []),(3,.dat (.int .i64) t3 []),(4,.dat (.int .i64) t4 [])]
    [.box Zu o0 []]
def Zc.l1 (n m0 m1:Nat) (t0_1:(den Zu)) (t2_1:Bool) (t3_1:Int) (t4_1:Int) (t5_1:Int) (o0_1:(den Zu)):Option Zc.R :=
  lpN n AJ7 m1 (Jl 2 (Q2 (run (gc n) n) AJ6 (Q2 (run (gc n) n) Mu (Q2 (run (gc n) n) Mt (fun _ s h=>lpN n Or m0 (Jl 0 (Q2 (run (gc n) n) Vi (Xa Zc.fn Zc.res) (Xa Zc.fn Zc.res)) (Xa Zc.fn Zc.res)) s h) (Jl 0 (Q2 (run (gc n) n) Vi (Xa Zc.fn Zc.res) (Xa Zc.fn Zc.res)) (Xa Zc.fn Zc.res))) (Jl 0 (Q2 (run (gc n) n) Vi (Xa Zc.fn Zc.res) (Xa Zc.fn Zc.res)) (Xa Zc.fn Zc.res))) (Jl 1 (Q2 (run (gc n) n) Mu (Q2 (run (gc n) n) Mt (fun _ s h=>lpN n Or m0 (Jl 0 (Q2 (run (gc n) n) Vi (Xa Zc.fn Zc.res) (Xa Zc.fn Zc.res)) (Xa Zc.fn Zc.res)) s h) (Jl 0 (Q2 (run (gc n) n) Vi (Xa Zc.fn Zc.res) (Xa Zc.fn Zc.res)) (Xa Zc.fn Zc.res))) (Jl 0 (Q2 (run (gc n) n) Vi (Xa Zc.fn Zc.res) (Xa Zc.fn Zc.res)) (Xa Zc.fn Zc.res))) (Jl 0 (Q2 (run (gc n) n) Vi (Xa Zc.fn Zc.res) (Xa Zc.fn Zc.res)) (Xa Zc.fn Zc.res)))) (Jl 1 (Q2 (run (gc n) n) Mu (Q2 (run (gc n) n) Mt (fun _ s h=>lpN n Or m0 (Jl 0 (Q2 (run (gc n) n) Vi (Xa Zc.fn Zc.res) (Xa Zc.fn Zc.res)) (Xa Zc.fn Zc.res)) s h) (Jl 0 (Q2 (run (gc n) n) Vi (Xa Zc.fn Zc.res) (Xa Zc.fn Zc.res)) (Xa Zc.fn Zc.res))) (Jl 0 (Q2 (run (gc n) n) Vi (Xa Zc.fn Zc.res) (Xa Zc.fn Zc.res)) (Xa Zc.fn Zc.res))) (Jl 0 (Q2 (run (gc n) n) Vi (Xa Zc.fn Zc.res) (Xa Zc.fn Zc.res)) (Xa Zc.fn Zc.res))))
    [(0,.dat Zu t0_1 []),(1,.ptr 0 []),(2,.dat .bool t2_1 []),(3,.dat (.int .i64) t3_1 []),(4,.dat (.int .i64) t4_1 []),(5,.dat (.int .i64) t5_1 [])]
    [.box Zu o0_1 []]
def Zc.l2 (n m0 m1:Nat) (t0_2:(den Zu)) (t2_2:Bool) (t3_2:Int) (t4_2:Int) (t5_2:Int) (t6_2:Int) (t7_2:Int) (o0_2:(den Zu)):Option Zc.R :=
  lpN n AJ9 m1 (Jl 4 (Q2 (run (gc n) n) AJ8 (Q2 (run (gc n) n) Mu (Q2 (run (gc n) n) Mt (fun _ s h=>lpN n Or m0 (Jl 0 (Q2 (run (gc n) n) Vi (Xa Zc.fn Zc.res) (Xa Zc.fn Zc.res)) (Xa Zc.fn Zc.res)) s h) (Jl 0 (Q2 (run (gc n) n) Vi (Xa Zc.fn Zc.res) (Xa Zc.fn Zc.res)) (Xa Zc.fn Zc.res))) (Jl 0 (Q2 (run (gc n) n) Vi (Xa Zc.fn Zc.res) (Xa Zc.fn Zc.res)) (Xa Zc.fn Zc.res))) (Jl 1 (Q2 (run (gc n) n) Mu (Q2 (run (gc n) n) Mt (fun _ s h=>lpN n Or m0 (Jl 0 (Q2 (run (gc n) n) Vi (Xa Zc.fn Zc.res) (Xa Zc.fn Zc.res)) (Xa Zc.fn Zc.res)) s h) (Jl 0 (Q2 (run (gc n) n) Vi (Xa Zc.fn Zc.res) (Xa Zc.fn Zc.res)) (Xa Zc.fn Zc.res))) (Jl 0 (Q2 (run (gc n) n) Vi (Xa Zc.fn Zc.res) (Xa Zc.fn Zc.res)) (Xa Zc.fn Zc.res))) (Jl 0 (Q2 (run (gc n) n) Vi (Xa Zc.fn Zc.res) (Xa Zc.fn Zc.res)) (Xa Zc.fn Zc.res)))) (Jl 1 (Q2 (run (gc n) n) Mu (Q2 (run (gc n) n) Mt (fun _ s h=>lpN n Or m0 (Jl 0 (Q2 (run (gc n) n) Vi (Xa Zc.fn Zc.res) (Xa Zc.fn Zc.res)) (Xa Zc.fn Zc.res)) s h) (Jl 0 (Q2 (run (gc n) n) Vi (Xa Zc.fn Zc.res) (Xa Zc.fn Zc.res)) (Xa Zc.fn Zc.res))) (Jl 0 (Q2 (run (gc n) n) Vi (Xa Zc.fn Zc.res) (Xa Zc.fn Zc.res)) (Xa Zc.fn Zc.res))) (Jl 0 (Q2 (run (gc n) n) Vi (Xa Zc.fn Zc.res) (Xa Zc.fn Zc.res)) (Xa Zc.fn Zc.res))))
    [(0,.dat Zu t0_2 []),(1,.ptr 0 []),(2,.dat .bool t2_2 []),(3,.dat (.int .i64) t3_2 []),(4,.dat (.int .i64) t4_2 []),(5,.dat (.int .i64) t5_2 []),(6,.dat (.int .i64) t6_2 []),(7,.dat (.int .i64) t7_2 [])]
    [.box Zu o0_2 []]
def Zc.l3 (n m0:Nat) (t0_3:(den Zu)) (t2_3:Bool) (t3_3:Int) (t4_3:Int) (t8_3:Int) (o0_3:(den Zu)):Option Zc.R :=
  lpN n AKb m0 (Jl 6 (Q2 (run (gc n) n) AKa (Xa Zc.fn Zc.res) (Xa Zc.fn Zc.res)) (Xa Zc.fn Zc.res))
    [(0,.dat Zu t0_3 []),(1,.ptr 0 []),(2,.dat .bool t2_3 []),(3,.dat (.int .i64) t3_3 []),(4,.dat (.int .i64) t4_3 []),(8,.dat (.int .i64) t8_3 [])]
    [.box Zu o0_3 []]
def Zc.l4 (n m0:Nat) (t0_4:(den Zu)) (t2_4:Bool) (t3_4:Int) (t4_4:Int) (t8_4:Int) (t9_4:Int) (o0_4:(den Zu)):Option Zc.R :=
  lpN n AKd m0 (Jl 8 (Q2 (run (gc n) n) AKc (Xa Zc.fn Zc.res) (Xa Zc.fn Zc.res)) (Xa Zc.fn Zc.res))
    [(0,.dat Zu t0_4 []),(1,.ptr 0 []),(2,.dat .bool t2_4 []),(3,.dat (.int .i64) t3_4 []),(4,.dat (.int .i64) t4_4 []),(8,.dat (.int .i64) t8_4 []),(9,.dat (.int .i64) t9_4 [])]
    [.box Zu o0_4 []]
theorem Zc.l0_eq (n m0:Nat) (t0:(den Zu)) (t2:Bool) (t3:Int) (t4:Int) (o0:(den Zu)):Zc.l0 n (m0+1) t0 t2 t3 t4 o0 =
  bif (decide (t4<t3)) then
    Zc.l1 n m0 n t0 t2 t3 t4 0 o0
  else
    Zc.l3 n n t0 t2 t3 t4 0 o0:=by kernel_rfl
theorem Zc.l1_eq (n m0 m1:Nat) (t0_1:(den Zu)) (t2_1:Bool) (t3_1:Int) (t4_1:Int) (t5_1:Int) (o0_1:(den Zu)):Zc.l1 n m0 (m1+1) t0_1 t2_1 t3_1 t4_1 t5_1 o0_1 =
  bif (decide (t5_1<4)) then
    if (0:Int)≤t4_1∧t4_1<(((List.length (o0_1.1:(List (List Int)))):Nat):Int) then
    if (0:Int)≤t5_1∧t5_1<((4:Nat):Int) then
    bif (!(decide ((List.getD (List.getD (o0_1.1:(List (List Int))) (Int.toNat t4_1) (dft (.arr 4 (.int .i64))):(List Int)) (Int.toNat t5_1) (0:Int):Int)=(-1)))) then
      if (0:Int)≤t4_1∧t4_1<(((List.length (o0_1.1:(List (List Int)))):Nat):Int) then
      if (0:Int)≤t5_1∧t5_1<((4:Nat):Int) then
      Option.bind (Z5 n (List.getD (List.getD (o0_1.1:(List (List Int))) (Int.toNat t4_1) (dft (.arr 4 (.int .i64))):(List Int)) (Int.toNat t5_1) (0:Int):Int) t3_1) fun r4 =>
      bif (!(r4.1.1:Bool)) then
        some ((false,()),[])
      else
        Zc.l1 n m0 m1 t0_1 t2_1 t3_1 t4_1 (IntKind.wrap .i64 (t5_1+1)) o0_1
      else none
      else none
    else
      Zc.l1 n m0 m1 t0_1 t2_1 t3_1 t4_1 (IntKind.wrap .i64 (t5_1+1)) o0_1
    else none
    else none
  else
    Zc.l2 n m0 n t0_1 t2_1 t3_1 t4_1 t5_1 0 0 o0_1:=by kernel_rfl
theorem Zc.l2_eq (n m0 m1:Nat) (t0_2:(den Zu)) (t2_2:Bool) (t3_2:Int) (t4_2:Int) (t5_2:Int) (t6_2:Int) (t7_2:Int) (o0_2:(den Zu)):Zc.l2 n m0 (m1+1) t0_2 t2_2 t3_2 t4_2 t5_2 t6_2 t7_2 o0_2 =
  bif (decide (t7_2<((List.length (o0_2.2.2.2.1:(List Int))):Int))) then
    if (0:Int)≤t7_2∧t7_2<(((List.length (o0_2.2.2.2.1:(List Int))):Nat):Int) then
    bif (decide ((List.getD (o0_2.2.2.2.1:(List Int)) (Int.toNat t7_2) (0:Int):Int)=t4_2)) then
      Zc.l2 n m0 m1 t0_2 t2_2 t3_2 t4_2 t5_2 (IntKind.wrap .i64 (t6_2+1)) (IntKind.wrap .i64 (t7_2+1)) o0_2
    else
      Zc.l2 n m0 m1 t0_2 t2_2 t3_2 t4_2 t5_2 t6_2 (IntKind.wrap .i64 (t7_2+1)) o0_2
    else none
  else
    bif (decide ((o0_2.2.2.2.2.2.1:Int)<t6_2)) then
      some ((false,()),[])
    else
      Zc.l0 n m0 t0_2 t2_2 t3_2 (IntKind.wrap .i64 (t4_2+1)) o0_2:=by kernel_rfl
theorem Zc.l3_eq (n m0:Nat) (t0_3:(den Zu)) (t2_3:Bool) (t3_3:Int) (t4_3:Int) (t8_3:Int) (o0_3:(den Zu)):Zc.l3 n (m0+1) t0_3 t2_3 t3_3 t4_3 t8_3 o0_3 =
  bif (decide (t8_3<((List.length (o0_3.2.1:(List Int))):Int))) then
    if (0:Int)≤t8_3∧t8_3<(((List.length (o0_3.2.1:(List Int))):Nat):Int) then
    Option.bind (Z5 n (List.getD (o0_3.2.1:(List Int)) (Int.toNat t8_3) (0:Int):Int) t3_3) fun r5 =>
    bif (!(r5.1.1:Bool)) then
      some ((false,()),[])
    else
      if (0:Int)≤t8_3∧t8_3<(((List.length (o0_3.2.2.1:(List Int))):Nat):Int) then
      Option.bind (Ya n (List.getD (o0_3.2.2.1:(List Int)) (Int.toNat t8_3) (0:Int):Int)) fun r6 =>
      bif (!(r6.1.1:Bool)) then
        some ((false,()),[])
      else
        Zc.l3 n m0 t0_3 t2_3 t3_3 t4_3 (IntKind.wrap .i64 (t8_3+1)) o0_3
      else none
    else none
  else
    Zc.l4 n n t0_3 t2_3 t3_3 t4_3 t8_3 0 o0_3:=by kernel_rfl
theorem Zc.l4_eq (n m0:Nat) (t0_4:(den Zu)) (t2_4:Bool) (t3_4:Int) (t4_4:Int) (t8_4:Int) (t9_4:Int) (o0_4:(den Zu)):Zc.l4 n (m0+1) t0_4 t2_4 t3_4 t4_4 t8_4 t9_4 o0_4 =
  bif (decide (t9_4<((List.length (o0_4.2.2.2.1:(List Int))):Int))) then
    if (0:Int)≤t9_4∧t9_4<(((List.length (o0_4.2.2.2.1:(List Int))):Nat):Int) then
    Option.bind (Z5 n (List.getD (o0_4.2.2.2.1:(List Int)) (Int.toNat t9_4) (0:Int):Int) t3_4) fun r7 =>
    bif (!(r7.1.1:Bool)) then
      some ((false,()),[])
    else
      Zc.l4 n m0 t0_4 t2_4 t3_4 t4_4 t8_4 (IntKind.wrap .i64 (t9_4+1)) o0_4
    else none
  else
    some ((true,()),[]):=by kernel_rfl
theorem Zc.eq (n:Nat) (a0:(den Zu)):Zc (n+1) a0 =
  bif (decide (((List.length (a0.1:(List (List Int)))):Int)<1)) then
    some ((false,()),[])
  else
    bif (decide (8<((List.length (a0.1:(List (List Int)))):Int))) then
      some ((false,()),[])
    else
      bif (decide (((List.length (a0.2.1:(List Int))):Int)<1)) then
        some ((false,()),[])
      else
        bif (decide (6<((List.length (a0.2.1:(List Int))):Int))) then
          some ((false,()),[])
        else
          bif (!(decide (((List.length (a0.2.2.1:(List Int))):Int)=((List.length (a0.2.1:(List Int))):Int)))) then
            some ((false,()),[])
          else
            bif (decide (16<((List.length (a0.2.2.2.1:(List Int))):Int))) then
              some ((false,()),[])
            else
              bif (!(decide (((List.length (a0.2.2.2.2.1:(List Bool))):Int)=((List.length (a0.2.2.2.1:(List Int))):Int)))) then
                some ((false,()),[])
              else
                Option.bind (Z5 n (a0.2.2.2.2.2.1:Int) 65) fun r1 =>
                bif (!(r1.1.1:Bool)) then
                  some ((false,()),[])
                else
                  Option.bind (Z5 n (a0.2.2.2.2.2.2.1:Int) 65) fun r2 =>
                  bif (!(r2.1.1:Bool)) then
                    some ((false,()),[])
                  else
                    Option.bind (Z5 n (a0.2.2.2.2.2.2.2.1:Int) 65) fun r3 =>
                    bif (!(r3.1.1:Bool)) then
                      some ((false,()),[])
                    else
                      Zc.l0 n n a0 false ((List.length (a0.1:(List (List Int)))):Int) 0 a0:=by kernel_rfl
def Zy.res:List Sh:=[.d (.int .i64)]
@[reducible] def Zy.R:Type:=Z8 [.d (.int .i64)]×Zz
def Zy (n:Nat) (a0:(den Za)) (a1:(den Zb)):Option Zy.R:=gc n 39 [.dat Za a0 [],.dat Zb a1 []] [.d (.int .i64)]
def Zy.l0 (n m0:Nat) (t0:(den Za)) (t1:(den Zb)) (t4:Int) (t5:Int) (o0:(den Za)) (o1:(den Zb)):Option Zy.R :=
  lpN n AQz m0 (Jl 0 (Q2 (run (gc n) n) AQy (Xa Zy.fn Zy.res) (Xa Zy.fn Zy.res)) (Xa Zy.fn Zy.res))
    [(0,.dat Za t0 []),(1,.dat Zb t1 []),(2,.ptr 0 []),(3,.ptr 1 []),(4,.dat (.int .i64) t4 []),(5,.dat (.int .i64) t5 [])]
    [.box Za o0 [],.box Zb o1 []]
theorem Zy.l0_eq (n m0:Nat) (t0:(den Za)) (t1:(den Zb)) (t4:Int) (t5:Int) (o0:(den Za)) (o1:(den Zb)):Zy.l0 n (m0+1) t0 t1 t4 t5 o0 o1 =
  bif (decide ((o1.1:Int)=2)) then
    bif (decide (50<(IntKind.wrap .i64 (t5+1)))) then
      some ((99,()),[])
    else
      if (0:Int)≤(o1.2.1:Int)∧(o1.2.1:Int)<(((List.length (o0.2.2.2.1:(List (den Zb)))):Nat):Int) then
      Zy.l0 n m0 t0 t1 t4 (IntKind.wrap .i64 (t5+1)) o0 (List.getD (o0.2.2.2.1:(List (den Zb))) (Int.toNat (o1.2.1:Int)) (dft Zb):(den Zb))
      else none
  else
    some ((t5,()),[]):=by kernel_rfl
theorem Zy.eq (n:Nat) (a0:(den Za)) (a1:(den Zb)):Zy (n+1) a0 a1 =
  Zy.l0 n n a0 a1 0 0 a0 a1:=by kernel_rfl
def Z0.res:List Sh:=[.d (.int .i64)]
@[reducible] def Z0.R:Type:=Z8 [.d (.int .i64)]×Zz
def Z0 (n:Nat) (a0:(den Za)) (a1:(den Zb)):Option Z0.R:=gc n 40 [.dat Za a0 [],.dat Zb a1 []] [.d (.int .i64)]
def Z0.l0 (n m0:Nat) (t0:(den Za)) (t1:(den Zb)) (t4:Int) (t5:Int) (t6:Int) (o0:(den Za)) (o1:(den Zb)):Option Z0.R :=
  lpN n AQ1 m0 (Jl 0 (Q2 (run (gc n) n) AQ0 (Xa Z0.fn Z0.res) (Xa Z0.fn Z0.res)) (Xa Z0.fn Z0.res))
    [(0,.dat Za t0 []),(1,.dat Zb t1 []),(2,.ptr 0 []),(3,.ptr 1 []),(4,.dat (.int .i64) t4 []),(5,.dat (.int .i64) t5 []),(6,.dat (.int .i64) t6 [])]
    [.box Za o0 [],.box Zb o1 []]
theorem Z0.l0_eq (n m0:Nat) (t0:(den Za)) (t1:(den Zb)) (t4:Int) (t5:Int) (t6:Int) (o0:(den Za)) (o1:(den Zb)):Z0.l0 n (m0+1) t0 t1 t4 t5 t6 o0 o1 =
  bif (decide (t6<((List.length (o0.2.2.2.1:(List (den Zb)))):Int))) then
    if (0:Int)≤t6∧t6<(((List.length (o0.2.2.2.1:(List (den Zb)))):Nat):Int) then
    bif (eqT Zb (List.getD (o0.2.2.2.1:(List (den Zb))) (Int.toNat t6) (dft Zb):(den Zb)) o1) then
      Z0.l0 n m0 t0 t1 t4 (IntKind.wrap .i64 (t5+1)) (IntKind.wrap .i64 (t6+1)) o0 o1
    else
      Z0.l0 n m0 t0 t1 t4 t5 (IntKind.wrap .i64 (t6+1)) o0 o1
    else none
  else
    some ((t5,()),[]):=by kernel_rfl
theorem Z0.eq (n:Nat) (a0:(den Za)) (a1:(den Zb)):Z0 (n+1) a0 a1 =
  Z0.l0 n n a0 a1 0 0 0 a0 a1:=by kernel_rfl
@[reducible] def Yb.R:Type:=Z8 [.d (.int .i64)]×Zz
def Yb (n:Nat) (a0:(den Za)) (a1:(den Zb)):Option Yb.R:=gc n 41 [.dat Za a0 [],.dat Zb a1 []] [.d (.int .i64)]
theorem Yb.eq (n:Nat) (a0:(den Za)) (a1:(den Zb)):Yb (n+1) a0 a1 =
  if (0:Int)≤(a1.1:Int)∧(a1.1:Int)<((3:Nat):Int) then
  some (((List.getD ([(a0.1.2.2.2.2.2.1:Int),(a0.1.2.2.2.2.2.2.1:Int),(a0.1.2.2.2.2.2.2.2.1:Int)]:List Int) (Int.toNat (a1.1:Int)) (0:Int):Int),()),[])
  else none:=by kernel_rfl
def Zf.res:List Sh:=[.d .bool]
@[reducible] def Zf.R:Type:=Z8 [.d .bool]×Zz
def Zf (n:Nat) (a0:(den Za)):Option Zf.R:=gc n 14 [.dat Za a0 []] [.d .bool]
def Zf.l0 (n m0:Nat) (t0:(den Za)) (t2:Bool) (t4:Int) (o0:(den Za)) (o1:(den Zu)):Option Zf.R :=
  lpN n AJ1 m0 (Jl 0 (Q2 (run (gc n) n) AQr (Xa Zf.fn Zf.res) (Xa Zf.fn Zf.res)) (Xa Zf.fn Zf.res))
    [(0,.dat Za t0 []),(1,.ptr 0 []),(2,.dat .bool t2 []),(3,.ptr 1 []),(4,.dat (.int .i64) t4 [])]
    [.box Za o0 [],.box Zu o1 []]
def Zf.l1 (n m0:Nat) (t0_1:(den Za)) (t2_1:Bool) (t4_1:Int) (t5_1:Int) (o0_1:(den Za)) (o1_1:(den Zu)):Option Zf.R :=
  lpN n AJ3 m0 (Jl 2 (Q2 (run (gc n) n) AJ2 (Xa Zf.fn Zf.res) (Xa Zf.fn Zf.res)) (Xa Zf.fn Zf.res))
    [(0,.dat Za t0_1 []),(1,.ptr 0 []),(2,.dat .bool t2_1 []),(3,.ptr 1 []),(4,.dat (.int .i64) t4_1 []),(5,.dat (.int .i64) t5_1 [])]
    [.box Za o0_1 [],.box Zu o1_1 []]
def Zf.l2 (n m0:Nat) (t0_2:(den Za)) (t2_2:Bool) (t4_2:Int) (t5_2:Int) (t8_2:Int) (o0_2:(den Za)) (o1_2:(den Zu)):Option Zf.R :=
  lpN n AJ5 m0 (Jl 4 (Q2 (run (gc n) n) AJ4 (Xa Zf.fn Zf.res) (Xa Zf.fn Zf.res)) (Xa Zf.fn Zf.res))
    [(0,.dat Za t0_2 []),(1,.ptr 0 []),(2,.dat .bool t2_2 []),(3,.ptr 1 []),(4,.dat (.int .i64) t4_2 []),(5,.dat (.int .i64) t5_2 []),(8,.dat (.int .i64) t8_2 [])]
    [.box Za o0_2 [],.box Zu o1_2 []]
theorem Zf.l0_eq (n m0:Nat) (t0:(den Za)) (t2:Bool) (t4:Int) (o0:(den Za)) (o1:(den Zu)):Zf.l0 n (m0+1) t0 t2 t4 o0 o1 =
  bif (decide (t4<((List.length (o0.2.1:(List Int))):Int))) then
    if (0:Int)≤t4∧t4<(((List.length (o0.2.1:(List Int))):Nat):Int) then
    Option.bind (Z5 n (List.getD (o0.2.1:(List Int)) (Int.toNat t4) (0:Int):Int) ((List.length (o1.1:(List (List Int)))):Int)) fun r2 =>
    bif (!(r2.1.1:Bool)) then
      some ((false,()),[])
    else
      if (0:Int)≤t4∧t4<(((List.length (o0.2.2.1:(List Int))):Nat):Int) then
      Option.bind (Ya n (List.getD (o0.2.2.1:(List Int)) (Int.toNat t4) (0:Int):Int)) fun r3 =>
      bif (!(r3.1.1:Bool)) then
        some ((false,()),[])
      else
        Zf.l0 n m0 t0 t2 (IntKind.wrap .i64 (t4+1)) o0 o1
      else none
    else none
  else
    Zf.l1 n n t0 t2 t4 0 o0 o1:=by kernel_rfl
theorem Zf.l1_eq (n m0:Nat) (t0_1:(den Za)) (t2_1:Bool) (t4_1:Int) (t5_1:Int) (o0_1:(den Za)) (o1_1:(den Zu)):Zf.l1 n (m0+1) t0_1 t2_1 t4_1 t5_1 o0_1 o1_1 =
  bif (decide (t5_1<((List.length (o0_1.2.2.2.1:(List (den Zb)))):Int))) then
    if (0:Int)≤t5_1∧t5_1<(((List.length (o0_1.2.2.2.1:(List (den Zb)))):Nat):Int) then
    bif (decide (((List.getD (o0_1.2.2.2.1:(List (den Zb))) (Int.toNat t5_1) (dft Zb):(den Zb)).1:Int)=0)) then
      Option.bind (Z5 n ((List.getD (o0_1.2.2.2.1:(List (den Zb))) (Int.toNat t5_1) (dft Zb):(den Zb)).2.1:Int) ((List.length (o1_1.1:(List (List Int)))):Int)) fun r4 =>
      bif (r4.1.1:Bool) then
        Zf.l1 n m0 t0_1 t2_1 t4_1 (IntKind.wrap .i64 (t5_1+1)) o0_1 o1_1
      else
        bif (decide (((List.getD (o0_1.2.2.2.1:(List (den Zb))) (Int.toNat t5_1) (dft Zb):(den Zb)).1:Int)=1)) then
          Option.bind (Z5 n ((List.getD (o0_1.2.2.2.1:(List (den Zb))) (Int.toNat t5_1) (dft Zb):(den Zb)).2.1:Int) ((List.length (o1_1.2.1:(List Int))):Int)) fun r5 =>
          bif (r5.1.1:Bool) then
            Zf.l1 n m0 t0_1 t2_1 t4_1 (IntKind.wrap .i64 (t5_1+1)) o0_1 o1_1
          else
            bif (decide (((List.getD (o0_1.2.2.2.1:(List (den Zb))) (Int.toNat t5_1) (dft Zb):(den Zb)).1:Int)=2)) then
              Option.bind (Z5 n ((List.getD (o0_1.2.2.2.1:(List (den Zb))) (Int.toNat t5_1) (dft Zb):(den Zb)).2.1:Int) ((List.length (o1_1.2.2.2.1:(List Int))):Int)) fun r6 =>
              bif (r6.1.1:Bool) then
                if (0:Int)≤((List.getD (o0_1.2.2.2.1:(List (den Zb))) (Int.toNat t5_1) (dft Zb):(den Zb)).2.1:Int)∧((List.getD (o0_1.2.2.2.1:(List (den Zb))) (Int.toNat t5_1) (dft Zb):(den Zb)).2.1:Int)<(((List.length (o1_1.2.2.2.2.1:(List Bool))):Nat):Int) then
                bif (!(List.getD (o1_1.2.2.2.2.1:(List Bool)) (Int.toNat ((List.getD (o0_1.2.2.2.1:(List (den Zb))) (Int.toNat t5_1) (dft Zb):(den Zb)).2.1:Int)) false:Bool)) then
                  some ((false,()),[])
                else
                  Zf.l1 n m0 t0_1 t2_1 t4_1 (IntKind.wrap .i64 (t5_1+1)) o0_1 o1_1
                else none
              else
                some ((false,()),[])
            else
              some ((false,()),[])
        else
          bif (decide (((List.getD (o0_1.2.2.2.1:(List (den Zb))) (Int.toNat t5_1) (dft Zb):(den Zb)).1:Int)=2)) then
            Option.bind (Z5 n ((List.getD (o0_1.2.2.2.1:(List (den Zb))) (Int.toNat t5_1) (dft Zb):(den Zb)).2.1:Int) ((List.length (o1_1.2.2.2.1:(List Int))):Int)) fun r7 =>
            bif (r7.1.1:Bool) then
              if (0:Int)≤((List.getD (o0_1.2.2.2.1:(List (den Zb))) (Int.toNat t5_1) (dft Zb):(den Zb)).2.1:Int)∧((List.getD (o0_1.2.2.2.1:(List (den Zb))) (Int.toNat t5_1) (dft Zb):(den Zb)).2.1:Int)<(((List.length (o1_1.2.2.2.2.1:(List Bool))):Nat):Int) then
              bif (!(List.getD (o1_1.2.2.2.2.1:(List Bool)) (Int.toNat ((List.getD (o0_1.2.2.2.1:(List (den Zb))) (Int.toNat t5_1) (dft Zb):(den Zb)).2.1:Int)) false:Bool)) then
                some ((false,()),[])
              else
                Zf.l1 n m0 t0_1 t2_1 t4_1 (IntKind.wrap .i64 (t5_1+1)) o0_1 o1_1
              else none
            else
              some ((false,()),[])
          else
            some ((false,()),[])
    else
      bif (decide (((List.getD (o0_1.2.2.2.1:(List (den Zb))) (Int.toNat t5_1) (dft Zb):(den Zb)).1:Int)=1)) then
        Option.bind (Z5 n ((List.getD (o0_1.2.2.2.1:(List (den Zb))) (Int.toNat t5_1) (dft Zb):(den Zb)).2.1:Int) ((List.length (o1_1.2.1:(List Int))):Int)) fun r8 =>
        bif (r8.1.1:Bool) then
          Zf.l1 n m0 t0_1 t2_1 t4_1 (IntKind.wrap .i64 (t5_1+1)) o0_1 o1_1
        else
          bif (decide (((List.getD (o0_1.2.2.2.1:(List (den Zb))) (Int.toNat t5_1) (dft Zb):(den Zb)).1:Int)=2)) then
            Option.bind (Z5 n ((List.getD (o0_1.2.2.2.1:(List (den Zb))) (Int.toNat t5_1) (dft Zb):(den Zb)).2.1:Int) ((List.length (o1_1.2.2.2.1:(List Int))):Int)) fun r9 =>
            bif (r9.1.1:Bool) then
              if (0:Int)≤((List.getD (o0_1.2.2.2.1:(List (den Zb))) (Int.toNat t5_1) (dft Zb):(den Zb)).2.1:Int)∧((List.getD (o0_1.2.2.2.1:(List (den Zb))) (Int.toNat t5_1) (dft Zb):(den Zb)).2.1:Int)<(((List.length (o1_1.2.2.2.2.1:(List Bool))):Nat):Int) then
              bif (!(List.getD (o1_1.2.2.2.2.1:(List Bool)) (Int.toNat ((List.getD (o0_1.2.2.2.1:(List (den Zb))) (Int.toNat t5_1) (dft Zb):(den Zb)).2.1:Int)) false:Bool)) then
                some ((false,()),[])
              else
                Zf.l1 n m0 t0_1 t2_1 t4_1 (IntKind.wrap .i64 (t5_1+1)) o0_1 o1_1
              else none
            else
              some ((false,()),[])
          else
            some ((false,()),[])
      else
        bif (decide (((List.getD (o0_1.2.2.2.1:(List (den Zb))) (Int.toNat t5_1) (dft Zb):(den Zb)).1:Int)=2)) then
          Option.bind (Z5 n ((List.getD (o0_1.2.2.2.1:(List (den Zb))) (Int.toNat t5_1) (dft Zb):(den Zb)).2.1:Int) ((List.length (o1_1.2.2.2.1:(List Int))):Int)) fun r10 =>
          bif (r10.1.1:Bool) then
            if (0:Int)≤((List.getD (o0_1.2.2.2.1:(List (den Zb))) (Int.toNat t5_1) (dft Zb):(den Zb)).2.1:Int)∧((List.getD (o0_1.2.2.2.1:(List (den Zb))) (Int.toNat t5_1) (dft Zb):(den Zb)).2.1:Int)<(((List.length (o1_1.2.2.2.2.1:(List Bool))):Nat):Int) then
            bif (!(List.getD (o1_1.2.2.2.2.1:(List Bool)) (Int.toNat ((List.getD (o0_1.2.2.2.1:(List (den Zb))) (Int.toNat t5_1) (dft Zb):(den Zb)).2.1:Int)) false:Bool)) then
              some ((false,()),[])
            else
              Zf.l1 n m0 t0_1 t2_1 t4_1 (IntKind.wrap .i64 (t5_1+1)) o0_1 o1_1
            else none
          else
            some ((false,()),[])
        else
          some ((false,()),[])
    else none
  else
    Zf.l2 n n t0_1 t2_1 t4_1 t5_1 0 o0_1 o1_1:=by kernel_rfl
theorem Zf.l2_eq (n m0:Nat) (t0_2:(den Za)) (t2_2:Bool) (t4_2:Int) (t5_2:Int) (t8_2:Int) (o0_2:(den Za)) (o1_2:(den Zu)):Zf.l2 n (m0+1) t0_2 t2_2 t4_2 t5_2 t8_2 o0_2 o1_2 =
  bif (decide (t8_2<((List.length (o0_2.2.2.2.1:(List (den Zb)))):Int))) then
    if (0:Int)≤t8_2∧t8_2<(((List.length (o0_2.2.2.2.1:(List (den Zb)))):Nat):Int) then
    Option.bind (Zy n o0_2 (List.getD (o0_2.2.2.2.1:(List (den Zb))) (Int.toNat t8_2) (dft Zb):(den Zb))) fun r11 =>
    bif (decide (4<(r11.1.1:Int))) then
      some ((false,()),[])
    else
      if (0:Int)≤t8_2∧t8_2<(((List.length (o0_2.2.2.2.1:(List (den Zb)))):Nat):Int) then
      Option.bind (Z0 n o0_2 (List.getD (o0_2.2.2.2.1:(List (den Zb))) (Int.toNat t8_2) (dft Zb):(den Zb))) fun r12 =>
      if (0:Int)≤t8_2∧t8_2<(((List.length (o0_2.2.2.2.1:(List (den Zb)))):Nat):Int) then
      Option.bind (Yb n o0_2 (List.getD (o0_2.2.2.2.1:(List (den Zb))) (Int.toNat t8_2) (dft Zb):(den Zb))) fun r13 =>
      bif (decide ((r13.1.1:Int)<(r12.1.1:Int))) then
        some ((false,()),[])
      else
        Zf.l2 n m0 t0_2 t2_2 t4_2 t5_2 (IntKind.wrap .i64 (t8_2+1)) o0_2 o1_2
      else none
      else none
    else none
  else
    some ((true,()),[]):=by kernel_rfl
theorem Zf.eq (n:Nat) (a0:(den Za)):Zf (n+1) a0 =
  Option.bind (Zc n a0.1) fun r1 =>
  bif (!(r1.1.1:Bool)) then
    some ((false,()),[])
  else
    bif (!(decide (((List.length (a0.2.1:(List Int))):Int)=((List.length (a0.1.2.1:(List Int))):Int)))) then
      some ((false,()),[])
    else
      bif (!(decide (((List.length (a0.2.2.1:(List Int))):Int)=((List.length (a0.1.2.1:(List Int))):Int)))) then
        some ((false,()),[])
      else
        bif (!(decide (((List.length (a0.2.2.2.1:(List (den Zb)))):Int)=((List.length (a0.1.2.2.2.1:(List Int))):Int)))) then
          some ((false,()),[])
        else
          Zf.l0 n n a0 false 0 a0 a0.1:=by kernel_rfl
@[reducible] def X6.R:Type:=Z8 [.d .bool]×Zz
def X6 (n:Nat) (a0:(den Za)):Option X6.R:=gc n 8 [.dat Za a0 []] [.d .bool]
theorem X6.eq (n:Nat) (a0:(den Za)):X6 (n+1) a0 =
  Option.bind (X5 n a0) fun r1 =>
  bif (r1.1.1:Bool) then
    Option.bind (Zf n a0) fun r2 =>
    some (((r2.1.1:Bool),()),[])
  else
    some ((false,()),[]):=by kernel_rfl
@[reducible] def X4.R:Type:=Z8 [.d .bool]×Zz
def X4 (n:Nat) (a0:(den Z1)):Option X4.R:=gc n 9 [.dat Z1 a0 []] [.d .bool]
theorem X4.eq (n:Nat) (a0:(den Z1)):X4 (n+1) a0 =
  bif (decide (((List.length (a0.2.2.2.2.2.1:(List Int))):Int)≤40)) then
    some (((decide (((List.length (a0.2.2.2.2.2.2.2.1:(List Int))):Int)≤40)),()),[])
  else
    some ((false,()),[]):=by kernel_rfl
def Zs.res:List Sh:=[.d .bool]
@[reducible] def Zs.R:Type:=Z8 [.d .bool]×Zz
def Zs (n:Nat) (a0:(List (den Zb))) (a1:(List (den Zb))):Option Zs.R:=gc n 34 [.dat (.sl Zb) a0 [],.dat (.sl Zb) a1 []] [.d .bool]
def Zs.l0 (n m0:Nat) (t0:(List (den Zb))) (t1:(List (den Zb))) (t4:Bool) (t5:Int):Option Zs.R :=
  lpN n AQv m0 (Jl 0 (Q2 (run (gc n) n) AQu (Xa Zs.fn Zs.res) (Xa Zs.fn Zs.res)) (Xa Zs.fn Zs.res))
    [(0,.dat (.sl Zb) t0 []),(1,.dat (.sl Zb) t1 []),(4,.dat .bool t4 []),(5,.dat (.int .i64) t5 [])]
    []
theorem Zs.l0_eq (n m0:Nat) (t0:(List (den Zb))) (t1:(List (den Zb))) (t4:Bool) (t5:Int):Zs.l0 n (m0+1) t0 t1 t4 t5 =
  bif (decide (t5<((List.length t0):Int))) then
    if (0:Int)≤t5∧t5<(((List.length t0):Nat):Int) then
    if (0:Int)≤t5∧t5<(((List.length t1):Nat):Int) then
    bif (!(eqT Zb (List.getD t0 (Int.toNat t5) (dft Zb):(den Zb)) (List.getD t1 (Int.toNat t5) (dft Zb):(den Zb)))) then
      some ((false,()),[])
    else
      Zs.l0 n m0 t0 t1 t4 (IntKind.wrap .i64 (t5+1))
    else none
    else none
  else
    some ((true,()),[]):=by kernel_rfl
theorem Zs.eq (n:Nat) (a0:(List (den Zb))) (a1:(List (den Zb))):Zs (n+1) a0 a1 =
  bif (!(decide (((List.length a0):Int)=((List.length a1):Int)))) then
    some ((false,()),[])
  else
    Zs.l0 n n a0 a1 false 0:=by kernel_rfl
def Zk.res:List Sh:=[.d .bool]
@[reducible] def Zk.R:Type:=Z8 [.d .bool]×Zz
def Zk (n:Nat) (a0:(den Za)) (a1:(den Za)):Option Zk.R:=gc n 12 [.dat Za a0 [],.dat Za a1 []] [.d .bool]
def Zk.l0 (n m0:Nat) (t0:(den Za)) (t1:(den Za)) (t4:Bool) (t7:Int) (o0:(den Za)) (o1:(den Za)) (o2:(den Zu)) (o3:(den Zu)):Option Zk.R :=
  lpN n AJw m0 (Jl 0 (Q2 (run (gc n) n) AJv (Xa Zk.fn Zk.res) (Xa Zk.fn Zk.res)) (Xa Zk.fn Zk.res))
    [(0,.dat Za t0 []),(1,.dat Za t1 []),(2,.ptr 0 []),(3,.ptr 1 []),(4,.dat .bool t4 []),(5,.ptr 2 []),(6,.ptr 3 []),(7,.dat (.int .i64) t7 [])]
    [.box Za o0 [],.box Za o1 [],.box Zu o2 [],.box Zu o3 []]
def Zk.l1 (n m0:Nat) (t0_1:(den Za)) (t1_1:(den Za)) (t4_1:Bool) (t7_1:Int) (t8_1:Int) (o0_1:(den Za)) (o1_1:(den Za)) (o2_1:(den Zu)) (o3_1:(den Zu)):Option Zk.R :=
  lpN n AJy m0 (Jl 2 (Q2 (run (gc n) n) AJx (Xa Zk.fn Zk.res) (Xa Zk.fn Zk.res)) (Xa Zk.fn Zk.res))
    [(0,.dat Za t0_1 []),(1,.dat Za t1_1 []),(2,.ptr 0 []),(3,.ptr 1 []),(4,.dat .bool t4_1 []),(5,.ptr 2 []),(6,.ptr 3 []),(7,.dat (.int .i64) t7_1 []),(8,.dat (.int .i64) t8_1 [])]
    [.box Za o0_1 [],.box Za o1_1 [],.box Zu o2_1 [],.box Zu o3_1 []]
theorem Zk.l0_eq (n m0:Nat) (t0:(den Za)) (t1:(den Za)) (t4:Bool) (t7:Int) (o0:(den Za)) (o1:(den Za)) (o2:(den Zu)) (o3:(den Zu)):Zk.l0 n (m0+1) t0 t1 t4 t7 o0 o1 o2 o3 =
  bif (decide (t7<((List.length (o2.1:(List (List Int)))):Int))) then
    if (0:Int)≤t7∧t7<(((List.length (o2.1:(List (List Int)))):Nat):Int) then
    if (0:Int)≤t7∧t7<(((List.length (o3.1:(List (List Int)))):Nat):Int) then
    bif (!(eqT (.arr 4 (.int .i64)) (List.getD (o2.1:(List (List Int))) (Int.toNat t7) (dft (.arr 4 (.int .i64))):(List Int)) (List.getD (o3.1:(List (List Int))) (Int.toNat t7) (dft (.arr 4 (.int .i64))):(List Int)))) then
      some ((false,()),[])
    else
      Zk.l0 n m0 t0 t1 t4 (IntKind.wrap .i64 (t7+1)) o0 o1 o2 o3
    else none
    else none
  else
    Zk.l1 n n t0 t1 t4 t7 0 o0 o1 o2 o3:=by kernel_rfl
theorem Zk.l1_eq (n m0:Nat) (t0_1:(den Za)) (t1_1:(den Za)) (t4_1:Bool) (t7_1:Int) (t8_1:Int) (o0_1:(den Za)) (o1_1:(den Za)) (o2_1:(den Zu)) (o3_1:(den Zu)):Zk.l1 n (m0+1) t0_1 t1_1 t4_1 t7_1 t8_1 o0_1 o1_1 o2_1 o3_1 =
  bif (decide (t8_1<((List.length (o2_1.2.2.2.2.1:(List Bool))):Int))) then
    if (0:Int)≤t8_1∧t8_1<(((List.length (o2_1.2.2.2.2.1:(List Bool))):Nat):Int) then
    if (0:Int)≤t8_1∧t8_1<(((List.length (o3_1.2.2.2.2.1:(List Bool))):Nat):Int) then
    bif (!(eqT .bool (List.getD (o2_1.2.2.2.2.1:(List Bool)) (Int.toNat t8_1) false:Bool) (List.getD (o3_1.2.2.2.2.1:(List Bool)) (Int.toNat t8_1) false:Bool))) then
      some ((false,()),[])
    else
      Zk.l1 n m0 t0_1 t1_1 t4_1 t7_1 (IntKind.wrap .i64 (t8_1+1)) o0_1 o1_1 o2_1 o3_1
    else none
    else none
  else
    Option.bind (Zq n (o2_1.2.1:(List Int)) (o3_1.2.1:(List Int))) fun r1 =>
    bif (r1.1.1:Bool) then
      Option.bind (Zq n (o2_1.2.2.1:(List Int)) (o3_1.2.2.1:(List Int))) fun r2 =>
      bif (r2.1.1:Bool) then
        Option.bind (Zq n (o2_1.2.2.2.1:(List Int)) (o3_1.2.2.2.1:(List Int))) fun r3 =>
        bif (r3.1.1:Bool) then
          Option.bind (Zq n (o0_1.2.1:(List Int)) (o1_1.2.1:(List Int))) fun r4 =>
          bif (r4.1.1:Bool) then
            Option.bind (Zq n (o0_1.2.2.1:(List Int)) (o1_1.2.2.1:(List Int))) fun r5 =>
            bif (r5.1.1:Bool) then
              Option.bind (Zs n (o0_1.2.2.2.1:(List (den Zb))) (o1_1.2.2.2.1:(List (den Zb)))) fun r6 =>
              some (((r6.1.1:Bool),()),[])
            else
              some ((false,()),[])
          else
            some ((false,()),[])
        else
          some ((false,()),[])
      else
        some ((false,()),[])
    else
      some ((false,()),[]):=by kernel_rfl
theorem Zk.eq (n:Nat) (a0:(den Za)) (a1:(den Za)):Zk (n+1) a0 a1 =
  bif (!(decide ((a0.1.2.2.2.2.2.1:Int)=(a1.1.2.2.2.2.2.1:Int)))) then
    some ((false,()),[])
  else
    bif (!(decide ((a0.1.2.2.2.2.2.2.1:Int)=(a1.1.2.2.2.2.2.2.1:Int)))) then
      some ((false,()),[])
    else
      bif (!(decide ((a0.1.2.2.2.2.2.2.2.1:Int)=(a1.1.2.2.2.2.2.2.2.1:Int)))) then
        some ((false,()),[])
      else
        bif (!(decide (((List.length (a0.1.1:(List (List Int)))):Int)=((List.length (a1.1.1:(List (List Int)))):Int)))) then
          some ((false,()),[])
        else
          bif (!(decide (((List.length (a0.1.2.2.2.2.1:(List Bool))):Int)=((List.length (a1.1.2.2.2.2.1:(List Bool))):Int)))) then
            some ((false,()),[])
          else
            Zk.l0 n n a0 a1 false 0 a0 a1 a0.1 a1.1:=by kernel_rfl
@[reducible] def Xq.R:Type:=Z8 [.d .bool]×Zz
def Xq (n:Nat) (a0:(den Za)) (a1:Int) (a2:(den Z1)) (a3:Int) (a4:(den Z1)):Option Xq.R:=gc n 5 [.dat Za a0 [],.dat (.int .u8) a1 [],.dat Z1 a2 [],.dat (.int .u8) a3 [],.dat Z1 a4 []] [.d .bool]
theorem Xq.eq (n:Nat) (a0:(den Za)) (a1:Int) (a2:(den Z1)) (a3:Int) (a4:(den Z1)):Xq (n+1) a0 a1 a2 a3 a4 =
  Option.bind (Xd n) fun r1 =>
  bif (!(r1.1.1:Bool)) then
    Option.bind (Xd n) fun r2 =>
    some (((r2.1.1:Bool),()),[])
  else
    Option.bind (X6 n a0) fun r3 =>
    bif (!(r3.1.1:Bool)) then
      Option.bind (Xd n) fun r4 =>
      some (((r4.1.1:Bool),()),[])
    else
      Option.bind (X4 n a2) fun r5 =>
      bif (!(r5.1.1:Bool)) then
        Option.bind (Xd n) fun r6 =>
        some (((r6.1.1:Bool),()),[])
      else
        Option.bind (X4 n a4) fun r7 =>
        bif (!(r7.1.1:Bool)) then
          Option.bind (Xd n) fun r8 =>
          some (((r8.1.1:Bool),()),[])
        else
          bif (decide ((a2.1:Int)<3)) then
            Option.bind (Xd n) fun r9 =>
            some (((r9.1.1:Bool),()),[])
          else
            bif (decide (6<(a2.1:Int))) then
              Option.bind (Xd n) fun r10 =>
              some (((r10.1.1:Bool),()),[])
            else
              bif (decide ((a4.1:Int)<3)) then
                Option.bind (Xd n) fun r11 =>
                some (((r11.1.1:Bool),()),[])
              else
                bif (decide (6<(a4.1:Int))) then
                  Option.bind (Xd n) fun r12 =>
                  some (((r12.1.1:Bool),()),[])
                else
                  if ((List.length (a0.2.1:(List Int))):Int)=0 then none else
                  if ((List.length (a0.2.1:(List Int))):Int)=0 then none else
                  if (0:Int)≤(Int.tmod (IntKind.wrap .i64 (a1)) ((List.length (a0.2.1:(List Int))):Int))∧(Int.tmod (IntKind.wrap .i64 (a1)) ((List.length (a0.2.1:(List Int))):Int))<(((List.length (a0.2.1:(List Int))):Nat):Int) then
                  if (0:Int)≤(Int.tmod (IntKind.wrap .i64 (a3)) ((List.length (a0.2.1:(List Int))):Int))∧(Int.tmod (IntKind.wrap .i64 (a3)) ((List.length (a0.2.1:(List Int))):Int))<(((List.length (a0.2.1:(List Int))):Nat):Int) then
                  bif (decide ((List.getD (a0.2.1:(List Int)) (Int.toNat (Int.tmod (IntKind.wrap .i64 (a1)) ((List.length (a0.2.1:(List Int))):Int))) (0:Int):Int)=(List.getD (a0.2.1:(List Int)) (Int.toNat (Int.tmod (IntKind.wrap .i64 (a3)) ((List.length (a0.2.1:(List Int))):Int))) (0:Int):Int))) then
                    some ((true,()),[])
                  else
                    Option.bind (Qe n a0 (Int.tmod (IntKind.wrap .i64 (a1)) ((List.length (a0.2.1:(List Int))):Int)) a2) fun r13 =>
                    Option.bind (Qe n r13.1.1 (Int.tmod (IntKind.wrap .i64 (a3)) ((List.length (a0.2.1:(List Int))):Int)) a4) fun r14 =>
                    Option.bind (Qe n a0 (Int.tmod (IntKind.wrap .i64 (a3)) ((List.length (a0.2.1:(List Int))):Int)) a4) fun r15 =>
                    Option.bind (Qe n r15.1.1 (Int.tmod (IntKind.wrap .i64 (a1)) ((List.length (a0.2.1:(List Int))):Int)) a2) fun r16 =>
                    Option.bind (Xy n r13.1.2.1 r16.1.2.1) fun r17 =>
                    bif (r17.1.1:Bool) then
                      Option.bind (Xy n r14.1.2.1 r15.1.2.1) fun r18 =>
                      bif (r18.1.1:Bool) then
                        Option.bind (Zk n r14.1.1 r16.1.1) fun r19 =>
                        some (((r19.1.1:Bool),()),[])
                      else
                        some ((false,()),[])
                    else
                      some ((false,()),[])
                  else none
                  else none:=by kernel_rfl
end Go.Proofs.YtpemapoblhleoaaGreatDoor.Ghost
