/- What each function and each loop comes to, one step. Conditions: none. -/
import Derived.Test.YtmemggdjnfccfaaGreatDoorGSp
import Derived.KernelRfl
set_option linter.unusedVariables false
set_option linter.unusedSimpArgs false
set_option linter.unusedSectionVars false
set_option linter.unnecessarySimpa false
namespace Go.Proofs.YtmemggdjnfccfaaGreatDoor.Ghost
open Go
abbrev gc (n:Nat):Calls:=He prog sp n
abbrev lpN {R:Type} (n:Nat) (c:Cd) (m:Nat) (K:Kt R) (s:Xp) (h:Qa):Option R:=Pa (fun Kn K s h=>run (gc n) n c Kn K s h) m K s h
@[reducible] def Vg.R:Type:=Xf [.d Zb]×Z0
def Vg (n:Nat) (a0:(den Z3)):Option Vg.R:=gc n 19 [.dat Z3 a0 []] [.d Zb]
@[reducible] def Qr.R:Type:=Xf [.d Zb]×Z0
def Qr (n:Nat) (a0:(den Zb)):Option Qr.R:=gc n 20 [.dat Zb a0 []] [.d Zb]
@[reducible] def J0.R:Type:=Xf [.d (.int .i64),.d .bool]×Z0
def J0 (n:Nat) (a0:(den Zb)) (a1:Int) (a2:Int):Option J0.R:=gc n 25 [.dat Zb a0 [],.dat (.int .i64) a1 [],.dat (.int .i64) a2 []] [.d (.int .i64),.d .bool]
theorem J0.eq (n:Nat) (a0:(den Zb)) (a1:Int) (a2:Int):J0 (n+1) a0 a1 a2 =
  if (0:Int)≤a1∧a1<(((List.length (a0.1.1:(List (List Int)))):Nat):Int) then
  if (0:Int)≤a2∧a2<((4:Nat):Int) then
  some (((if (List.getD (List.getD (a0.1.1:(List (List Int))) (Int.toNat a1) (dft (.arr 4 (.int .i64))):(List Int)) (Int.toNat a2) (0:Int):Int)<0 then 0 else (List.getD (List.getD (a0.1.1:(List (List Int))) (Int.toNat a1) (dft (.arr 4 (.int .i64))):(List Int)) (Int.toNat a2) (0:Int):Int)),(decide (0≤(List.getD (List.getD (a0.1.1:(List (List Int))) (Int.toNat a1) (dft (.arr 4 (.int .i64))):(List Int)) (Int.toNat a2) (0:Int):Int))),()),[])
  else none
  else none:=by kernel_rfl
@[reducible] def Zv.R:Type:=Xf [.d (.sl Za)]×Z0
def Zv (n:Nat) (a0:(List (den Za))):Option Zv.R:=gc n 26 [.dat (.sl Za) a0 []] [.d (.sl Za)]
@[reducible] def Hp.R:Type:=Xf [.d (.sl Za)]×Z0
def Hp (n:Nat) (a0:(den Zb)) (a1:Int) (a2:(den Zz)):Option Hp.R:=gc n 9 [.dat Zb a0 [],.dat (.int .i64) a1 [],.dat Zz a2 []] [.d (.sl Za)]
theorem Hp.eq (n:Nat) (a0:(den Zb)) (a1:Int) (a2:(den Zz)):Hp (n+1) a0 a1 a2 =
  if (0:Int)≤a1∧a1<(((List.length (a0.2.1:(List Int))):Nat):Int) then
  bif (decide ((a2.1:Int)=1)) then
    bif (decide ((a2.1:Int)=1)) then
      Option.bind (J0 n a0 (List.getD (a0.2.1:(List Int)) (Int.toNat a1) (0:Int):Int) (a2.2.1:Int)) fun r1 =>
      bif (r1.1.2.1:Bool) then
        bif (decide ((a2.1:Int)=2)) then
          bif (decide ((a2.1:Int)=2)) then
            bif (decide (0≤(a2.2.2.2.2.1:Int))) then
              bif (decide ((a2.2.2.2.2.1:Int)<((List.length (a0.2.1:(List Int))):Int))) then
                Option.bind (Zv n ([(0,(List.getD (a0.2.1:(List Int)) (Int.toNat a1) (0:Int):Int),()),(1,a1,()),(0,(r1.1.1:Int),()),(1,(a2.2.2.2.2.1:Int),())]:List (den Za))) fun r2 =>
                some (((r2.1.1:(List (den Za))),()),[])
              else
                Option.bind (Zv n ([(0,(List.getD (a0.2.1:(List Int)) (Int.toNat a1) (0:Int):Int),()),(1,a1,()),(0,(r1.1.1:Int),())]:List (den Za))) fun r3 =>
                some (((r3.1.1:(List (den Za))),()),[])
            else
              Option.bind (Zv n ([(0,(List.getD (a0.2.1:(List Int)) (Int.toNat a1) (0:Int):Int),()),(1,a1,()),(0,(r1.1.1:Int),())]:List (den Za))) fun r4 =>
              some (((r4.1.1:(List (den Za))),()),[])
          else
            Option.bind (Zv n ([(0,(List.getD (a0.2.1:(List Int)) (Int.toNat a1) (0:Int):Int),()),(1,a1,()),(0,(r1.1.1:Int),())]:List (den Za))) fun r5 =>
            some (((r5.1.1:(List (den Za))),()),[])
        else
          bif (decide ((a2.1:Int)=7)) then
            bif (decide ((a2.1:Int)=7)) then
              bif (decide (0≤(a2.2.2.2.2.1:Int))) then
                bif (decide ((a2.2.2.2.2.1:Int)<((List.length (a0.2.1:(List Int))):Int))) then
                  Option.bind (Zv n ([(0,(List.getD (a0.2.1:(List Int)) (Int.toNat a1) (0:Int):Int),()),(1,a1,()),(0,(r1.1.1:Int),()),(1,(a2.2.2.2.2.1:Int),())]:List (den Za))) fun r6 =>
                  some (((r6.1.1:(List (den Za))),()),[])
                else
                  Option.bind (Zv n ([(0,(List.getD (a0.2.1:(List Int)) (Int.toNat a1) (0:Int):Int),()),(1,a1,()),(0,(r1.1.1:Int),())]:List (den Za))) fun r7 =>
                  some (((r7.1.1:(List (den Za))),()),[])
              else
                Option.bind (Zv n ([(0,(List.getD (a0.2.1:(List Int)) (Int.toNat a1) (0:Int):Int),()),(1,a1,()),(0,(r1.1.1:Int),())]:List (den Za))) fun r8 =>
                some (((r8.1.1:(List (den Za))),()),[])
            else
              Option.bind (Zv n ([(0,(List.getD (a0.2.1:(List Int)) (Int.toNat a1) (0:Int):Int),()),(1,a1,()),(0,(r1.1.1:Int),())]:List (den Za))) fun r9 =>
              some (((r9.1.1:(List (den Za))),()),[])
          else
            bif (decide ((a2.1:Int)=8)) then
              bif (decide (0≤(a2.2.2.2.2.1:Int))) then
                bif (decide ((a2.2.2.2.2.1:Int)<((List.length (a0.2.1:(List Int))):Int))) then
                  Option.bind (Zv n ([(0,(List.getD (a0.2.1:(List Int)) (Int.toNat a1) (0:Int):Int),()),(1,a1,()),(0,(r1.1.1:Int),()),(1,(a2.2.2.2.2.1:Int),())]:List (den Za))) fun r10 =>
                  some (((r10.1.1:(List (den Za))),()),[])
                else
                  Option.bind (Zv n ([(0,(List.getD (a0.2.1:(List Int)) (Int.toNat a1) (0:Int):Int),()),(1,a1,()),(0,(r1.1.1:Int),())]:List (den Za))) fun r11 =>
                  some (((r11.1.1:(List (den Za))),()),[])
              else
                Option.bind (Zv n ([(0,(List.getD (a0.2.1:(List Int)) (Int.toNat a1) (0:Int):Int),()),(1,a1,()),(0,(r1.1.1:Int),())]:List (den Za))) fun r12 =>
                some (((r12.1.1:(List (den Za))),()),[])
            else
              Option.bind (Zv n ([(0,(List.getD (a0.2.1:(List Int)) (Int.toNat a1) (0:Int):Int),()),(1,a1,()),(0,(r1.1.1:Int),())]:List (den Za))) fun r13 =>
              some (((r13.1.1:(List (den Za))),()),[])
      else
        bif (decide ((a2.1:Int)=2)) then
          bif (decide ((a2.1:Int)=2)) then
            bif (decide (0≤(a2.2.2.2.2.1:Int))) then
              bif (decide ((a2.2.2.2.2.1:Int)<((List.length (a0.2.1:(List Int))):Int))) then
                Option.bind (Zv n ([(0,(List.getD (a0.2.1:(List Int)) (Int.toNat a1) (0:Int):Int),()),(1,a1,()),(1,(a2.2.2.2.2.1:Int),())]:List (den Za))) fun r14 =>
                some (((r14.1.1:(List (den Za))),()),[])
              else
                Option.bind (Zv n ([(0,(List.getD (a0.2.1:(List Int)) (Int.toNat a1) (0:Int):Int),()),(1,a1,())]:List (den Za))) fun r15 =>
                some (((r15.1.1:(List (den Za))),()),[])
            else
              Option.bind (Zv n ([(0,(List.getD (a0.2.1:(List Int)) (Int.toNat a1) (0:Int):Int),()),(1,a1,())]:List (den Za))) fun r16 =>
              some (((r16.1.1:(List (den Za))),()),[])
          else
            Option.bind (Zv n ([(0,(List.getD (a0.2.1:(List Int)) (Int.toNat a1) (0:Int):Int),()),(1,a1,())]:List (den Za))) fun r17 =>
            some (((r17.1.1:(List (den Za))),()),[])
        else
          bif (decide ((a2.1:Int)=7)) then
            bif (decide ((a2.1:Int)=7)) then
              bif (decide (0≤(a2.2.2.2.2.1:Int))) then
                bif (decide ((a2.2.2.2.2.1:Int)<((List.length (a0.2.1:(List Int))):Int))) then
                  Option.bind (Zv n ([(0,(List.getD (a0.2.1:(List Int)) (Int.toNat a1) (0:Int):Int),()),(1,a1,()),(1,(a2.2.2.2.2.1:Int),())]:List (den Za))) fun r18 =>
                  some (((r18.1.1:(List (den Za))),()),[])
                else
                  Option.bind (Zv n ([(0,(List.getD (a0.2.1:(List Int)) (Int.toNat a1) (0:Int):Int),()),(1,a1,())]:List (den Za))) fun r19 =>
                  some (((r19.1.1:(List (den Za))),()),[])
              else
                Option.bind (Zv n ([(0,(List.getD (a0.2.1:(List Int)) (Int.toNat a1) (0:Int):Int),()),(1,a1,())]:List (den Za))) fun r20 =>
                some (((r20.1.1:(List (den Za))),()),[])
            else
              Option.bind (Zv n ([(0,(List.getD (a0.2.1:(List Int)) (Int.toNat a1) (0:Int):Int),()),(1,a1,())]:List (den Za))) fun r21 =>
              some (((r21.1.1:(List (den Za))),()),[])
          else
            bif (decide ((a2.1:Int)=8)) then
              bif (decide (0≤(a2.2.2.2.2.1:Int))) then
                bif (decide ((a2.2.2.2.2.1:Int)<((List.length (a0.2.1:(List Int))):Int))) then
                  Option.bind (Zv n ([(0,(List.getD (a0.2.1:(List Int)) (Int.toNat a1) (0:Int):Int),()),(1,a1,()),(1,(a2.2.2.2.2.1:Int),())]:List (den Za))) fun r22 =>
                  some (((r22.1.1:(List (den Za))),()),[])
                else
                  Option.bind (Zv n ([(0,(List.getD (a0.2.1:(List Int)) (Int.toNat a1) (0:Int):Int),()),(1,a1,())]:List (den Za))) fun r23 =>
                  some (((r23.1.1:(List (den Za))),()),[])
              else
                Option.bind (Zv n ([(0,(List.getD (a0.2.1:(List Int)) (Int.toNat a1) (0:Int):Int),()),(1,a1,())]:List (den Za))) fun r24 =>
                some (((r24.1.1:(List (den Za))),()),[])
            else
              Option.bind (Zv n ([(0,(List.getD (a0.2.1:(List Int)) (Int.toNat a1) (0:Int):Int),()),(1,a1,())]:List (den Za))) fun r25 =>
              some (((r25.1.1:(List (den Za))),()),[])
    else
      bif (decide ((a2.1:Int)=2)) then
        bif (decide ((a2.1:Int)=2)) then
          bif (decide (0≤(a2.2.2.2.2.1:Int))) then
            bif (decide ((a2.2.2.2.2.1:Int)<((List.length (a0.2.1:(List Int))):Int))) then
              Option.bind (Zv n ([(0,(List.getD (a0.2.1:(List Int)) (Int.toNat a1) (0:Int):Int),()),(1,a1,()),(1,(a2.2.2.2.2.1:Int),())]:List (den Za))) fun r26 =>
              some (((r26.1.1:(List (den Za))),()),[])
            else
              Option.bind (Zv n ([(0,(List.getD (a0.2.1:(List Int)) (Int.toNat a1) (0:Int):Int),()),(1,a1,())]:List (den Za))) fun r27 =>
              some (((r27.1.1:(List (den Za))),()),[])
          else
            Option.bind (Zv n ([(0,(List.getD (a0.2.1:(List Int)) (Int.toNat a1) (0:Int):Int),()),(1,a1,())]:List (den Za))) fun r28 =>
            some (((r28.1.1:(List (den Za))),()),[])
        else
          Option.bind (Zv n ([(0,(List.getD (a0.2.1:(List Int)) (Int.toNat a1) (0:Int):Int),()),(1,a1,())]:List (den Za))) fun r29 =>
          some (((r29.1.1:(List (den Za))),()),[])
      else
        bif (decide ((a2.1:Int)=7)) then
          bif (decide ((a2.1:Int)=7)) then
            bif (decide (0≤(a2.2.2.2.2.1:Int))) then
              bif (decide ((a2.2.2.2.2.1:Int)<((List.length (a0.2.1:(List Int))):Int))) then
                Option.bind (Zv n ([(0,(List.getD (a0.2.1:(List Int)) (Int.toNat a1) (0:Int):Int),()),(1,a1,()),(1,(a2.2.2.2.2.1:Int),())]:List (den Za))) fun r30 =>
                some (((r30.1.1:(List (den Za))),()),[])
              else
                Option.bind (Zv n ([(0,(List.getD (a0.2.1:(List Int)) (Int.toNat a1) (0:Int):Int),()),(1,a1,())]:List (den Za))) fun r31 =>
                some (((r31.1.1:(List (den Za))),()),[])
            else
              Option.bind (Zv n ([(0,(List.getD (a0.2.1:(List Int)) (Int.toNat a1) (0:Int):Int),()),(1,a1,())]:List (den Za))) fun r32 =>
              some (((r32.1.1:(List (den Za))),()),[])
          else
            Option.bind (Zv n ([(0,(List.getD (a0.2.1:(List Int)) (Int.toNat a1) (0:Int):Int),()),(1,a1,())]:List (den Za))) fun r33 =>
            some (((r33.1.1:(List (den Za))),()),[])
        else
          bif (decide ((a2.1:Int)=8)) then
            bif (decide (0≤(a2.2.2.2.2.1:Int))) then
              bif (decide ((a2.2.2.2.2.1:Int)<((List.length (a0.2.1:(List Int))):Int))) then
                Option.bind (Zv n ([(0,(List.getD (a0.2.1:(List Int)) (Int.toNat a1) (0:Int):Int),()),(1,a1,()),(1,(a2.2.2.2.2.1:Int),())]:List (den Za))) fun r34 =>
                some (((r34.1.1:(List (den Za))),()),[])
              else
                Option.bind (Zv n ([(0,(List.getD (a0.2.1:(List Int)) (Int.toNat a1) (0:Int):Int),()),(1,a1,())]:List (den Za))) fun r35 =>
                some (((r35.1.1:(List (den Za))),()),[])
            else
              Option.bind (Zv n ([(0,(List.getD (a0.2.1:(List Int)) (Int.toNat a1) (0:Int):Int),()),(1,a1,())]:List (den Za))) fun r36 =>
              some (((r36.1.1:(List (den Za))),()),[])
          else
            Option.bind (Zv n ([(0,(List.getD (a0.2.1:(List Int)) (Int.toNat a1) (0:Int):Int),()),(1,a1,())]:List (den Za))) fun r37 =>
            some (((r37.1.1:(List (den Za))),()),[])
  else
    bif (decide ((a2.1:Int)=2)) then
      Option.bind (J0 n a0 (List.getD (a0.2.1:(List Int)) (Int.toNat a1) (0:Int):Int) (a2.2.1:Int)) fun r38 =>
      bif (r38.1.2.1:Bool) then
        bif (decide ((a2.1:Int)=2)) then
          bif (decide ((a2.1:Int)=2)) then
            bif (decide (0≤(a2.2.2.2.2.1:Int))) then
              bif (decide ((a2.2.2.2.2.1:Int)<((List.length (a0.2.1:(List Int))):Int))) then
                Option.bind (Zv n ([(0,(List.getD (a0.2.1:(List Int)) (Int.toNat a1) (0:Int):Int),()),(1,a1,()),(0,(r38.1.1:Int),()),(1,(a2.2.2.2.2.1:Int),())]:List (den Za))) fun r39 =>
                some (((r39.1.1:(List (den Za))),()),[])
              else
                Option.bind (Zv n ([(0,(List.getD (a0.2.1:(List Int)) (Int.toNat a1) (0:Int):Int),()),(1,a1,()),(0,(r38.1.1:Int),())]:List (den Za))) fun r40 =>
                some (((r40.1.1:(List (den Za))),()),[])
            else
              Option.bind (Zv n ([(0,(List.getD (a0.2.1:(List Int)) (Int.toNat a1) (0:Int):Int),()),(1,a1,()),(0,(r38.1.1:Int),())]:List (den Za))) fun r41 =>
              some (((r41.1.1:(List (den Za))),()),[])
          else
            Option.bind (Zv n ([(0,(List.getD (a0.2.1:(List Int)) (Int.toNat a1) (0:Int):Int),()),(1,a1,()),(0,(r38.1.1:Int),())]:List (den Za))) fun r42 =>
            some (((r42.1.1:(List (den Za))),()),[])
        else
          bif (decide ((a2.1:Int)=7)) then
            bif (decide ((a2.1:Int)=7)) then
              bif (decide (0≤(a2.2.2.2.2.1:Int))) then
                bif (decide ((a2.2.2.2.2.1:Int)<((List.length (a0.2.1:(List Int))):Int))) then
                  Option.bind (Zv n ([(0,(List.getD (a0.2.1:(List Int)) (Int.toNat a1) (0:Int):Int),()),(1,a1,()),(0,(r38.1.1:Int),()),(1,(a2.2.2.2.2.1:Int),())]:List (den Za))) fun r43 =>
                  some (((r43.1.1:(List (den Za))),()),[])
                else
                  Option.bind (Zv n ([(0,(List.getD (a0.2.1:(List Int)) (Int.toNat a1) (0:Int):Int),()),(1,a1,()),(0,(r38.1.1:Int),())]:List (den Za))) fun r44 =>
                  some (((r44.1.1:(List (den Za))),()),[])
              else
                Option.bind (Zv n ([(0,(List.getD (a0.2.1:(List Int)) (Int.toNat a1) (0:Int):Int),()),(1,a1,()),(0,(r38.1.1:Int),())]:List (den Za))) fun r45 =>
                some (((r45.1.1:(List (den Za))),()),[])
            else
              Option.bind (Zv n ([(0,(List.getD (a0.2.1:(List Int)) (Int.toNat a1) (0:Int):Int),()),(1,a1,()),(0,(r38.1.1:Int),())]:List (den Za))) fun r46 =>
              some (((r46.1.1:(List (den Za))),()),[])
          else
            bif (decide ((a2.1:Int)=8)) then
              bif (decide (0≤(a2.2.2.2.2.1:Int))) then
                bif (decide ((a2.2.2.2.2.1:Int)<((List.length (a0.2.1:(List Int))):Int))) then
                  Option.bind (Zv n ([(0,(List.getD (a0.2.1:(List Int)) (Int.toNat a1) (0:Int):Int),()),(1,a1,()),(0,(r38.1.1:Int),()),(1,(a2.2.2.2.2.1:Int),())]:List (den Za))) fun r47 =>
                  some (((r47.1.1:(List (den Za))),()),[])
                else
                  Option.bind (Zv n ([(0,(List.getD (a0.2.1:(List Int)) (Int.toNat a1) (0:Int):Int),()),(1,a1,()),(0,(r38.1.1:Int),())]:List (den Za))) fun r48 =>
                  some (((r48.1.1:(List (den Za))),()),[])
              else
                Option.bind (Zv n ([(0,(List.getD (a0.2.1:(List Int)) (Int.toNat a1) (0:Int):Int),()),(1,a1,()),(0,(r38.1.1:Int),())]:List (den Za))) fun r49 =>
                some (((r49.1.1:(List (den Za))),()),[])
            else
              Option.bind (Zv n ([(0,(List.getD (a0.2.1:(List Int)) (Int.toNat a1) (0:Int):Int),()),(1,a1,()),(0,(r38.1.1:Int),())]:List (den Za))) fun r50 =>
              some (((r50.1.1:(List (den Za))),()),[])
      else
        bif (decide ((a2.1:Int)=2)) then
          bif (decide ((a2.1:Int)=2)) then
            bif (decide (0≤(a2.2.2.2.2.1:Int))) then
              bif (decide ((a2.2.2.2.2.1:Int)<((List.length (a0.2.1:(List Int))):Int))) then
                Option.bind (Zv n ([(0,(List.getD (a0.2.1:(List Int)) (Int.toNat a1) (0:Int):Int),()),(1,a1,()),(1,(a2.2.2.2.2.1:Int),())]:List (den Za))) fun r51 =>
                some (((r51.1.1:(List (den Za))),()),[])
              else
                Option.bind (Zv n ([(0,(List.getD (a0.2.1:(List Int)) (Int.toNat a1) (0:Int):Int),()),(1,a1,())]:List (den Za))) fun r52 =>
                some (((r52.1.1:(List (den Za))),()),[])
            else
              Option.bind (Zv n ([(0,(List.getD (a0.2.1:(List Int)) (Int.toNat a1) (0:Int):Int),()),(1,a1,())]:List (den Za))) fun r53 =>
              some (((r53.1.1:(List (den Za))),()),[])
          else
            Option.bind (Zv n ([(0,(List.getD (a0.2.1:(List Int)) (Int.toNat a1) (0:Int):Int),()),(1,a1,())]:List (den Za))) fun r54 =>
            some (((r54.1.1:(List (den Za))),()),[])
        else
          bif (decide ((a2.1:Int)=7)) then
            bif (decide ((a2.1:Int)=7)) then
              bif (decide (0≤(a2.2.2.2.2.1:Int))) then
                bif (decide ((a2.2.2.2.2.1:Int)<((List.length (a0.2.1:(List Int))):Int))) then
                  Option.bind (Zv n ([(0,(List.getD (a0.2.1:(List Int)) (Int.toNat a1) (0:Int):Int),()),(1,a1,()),(1,(a2.2.2.2.2.1:Int),())]:List (den Za))) fun r55 =>
                  some (((r55.1.1:(List (den Za))),()),[])
                else
                  Option.bind (Zv n ([(0,(List.getD (a0.2.1:(List Int)) (Int.toNat a1) (0:Int):Int),()),(1,a1,())]:List (den Za))) fun r56 =>
                  some (((r56.1.1:(List (den Za))),()),[])
              else
                Option.bind (Zv n ([(0,(List.getD (a0.2.1:(List Int)) (Int.toNat a1) (0:Int):Int),()),(1,a1,())]:List (den Za))) fun r57 =>
                some (((r57.1.1:(List (den Za))),()),[])
            else
              Option.bind (Zv n ([(0,(List.getD (a0.2.1:(List Int)) (Int.toNat a1) (0:Int):Int),()),(1,a1,())]:List (den Za))) fun r58 =>
              some (((r58.1.1:(List (den Za))),()),[])
          else
            bif (decide ((a2.1:Int)=8)) then
              bif (decide (0≤(a2.2.2.2.2.1:Int))) then
                bif (decide ((a2.2.2.2.2.1:Int)<((List.length (a0.2.1:(List Int))):Int))) then
                  Option.bind (Zv n ([(0,(List.getD (a0.2.1:(List Int)) (Int.toNat a1) (0:Int):Int),()),(1,a1,()),(1,(a2.2.2.2.2.1:Int),())]:List (den Za))) fun r59 =>
                  some (((r59.1.1:(List (den Za))),()),[])
                else
                  Option.bind (Zv n ([(0,(List.getD (a0.2.1:(List Int)) (Int.toNat a1) (0:Int):Int),()),(1,a1,())]:List (den Za))) fun r60 =>
                  some (((r60.1.1:(List (den Za))),()),[])
              else
                Option.bind (Zv n ([(0,(List.getD (a0.2.1:(List Int)) (Int.toNat a1) (0:Int):Int),()),(1,a1,())]:List (den Za))) fun r61 =>
                some (((r61.1.1:(List (den Za))),()),[])
            else
              Option.bind (Zv n ([(0,(List.getD (a0.2.1:(List Int)) (Int.toNat a1) (0:Int):Int),()),(1,a1,())]:List (den Za))) fun r62 =>
              some (((r62.1.1:(List (den Za))),()),[])
    else
      bif (decide ((a2.1:Int)=2)) then
        bif (decide ((a2.1:Int)=2)) then
          bif (decide (0≤(a2.2.2.2.2.1:Int))) then
            bif (decide ((a2.2.2.2.2.1:Int)<((List.length (a0.2.1:(List Int))):Int))) then
              Option.bind (Zv n ([(0,(List.getD (a0.2.1:(List Int)) (Int.toNat a1) (0:Int):Int),()),(1,a1,()),(1,(a2.2.2.2.2.1:Int),())]:List (den Za))) fun r63 =>
              some (((r63.1.1:(List (den Za))),()),[])
            else
              Option.bind (Zv n ([(0,(List.getD (a0.2.1:(List Int)) (Int.toNat a1) (0:Int):Int),()),(1,a1,())]:List (den Za))) fun r64 =>
              some (((r64.1.1:(List (den Za))),()),[])
          else
            Option.bind (Zv n ([(0,(List.getD (a0.2.1:(List Int)) (Int.toNat a1) (0:Int):Int),()),(1,a1,())]:List (den Za))) fun r65 =>
            some (((r65.1.1:(List (den Za))),()),[])
        else
          Option.bind (Zv n ([(0,(List.getD (a0.2.1:(List Int)) (Int.toNat a1) (0:Int):Int),()),(1,a1,())]:List (den Za))) fun r66 =>
          some (((r66.1.1:(List (den Za))),()),[])
      else
        bif (decide ((a2.1:Int)=7)) then
          bif (decide ((a2.1:Int)=7)) then
            bif (decide (0≤(a2.2.2.2.2.1:Int))) then
              bif (decide ((a2.2.2.2.2.1:Int)<((List.length (a0.2.1:(List Int))):Int))) then
                Option.bind (Zv n ([(0,(List.getD (a0.2.1:(List Int)) (Int.toNat a1) (0:Int):Int),()),(1,a1,()),(1,(a2.2.2.2.2.1:Int),())]:List (den Za))) fun r67 =>
                some (((r67.1.1:(List (den Za))),()),[])
              else
                Option.bind (Zv n ([(0,(List.getD (a0.2.1:(List Int)) (Int.toNat a1) (0:Int):Int),()),(1,a1,())]:List (den Za))) fun r68 =>
                some (((r68.1.1:(List (den Za))),()),[])
            else
              Option.bind (Zv n ([(0,(List.getD (a0.2.1:(List Int)) (Int.toNat a1) (0:Int):Int),()),(1,a1,())]:List (den Za))) fun r69 =>
              some (((r69.1.1:(List (den Za))),()),[])
          else
            Option.bind (Zv n ([(0,(List.getD (a0.2.1:(List Int)) (Int.toNat a1) (0:Int):Int),()),(1,a1,())]:List (den Za))) fun r70 =>
            some (((r70.1.1:(List (den Za))),()),[])
        else
          bif (decide ((a2.1:Int)=8)) then
            bif (decide (0≤(a2.2.2.2.2.1:Int))) then
              bif (decide ((a2.2.2.2.2.1:Int)<((List.length (a0.2.1:(List Int))):Int))) then
                Option.bind (Zv n ([(0,(List.getD (a0.2.1:(List Int)) (Int.toNat a1) (0:Int):Int),()),(1,a1,()),(1,(a2.2.2.2.2.1:Int),())]:List (den Za))) fun r71 =>
                some (((r71.1.1:(List (den Za))),()),[])
              else
                Option.bind (Zv n ([(0,(List.getD (a0.2.1:(List Int)) (Int.toNat a1) (0:Int):Int),()),(1,a1,())]:List (den Za))) fun r72 =>
                some (((r72.1.1:(List (den Za))),()),[])
            else
              Option.bind (Zv n ([(0,(List.getD (a0.2.1:(List Int)) (Int.toNat a1) (0:Int):Int),()),(1,a1,())]:List (den Za))) fun r73 =>
              some (((r73.1.1:(List (den Za))),()),[])
          else
            Option.bind (Zv n ([(0,(List.getD (a0.2.1:(List Int)) (Int.toNat a1) (0:Int):Int),()),(1,a1,())]:List (den Za))) fun r74 =>
            some (((r74.1.1:(List (den Za))),()),[])
  else none:=by kernel_rfl
def Z4.res:List Sh:=[.d .bool]
@[reducible] def Z4.R:Type:=Xf [.d .bool]×Z0
def Z4 (n:Nat) (a0:(List (den Za))) (a1:(List (den Za))):Option Z4.R:=gc n 18 [.dat (.sl Za) a0 [],.dat (.sl Za) a1 []] [.d .bool]
def Z4.l0 (n m0:Nat) (t0:(List (den Za))) (t1:(List (den Za))) (t4:Bool) (t5:Int):Option Z4.R :=
  lpN n ATt m0 (Jr 0 (Jf (run (gc n) n) ATs (Xk Z4.fn Z4.res) (Xk Z4.fn Z4.res)) (Xk Z4.fn Z4.res))
    [(0,.dat (.sl Za) t0 []),(1,.dat (.sl Za) t1 []),(4,.dat .bool t4 []),(5,.dat (.int .i64) t5 [])]
    []
theorem Z4.l0_eq (n m0:Nat) (t0:(List (den Za))) (t1:(List (den Za))) (t4:Bool) (t5:Int):Z4.l0 n (m0+1) t0 t1 t4 t5 =
  bif (decide (t5<((List.length t0):Int))) then
    if (0:Int)≤t5∧t5<(((List.length t0):Nat):Int) then
    if (0:Int)≤t5∧t5<(((List.length t1):Nat):Int) then
    bif (!(eqT Za (List.getD t0 (Int.toNat t5) (dft Za):(den Za)) (List.getD t1 (Int.toNat t5) (dft Za):(den Za)))) then
      some ((false,()),[])
    else
      Z4.l0 n m0 t0 t1 t4 (IntKind.wrap .i64 (t5+1))
    else none
    else none
  else
    some ((true,()),[]):=by kernel_rfl
theorem Z4.eq (n:Nat) (a0:(List (den Za))) (a1:(List (den Za))):Z4 (n+1) a0 a1 =
  bif (!(decide (((List.length a0):Int)=((List.length a1):Int)))) then
    some ((false,()),[])
  else
    Z4.l0 n n a0 a1 false 0:=by kernel_rfl
@[reducible] def Yd.R:Type:=Xf [.d (.int .i64)]×Z0
def Yd (n:Nat) (a0:(List (den Za))) (a1:(den Za)):Option Yd.R:=gc n 70 [.dat (.sl Za) a0 [],.dat Za a1 []] [.d (.int .i64)]
@[reducible] def X5.R:Type:=Xf [.d .bool]×Z0
def X5 (n:Nat) (a0:(List (den Za))) (a1:(den Za)):Option X5.R:=gc n 30 [.dat (.sl Za) a0 [],.dat Za a1 []] [.d .bool]
@[reducible] def K5.R:Type:=Xf [.d .bool]×Z0
def K5 (n:Nat) (a0:Int) (a1:Int) (a2:(List (den Za))):Option K5.R:=gc n 29 [.dat (.int .i64) a0 [],.dat (.int .i64) a1 [],.ref (.sl Za) a2] [.d .bool]
@[reducible] def G0.R:Type:=Xf [.clo 123 [.ref Zb,.ref (.int .i64)]]×Z0
def G0 (n:Nat) (a0:(den Zb)) (a1:Int):Option G0.R:=gc n 72 [.dat Zb a0 [],.dat (.int .i64) a1 []] [.clo 123 [.ref Zb,.ref (.int .i64)]]
theorem G0.eq (n:Nat) (a0:(den Zb)) (a1:Int):G0 (n+1) a0 a1 =
  some (((a0,a1,()),()),[]):=by kernel_rfl
@[reducible] def Qx.R:Type:=Xf [.d (.sl Za)]×Z0
def Qx (n:Nat) (a0:(den Zb)) (a1:Int):Option Qx.R:=gc n 71 [.clo 123 [.ref Zb a0,.ref (.int .i64) a1]] [.d (.sl Za)]
@[reducible] def Kf.R:Type:=Xf [.d Za]×Z0
def Kf (n:Nat) (a0:(den Zb)) (a1:Int):Option Kf.R:=gc n 31 [.dat Zb a0 [],.dat (.int .i64) a1 []] [.d Za]
theorem Kf.eq (n:Nat) (a0:(den Zb)) (a1:Int):Kf (n+1) a0 a1 =
  Option.bind (G0 n a0 a1) fun r1 =>
  Option.bind (Qx n r1.1.1.1 (r1.1.1.2.1:Int)) fun r2 =>
  if (0:Int)≤(IntKind.wrap .i64 (((List.length (r2.1.1:(List (den Za)))):Int) - 1))∧(IntKind.wrap .i64 (((List.length (r2.1.1:(List (den Za)))):Int) - 1))<(((List.length (r2.1.1:(List (den Za)))):Nat):Int) then
  some (((List.getD (r2.1.1:(List (den Za))) (Int.toNat (IntKind.wrap .i64 (((List.length (r2.1.1:(List (den Za)))):Int) - 1))) (dft Za):(den Za)),()),[])
  else none:=by kernel_rfl
@[reducible] def Gg.R:Type:=Xf [.d .bool]×Z0
def Gg (n:Nat) (a0:(List (den Za))) (a1:(den Zb)) (a2:(den Zb)):Option Gg.R:=gc n 11 [.dat (.sl Za) a0 [],.dat Zb a1 [],.dat Zb a2 []] [.d .bool]
@[reducible] def X0.R:Type:=Xf [.d .bool]×Z0
def X0 (n:Nat):Option X0.R:=gc n 5 [] [.d .bool]
@[reducible] def Yj.R:Type:=Xf [.d .bool]×Z0
def Yj (n:Nat) (a0:(den Zb)):Option Yj.R:=gc n 21 [.dat Zb a0 []] [.d .bool]
theorem Yj.eq (n:Nat) (a0:(den Zb)):Yj (n+1) a0 =
  bif (decide (((List.length (a0.1.1:(List (List Int)))):Int)≤20)) then
    bif (decide (((List.length (a0.1.2.1:(List Int))):Int)≤20)) then
      bif (decide (((List.length (a0.1.2.2.1:(List Int))):Int)≤20)) then
        bif (decide (((List.length (a0.1.2.2.2.1:(List Int))):Int)≤40)) then
          bif (decide (((List.length (a0.1.2.2.2.2.1:(List Bool))):Int)≤40)) then
            bif (decide (((List.length (a0.2.1:(List Int))):Int)≤40)) then
              bif (decide (((List.length (a0.2.2.1:(List Int))):Int)≤40)) then
                some (((decide (((List.length (a0.2.2.2.1:(List (den Za)))):Int)≤40)),()),[])
              else
                some ((false,()),[])
            else
              some ((false,()),[])
          else
            some ((false,()),[])
        else
          some ((false,()),[])
      else
        some ((false,()),[])
    else
      some ((false,()),[])
  else
    some ((false,()),[]):=by kernel_rfl
@[reducible] def Xe.R:Type:=Xf [.d .bool]×Z0
def Xe (n:Nat) (a0:Int) (a1:Int):Option Xe.R:=gc n 37 [.dat (.int .i64) a0 [],.dat (.int .i64) a1 []] [.d .bool]
theorem Xe.eq (n:Nat) (a0:Int) (a1:Int):Xe (n+1) a0 a1 =
  bif (decide (0≤a0)) then
    some (((decide (a0<a1)),()),[])
  else
    some ((false,()),[]):=by kernel_rfl
@[reducible] def Yr.R:Type:=Xf [.d .bool]×Z0
def Yr (n:Nat) (a0:Int):Option Yr.R:=gc n 38 [.dat (.int .i64) a0 []] [.d .bool]
theorem Yr.eq (n:Nat) (a0:Int):Yr (n+1) a0 =
  bif (decide (0≤a0)) then
    some (((decide (a0≤1073741824)),()),[])
  else
    some ((false,()),[]):=by kernel_rfl
def Zc.res:List Sh:=[.d .bool]
@[reducible] def Zc.R:Type:=Xf [.d .bool]×Z0
def Zc (n:Nat) (a0:(den Z3)):Option Zc.R:=gc n 36 [.dat Z3 a0 []] [.d .bool]
def Zc.l0 (n m0:Nat) (t0:(den Z3)) (t2:Bool) (t3:Int) (t4:Int) (o0:(den Z3)):Option Zc.R :=
  lpN n N4 m0 (Jr 0 (Jf (run (gc n) n) V6 (Xk Zc.fn Zc.res) (Xk Zc.fn Zc.res)) (Xk Zc.fn Zc.res))
    [(0,.dat Z3 t0 []),(1,.ptr 0 []),(2,.dat .bool t2 []),(3,.dat (.int .i64) t3 []),(4,.dat (.int .i64) t4 [])]
    [.box Z3 o0 []]
def Zc.l1 (n m0 m1:Nat) (t0_1:(den Z3)) (t2_1:Bool) (t3_1:Int) (t4_1:Int) (t5_1:Int) (o0_1:(den Z3)):Option Zc.R :=
  lpN n AMt m1 (Jr 2 (Jf (run (gc n) n) AMs (Jf (run (gc n) n) L8 (Jf (run (gc n) n) L7 (fun _ s h=>lpN n N4 m0 (Jr 0 (Jf (run (gc n) n) V6 (Xk Zc.fn Zc.res) (Xk Zc.fn Zc.res)) (Xk Zc.fn Zc.res)) s h) (Jr 0 (Jf (run (gc n) n) V6 (Xk Zc.fn Zc.res) (Xk Zc.fn Zc.res)) (Xk Zc.fn Zc.res))) (Jr 0 (Jf (run (gc n) n) V6 (Xk Zc.fn Zc.res) (Xk Zc.fn Zc.res)) (Xk Zc.fn Zc.res))) (Jr 1 (Jf (run (gc n) n) L8 (Jf (run (gc n) n) L7 (fun _ s h=>lpN n N4 m0 (Jr 0 (Jf (run (gc n) n) V6 (Xk Zc.fn Zc.res) (Xk Zc.fn Zc.res)) (Xk Zc.fn Zc.res)) s h) (Jr 0 (Jf (run (gc n) n) V6 (Xk Zc.fn Zc.res) (Xk Zc.fn Zc.res)) (Xk Zc.fn Zc.res))) (Jr 0 (Jf (run (gc n) n) V6 (Xk Zc.fn Zc.res) (Xk Zc.fn Zc.res)) (Xk Zc.fn Zc.res))) (Jr 0 (Jf (run (gc n) n) V6 (Xk Zc.fn Zc.res) (Xk Zc.fn Zc.res)) (Xk Zc.fn Zc.res)))) (Jr 1 (Jf (run (gc n) n) L8 (Jf (run (gc n) n) L7 (fun _ s h=>lpN n N4 m0 (Jr 0 (Jf (run (gc n) n) V6 (Xk Zc.fn Zc.res) (Xk Zc.fn Zc.res)) (Xk Zc.fn Zc.res)) s h) (Jr 0 (Jf (run (gc n) n) V6 (Xk Zc.fn Zc.res) (Xk Zc.fn Zc.res)) (Xk Zc.fn Zc.res))) (Jr 0 (Jf (run (gc n) n) V6 (Xk Zc.fn Zc.res) (Xk Zc.fn Zc.res)) (Xk Zc.fn Zc.res))) (Jr 0 (Jf (run (gc n) n) V6 (Xk Zc.fn Zc.res) (Xk Zc.fn Zc.res)) (Xk Zc.fn Zc.res))))
    [(0,.dat Z3 t0_1 []),(1,.ptr 0 []),(2,.dat .bool t2_1 []),(3,.dat (.int .i64) t3_1 []),(4,.dat (.int .i64) t4_1 []),(5,.dat (.int .i64) t5_1 [])]
    [.box Z3 o0_1 []]
def Zc.l2 (n m0 m1:Nat) (t0_2:(den Z3)) (t2_2:Bool) (t3_2:Int) (t4_2:Int) (t5_2:Int) (t6_2:Int) (t7_2:Int) (o0_2:(den Z3)):Option Zc.R :=
  lpN n AMv m1 (Jr 4 (Jf (run (gc n) n) AMu (Jf (run (gc n) n) L8 (Jf (run (gc n) n) L7 (fun _ s h=>lpN n N4 m0 (Jr 0 (Jf (run (gc n) n) V6 (Xk Zc.fn Zc.res) (Xk Zc.fn Zc.res)) (Xk Zc.fn Zc.res)) s h) (Jr 0 (Jf (run (gc n) n) V6 (Xk Zc.fn Zc.res) (Xk Zc.fn Zc.res)) (Xk Zc.fn Zc.res))) (Jr 0 (Jf (run (gc n) n) V6 (Xk Zc.fn Zc.res) (Xk Zc.fn Zc.res)) (Xk Zc.fn Zc.res))) (Jr 1 (Jf (run (gc n) n) L8 (Jf (run (gc n) n) L7 (fun _ s h=>lpN n N4 m0 (Jr 0 (Jf (run (gc n) n) V6 (Xk Zc.fn Zc.res) (Xk Zc.fn Zc.res)) (Xk Zc.fn Zc.res)) s h) (Jr 0 (Jf (run (gc n) n) V6 (Xk Zc.fn Zc.res) (Xk Zc.fn Zc.res)) (Xk Zc.fn Zc.res))) (Jr 0 (Jf (run (gc n) n) V6 (Xk Zc.fn Zc.res) (Xk Zc.fn Zc.res)) (Xk Zc.fn Zc.res))) (Jr 0 (Jf (run (gc n) n) V6 (Xk Zc.fn Zc.res) (Xk Zc.fn Zc.res)) (Xk Zc.fn Zc.res)))) (Jr 1 (Jf (run (gc n) n) L8 (Jf (run (gc n) n) L7 (fun _ s h=>lpN n N4 m0 (Jr 0 (Jf (run (gc n) n) V6 (Xk Zc.fn Zc.res) (Xk Zc.fn Zc.res)) (Xk Zc.fn Zc.res)) s h) (Jr 0 (Jf (run (gc n) n) V6 (Xk Zc.fn Zc.res) (Xk Zc.fn Zc.res)) (Xk Zc.fn Zc.res))) (Jr 0 (Jf (run (gc n) n) V6 (Xk Zc.fn Zc.res) (Xk Zc.fn Zc.res)) (Xk Zc.fn Zc.res))) (Jr 0 (Jf (run (gc n) n) V6 (Xk Zc.fn Zc.res) (Xk Zc.fn Zc.res)) (Xk Zc.fn Zc.res))))
    [(0,.dat Z3 t0_2 []),(1,.ptr 0 []),(2,.dat .bool t2_2 []),(3,.dat (.int .i64) t3_2 []),(4,.dat (.int .i64) t4_2 []),(5,.dat (.int .i64) t5_2 []),(6,.dat (.int .i64) t6_2 []),(7,.dat (.int .i64) t7_2 [])]
    [.box Z3 o0_2 []]
def Zc.l3 (n m0:Nat) (t0_3:(den Z3)) (t2_3:Bool) (t3_3:Int) (t4_3:Int) (t8_3:Int) (o0_3:(den Z3)):Option Zc.R :=
  lpN n AMx m0 (Jr 6 (Jf (run (gc n) n) AMw (Xk Zc.fn Zc.res) (Xk Zc.fn Zc.res)) (Xk Zc.fn Zc.res))
    [(0,.dat Z3 t0_3 []),(1,.ptr 0 []),(2,.dat .bool t2_3 []),(3,.dat (.int .i64) t3_3 []),(4,.dat (.int .i64) t4_3 []),(8,.dat (.int .i64) t8_3 [])]
    [.box Z3 o0_3 []]
def Zc.l4 (n m0:Nat) (t0_4:(den Z3)) (t2_4:Bool) (t3_4:Int) (t4_4:Int) (t8_4:Int) (t9_4:Int) (o0_4:(den Z3)):Option Zc.R :=
  lpN n AMz m0 (Jr 8 (Jf (run (gc n) n) AMy (Xk Zc.fn Zc.res) (Xk Zc.fn Zc.res)) (Xk Zc.fn Zc.res))
    [(0,.dat Z3 t0_4 []),(1,.ptr 0 []),(2,.dat .bool t2_4 []),(3,.dat (.int .i64) t3_4 []),(4,.dat (.int .i64) t4_4 []),(8,.dat (.int .i64) t8_4 []),(9,.dat (.int .i64) t9_4 [])]
    [.box Z3 o0_4 []]
theorem Zc.l0_eq (n m0:Nat) (t0:(den Z3)) (t2:Bool) (t3:Int) (t4:Int) (o0:(den Z3)):Zc.l0 n (m0+1) t0 t2 t3 t4 o0 =
  bif (decide (t4<t3)) then
    Zc.l1 n m0 n t0 t2 t3 t4 0 o0
  else
    Zc.l3 n n t0 t2 t3 t4 0 o0:=by kernel_rfl
theorem Zc.l1_eq (n m0 m1:Nat) (t0_1:(den Z3)) (t2_1:Bool) (t3_1:Int) (t4_1:Int) (t5_1:Int) (o0_1:(den Z3)):Zc.l1 n m0 (m1+1) t0_1 t2_1 t3_1 t4_1 t5_1 o0_1 =
  bif (decide (t5_1<4)) then
    if (0:Int)≤t4_1∧t4_1<(((List.length (o0_1.1:(List (List Int)))):Nat):Int) then
    if (0:Int)≤t5_1∧t5_1<((4:Nat):Int) then
    bif (!(decide ((List.getD (List.getD (o0_1.1:(List (List Int))) (Int.toNat t4_1) (dft (.arr 4 (.int .i64))):(List Int)) (Int.toNat t5_1) (0:Int):Int)=(-1)))) then
      if (0:Int)≤t4_1∧t4_1<(((List.length (o0_1.1:(List (List Int)))):Nat):Int) then
      if (0:Int)≤t5_1∧t5_1<((4:Nat):Int) then
      Option.bind (Xe n (List.getD (List.getD (o0_1.1:(List (List Int))) (Int.toNat t4_1) (dft (.arr 4 (.int .i64))):(List Int)) (Int.toNat t5_1) (0:Int):Int) t3_1) fun r4 =>
      bif (!(r4.1.1:Bool)) then
        some ((false,()),[])
      else
        Zc.l1 n m0 m1 t0_1 t2_1 t3_1 t4_1 (IntKind.wrap .i64 (t5_1+1)) o0_1
      else none
      else none
    else
      Zc.l1 n m0 m1 t0_1 t2_1 t3_1 t4_1 (IntKind.wrap .i64 (t5_1+1)) o0_1
    else none
    else none
  else
    Zc.l2 n m0 n t0_1 t2_1 t3_1 t4_1 t5_1 0 0 o0_1:=by kernel_rfl
theorem Zc.l2_eq (n m0 m1:Nat) (t0_2:(den Z3)) (t2_2:Bool) (t3_2:Int) (t4_2:Int) (t5_2:Int) (t6_2:Int) (t7_2:Int) (o0_2:(den Z3)):Zc.l2 n m0 (m1+1) t0_2 t2_2 t3_2 t4_2 t5_2 t6_2 t7_2 o0_2 =
  bif (decide (t7_2<((List.length (o0_2.2.2.2.1:(List Int))):Int))) then
    if (0:Int)≤t7_2∧t7_2<(((List.length (o0_2.2.2.2.1:(List Int))):Nat):Int) then
    bif (decide ((List.getD (o0_2.2.2.2.1:(List Int)) (Int.toNat t7_2) (0:Int):Int)=t4_2)) then
      Zc.l2 n m0 m1 t0_2 t2_2 t3_2 t4_2 t5_2 (IntKind.wrap .i64 (t6_2+1)) (IntKind.wrap .i64 (t7_2+1)) o0_2
    else
      Zc.l2 n m0 m1 t0_2 t2_2 t3_2 t4_2 t5_2 t6_2 (IntKind.wrap .i64 (t7_2+1)) o0_2
    else none
  else
    bif (decide ((o0_2.2.2.2.2.2.1:Int)<t6_2)) then
      some ((false,()),[])
    else
      Zc.l0 n m0 t0_2 t2_2 t3_2 (IntKind.wrap .i64 (t4_2+1)) o0_2:=by kernel_rfl
theorem Zc.l3_eq (n m0:Nat) (t0_3:(den Z3)) (t2_3:Bool) (t3_3:Int) (t4_3:Int) (t8_3:Int) (o0_3:(den Z3)):Zc.l3 n (m0+1) t0_3 t2_3 t3_3 t4_3 t8_3 o0_3 =
  bif (decide (t8_3<((List.length (o0_3.2.1:(List Int))):Int))) then
    if (0:Int)≤t8_3∧t8_3<(((List.length (o0_3.2.1:(List Int))):Nat):Int) then
    Option.bind (Xe n (List.getD (o0_3.2.1:(List Int)) (Int.toNat t8_3) (0:Int):Int) t3_3) fun r5 =>
    bif (!(r5.1.1:Bool)) then
      some ((false,()),[])
    else
      if (0:Int)≤t8_3∧t8_3<(((List.length (o0_3.2.2.1:(List Int))):Nat):Int) then
      Option.bind (Yr n (List.getD (o0_3.2.2.1:(List Int)) (Int.toNat t8_3) (0:Int):Int)) fun r6 =>
      bif (!(r6.1.1:Bool)) then
        some ((false,()),[])
      else
        Zc.l3 n m0 t0_3 t2_3 t3_3 t4_3 (IntKind.wrap .i64 (t8_3+1)) o0_3
      else none
    else none
  else
    Zc.l4 n n t0_3 t2_3 t3_3 t4_3 t8_3 0 o0_3:=by kernel_rfl
theorem Zc.l4_eq (n m0:Nat) (t0_4:(den Z3)) (t2_4:Bool) (t3_4:Int) (t4_4:Int) (t8_4:Int) (t9_4:Int) (o0_4:(den Z3)):Zc.l4 n (m0+1) t0_4 t2_4 t3_4 t4_4 t8_4 t9_4 o0_4 =
  bif (decide (t9_4<((List.length (o0_4.2.2.2.1:(List Int))):Int))) then
    if (0:Int)≤t9_4∧t9_4<(((List.length (o0_4.2.2.2.1:(List Int))):Nat):Int) then
    Option.bind (Xe n (List.getD (o0_4.2.2.2.1:(List Int)) (Int.toNat t9_4) (0:Int):Int) t3_4) fun r7 =>
    bif (!(r7.1.1:Bool)) then
      some ((false,()),[])
    else
      Zc.l4 n m0 t0_4 t2_4 t3_4 t4_4 t8_4 (IntKind.wrap .i64 (t9_4+1)) o0_4
    else none
  else
    some ((true,()),[]):=by kernel_rfl
theorem Zc.eq (n:Nat) (a0:(den Z3)):Zc (n+1) a0 =
  bif (decide (((List.length (a0.1:(List (List Int)))):Int)<1)) then
    some ((false,()),[])
  else
    bif (decide (8<((List.length (a0.1:(List (List Int)))):Int))) then
      some ((false,()),[])
    else
      bif (decide (((List.length (a0.2.1:(List Int))):Int)<1)) then
        some ((false,()),[])
      else
        bif (decide (6<((List.length (a0.2.1:(List Int))):Int))) then
          some ((false,()),[])
        else
          bif (!(decide (((List.length (a0.2.2.1:(List Int))):Int)=((List.length (a0.2.1:(List Int))):Int)))) then
            some ((false,()),[])
          else
            bif (decide (16<((List.length (a0.2.2.2.1:(List Int))):Int))) then
              some ((false,()),[])
            else
              bif (!(decide (((List.length (a0.2.2.2.2.1:(List Bool))):Int)=((List.length (a0.2.2.2.1:(List Int))):Int)))) then
                some ((false,()),[])
              else
                Option.bind (Xe n (a0.2.2.2.2.2.1:Int) 65) fun r1 =>
                bif (!(r1.1.1:Bool)) then
                  some ((false,()),[])
                else
                  Option.bind (Xe n (a0.2.2.2.2.2.2.1:Int) 65) fun r2 =>
                  bif (!(r2.1.1:Bool)) then
                    some ((false,()),[])
                  else
                    Option.bind (Xe n (a0.2.2.2.2.2.2.2.1:Int) 65) fun r3 =>
                    bif (!(r3.1.1:Bool)) then
                      some ((false,()),[])
                    else
                      Zc.l0 n n a0 false ((List.length (a0.1:(List (List Int)))):Int) 0 a0:=by kernel_rfl
def Z6.res:List Sh:=[.d (.int .i64)]
@[reducible] def Z6.R:Type:=Xf [.d (.int .i64)]×Z0
def Z6 (n:Nat) (a0:(den Zb)) (a1:(den Za)):Option Z6.R:=gc n 39 [.dat Zb a0 [],.dat Za a1 []] [.d (.int .i64)]
def Z6.l0 (n m0:Nat) (t0:(den Zb)) (t1:(den Za)) (t4:Int) (t5:Int) (o0:(den Zb)) (o1:(den Za)):Option Z6.R :=
  lpN n AT3 m0 (Jr 0 (Jf (run (gc n) n) AT2 (Xk Z6.fn Z6.res) (Xk Z6.fn Z6.res)) (Xk Z6.fn Z6.res))
    [(0,.dat Zb t0 []),(1,.dat Za t1 []),(2,.ptr 0 []),(3,.ptr 1 []),(4,.dat (.int .i64) t4 []),(5,.dat (.int .i64) t5 [])]
    [.box Zb o0 [],.box Za o1 []]
theorem Z6.l0_eq (n m0:Nat) (t0:(den Zb)) (t1:(den Za)) (t4:Int) (t5:Int) (o0:(den Zb)) (o1:(den Za)):Z6.l0 n (m0+1) t0 t1 t4 t5 o0 o1 =
  bif (decide ((o1.1:Int)=2)) then
    bif (decide (50<(IntKind.wrap .i64 (t5+1)))) then
      some ((99,()),[])
    else
      if (0:Int)≤(o1.2.1:Int)∧(o1.2.1:Int)<(((List.length (o0.2.2.2.1:(List (den Za)))):Nat):Int) then
      Z6.l0 n m0 t0 t1 t4 (IntKind.wrap .i64 (t5+1)) o0 (List.getD (o0.2.2.2.1:(List (den Za))) (Int.toNat (o1.2.1:Int)) (dft Za):(den Za))
      else none
  else
    some ((t5,()),[]):=by kernel_rfl
theorem Z6.eq (n:Nat) (a0:(den Zb)) (a1:(den Za)):Z6 (n+1) a0 a1 =
  Z6.l0 n n a0 a1 0 0 a0 a1:=by kernel_rfl
def Z7.res:List Sh:=[.d (.int .i64)]
@[reducible] def Z7.R:Type:=Xf [.d (.int .i64)]×Z0
def Z7 (n:Nat) (a0:(den Zb)) (a1:(den Za)):Option Z7.R:=gc n 40 [.dat Zb a0 [],.dat Za a1 []] [.d (.int .i64)]
def Z7.l0 (n m0:Nat) (t0:(den Zb)) (t1:(den Za)) (t4:Int) (t5:Int) (t6:Int) (o0:(den Zb)) (o1:(den Za)):Option Z7.R :=
  lpN n AT5 m0 (Jr 0 (Jf (run (gc n) n) AT4 (Xk Z7.fn Z7.res) (Xk Z7.fn Z7.res)) (Xk Z7.fn Z7.res))
    [(0,.dat Zb t0 []),(1,.dat Za t1 []),(2,.ptr 0 []),(3,.ptr 1 []),(4,.dat (.int .i64) t4 []),(5,.dat (.int .i64) t5 []),(6,.dat (.int .i64) t6 [])]
    [.box Zb o0 [],.box Za o1 []]
theorem Z7.l0_eq (n m0:Nat) (t0:(den Zb)) (t1:(den Za)) (t4:Int) (t5:Int) (t6:Int) (o0:(den Zb)) (o1:(den Za)):Z7.l0 n (m0+1) t0 t1 t4 t5 t6 o0 o1 =
  bif (decide (t6<((List.length (o0.2.2.2.1:(List (den Za)))):Int))) then
    if (0:Int)≤t6∧t6<(((List.length (o0.2.2.2.1:(List (den Za)))):Nat):Int) then
    bif (eqT Za (List.getD (o0.2.2.2.1:(List (den Za))) (Int.toNat t6) (dft Za):(den Za)) o1) then
      Z7.l0 n m0 t0 t1 t4 (IntKind.wrap .i64 (t5+1)) (IntKind.wrap .i64 (t6+1)) o0 o1
    else
      Z7.l0 n m0 t0 t1 t4 t5 (IntKind.wrap .i64 (t6+1)) o0 o1
    else none
  else
    some ((t5,()),[]):=by kernel_rfl
theorem Z7.eq (n:Nat) (a0:(den Zb)) (a1:(den Za)):Z7 (n+1) a0 a1 =
  Z7.l0 n n a0 a1 0 0 0 a0 a1:=by kernel_rfl
@[reducible] def Ys.R:Type:=Xf [.d (.int .i64)]×Z0
def Ys (n:Nat) (a0:(den Zb)) (a1:(den Za)):Option Ys.R:=gc n 41 [.dat Zb a0 [],.dat Za a1 []] [.d (.int .i64)]
theorem Ys.eq (n:Nat) (a0:(den Zb)) (a1:(den Za)):Ys (n+1) a0 a1 =
  if (0:Int)≤(a1.1:Int)∧(a1.1:Int)<((3:Nat):Int) then
  some (((List.getD ([(a0.1.2.2.2.2.2.1:Int),(a0.1.2.2.2.2.2.2.1:Int),(a0.1.2.2.2.2.2.2.2.1:Int)]:List Int) (Int.toNat (a1.1:Int)) (0:Int):Int),()),[])
  else none:=by kernel_rfl
def Zg.res:List Sh:=[.d .bool]
@[reducible] def Zg.R:Type:=Xf [.d .bool]×Z0
def Zg (n:Nat) (a0:(den Zb)):Option Zg.R:=gc n 22 [.dat Zb a0 []] [.d .bool]
def Zg.l0 (n m0:Nat) (t0:(den Zb)) (t2:Bool) (t4:Int) (o0:(den Zb)) (o1:(den Z3)):Option Zg.R :=
  lpN n AMm m0 (Jr 0 (Jf (run (gc n) n) ATu (Xk Zg.fn Zg.res) (Xk Zg.fn Zg.res)) (Xk Zg.fn Zg.res))
    [(0,.dat Zb t0 []),(1,.ptr 0 []),(2,.dat .bool t2 []),(3,.ptr 1 []),(4,.dat (.int .i64) t4 [])]
    [.box Zb o0 [],.box Z3 o1 []]
def Zg.l1 (n m0:Nat) (t0_1:(den Zb)) (t2_1:Bool) (t4_1:Int) (t5_1:Int) (o0_1:(den Zb)) (o1_1:(den Z3)):Option Zg.R :=
  lpN n AMo m0 (Jr 2 (Jf (run (gc n) n) AMn (Xk Zg.fn Zg.res) (Xk Zg.fn Zg.res)) (Xk Zg.fn Zg.res))
    [(0,.dat Zb t0_1 []),(1,.ptr 0 []),(2,.dat .bool t2_1 []),(3,.ptr 1 []),(4,.dat (.int .i64) t4_1 []),(5,.dat (.int .i64) t5_1 [])]
    [.box Zb o0_1 [],.box Z3 o1_1 []]
def Zg.l2 (n m0:Nat) (t0_2:(den Zb)) (t2_2:Bool) (t4_2:Int) (t5_2:Int) (t8_2:Int) (o0_2:(den Zb)) (o1_2:(den Z3)):Option Zg.R :=
  lpN n AMq m0 (Jr 4 (Jf (run (gc n) n) AMp (Xk Zg.fn Zg.res) (Xk Zg.fn Zg.res)) (Xk Zg.fn Zg.res))
    [(0,.dat Zb t0_2 []),(1,.ptr 0 []),(2,.dat .bool t2_2 []),(3,.ptr 1 []),(4,.dat (.int .i64) t4_2 []),(5,.dat (.int .i64) t5_2 []),(8,.dat (.int .i64) t8_2 [])]
    [.box Zb o0_2 [],.box Z3 o1_2 []]
theorem Zg.l0_eq (n m0:Nat) (t0:(den Zb)) (t2:Bool) (t4:Int) (o0:(den Zb)) (o1:(den Z3)):Zg.l0 n (m0+1) t0 t2 t4 o0 o1 =
  bif (decide (t4<((List.length (o0.2.1:(List Int))):Int))) then
    if (0:Int)≤t4∧t4<(((List.length (o0.2.1:(List Int))):Nat):Int) then
    Option.bind (Xe n (List.getD (o0.2.1:(List Int)) (Int.toNat t4) (0:Int):Int) ((List.length (o1.1:(List (List Int)))):Int)) fun r2 =>
    bif (!(r2.1.1:Bool)) then
      some ((false,()),[])
    else
      if (0:Int)≤t4∧t4<(((List.length (o0.2.2.1:(List Int))):Nat):Int) then
      Option.bind (Yr n (List.getD (o0.2.2.1:(List Int)) (Int.toNat t4) (0:Int):Int)) fun r3 =>
      bif (!(r3.1.1:Bool)) then
        some ((false,()),[])
      else
        Zg.l0 n m0 t0 t2 (IntKind.wrap .i64 (t4+1)) o0 o1
      else none
    else none
  else
    Zg.l1 n n t0 t2 t4 0 o0 o1:=by kernel_rfl
theorem Zg.l1_eq (n m0:Nat) (t0_1:(den Zb)) (t2_1:Bool) (t4_1:Int) (t5_1:Int) (o0_1:(den Zb)) (o1_1:(den Z3)):Zg.l1 n (m0+1) t0_1 t2_1 t4_1 t5_1 o0_1 o1_1 =
  bif (decide (t5_1<((List.length (o0_1.2.2.2.1:(List (den Za)))):Int))) then
    if (0:Int)≤t5_1∧t5_1<(((List.length (o0_1.2.2.2.1:(List (den Za)))):Nat):Int) then
    bif (decide (((List.getD (o0_1.2.2.2.1:(List (den Za))) (Int.toNat t5_1) (dft Za):(den Za)).1:Int)=0)) then
      Option.bind (Xe n ((List.getD (o0_1.2.2.2.1:(List (den Za))) (Int.toNat t5_1) (dft Za):(den Za)).2.1:Int) ((List.length (o1_1.1:(List (List Int)))):Int)) fun r4 =>
      bif (r4.1.1:Bool) then
        Zg.l1 n m0 t0_1 t2_1 t4_1 (IntKind.wrap .i64 (t5_1+1)) o0_1 o1_1
      else
        bif (decide (((List.getD (o0_1.2.2.2.1:(List (den Za))) (Int.toNat t5_1) (dft Za):(den Za)).1:Int)=1)) then
          Option.bind (Xe n ((List.getD (o0_1.2.2.2.1:(List (den Za))) (Int.toNat t5_1) (dft Za):(den Za)).2.1:Int) ((List.length (o1_1.2.1:(List Int))):Int)) fun r5 =>
          bif (r5.1.1:Bool) then
            Zg.l1 n m0 t0_1 t2_1 t4_1 (IntKind.wrap .i64 (t5_1+1)) o0_1 o1_1
          else
            bif (decide (((List.getD (o0_1.2.2.2.1:(List (den Za))) (Int.toNat t5_1) (dft Za):(den Za)).1:Int)=2)) then
              Option.bind (Xe n ((List.getD (o0_1.2.2.2.1:(List (den Za))) (Int.toNat t5_1) (dft Za):(den Za)).2.1:Int) ((List.length (o1_1.2.2.2.1:(List Int))):Int)) fun r6 =>
              bif (r6.1.1:Bool) then
                if (0:Int)≤((List.getD (o0_1.2.2.2.1:(List (den Za))) (Int.toNat t5_1) (dft Za):(den Za)).2.1:Int)∧((List.getD (o0_1.2.2.2.1:(List (den Za))) (Int.toNat t5_1) (dft Za):(den Za)).2.1:Int)<(((List.length (o1_1.2.2.2.2.1:(List Bool))):Nat):Int) then
                bif (!(List.getD (o1_1.2.2.2.2.1:(List Bool)) (Int.toNat ((List.getD (o0_1.2.2.2.1:(List (den Za))) (Int.toNat t5_1) (dft Za):(den Za)).2.1:Int)) false:Bool)) then
                  some ((false,()),[])
                else
                  Zg.l1 n m0 t0_1 t2_1 t4_1 (IntKind.wrap .i64 (t5_1+1)) o0_1 o1_1
                else none
              else
                some ((false,()),[])
            else
              some ((false,()),[])
        else
          bif (decide (((List.getD (o0_1.2.2.2.1:(List (den Za))) (Int.toNat t5_1) (dft Za):(den Za)).1:Int)=2)) then
            Option.bind (Xe n ((List.getD (o0_1.2.2.2.1:(List (den Za))) (Int.toNat t5_1) (dft Za):(den Za)).2.1:Int) ((List.length (o1_1.2.2.2.1:(List Int))):Int)) fun r7 =>
            bif (r7.1.1:Bool) then
              if (0:Int)≤((List.getD (o0_1.2.2.2.1:(List (den Za))) (Int.toNat t5_1) (dft Za):(den Za)).2.1:Int)∧((List.getD (o0_1.2.2.2.1:(List (den Za))) (Int.toNat t5_1) (dft Za):(den Za)).2.1:Int)<(((List.length (o1_1.2.2.2.2.1:(List Bool))):Nat):Int) then
              bif (!(List.getD (o1_1.2.2.2.2.1:(List Bool)) (Int.toNat ((List.getD (o0_1.2.2.2.1:(List (den Za))) (Int.toNat t5_1) (dft Za):(den Za)).2.1:Int)) false:Bool)) then
                some ((false,()),[])
              else
                Zg.l1 n m0 t0_1 t2_1 t4_1 (IntKind.wrap .i64 (t5_1+1)) o0_1 o1_1
              else none
            else
              some ((false,()),[])
          else
            some ((false,()),[])
    else
      bif (decide (((List.getD (o0_1.2.2.2.1:(List (den Za))) (Int.toNat t5_1) (dft Za):(den Za)).1:Int)=1)) then
        Option.bind (Xe n ((List.getD (o0_1.2.2.2.1:(List (den Za))) (Int.toNat t5_1) (dft Za):(den Za)).2.1:Int) ((List.length (o1_1.2.1:(List Int))):Int)) fun r8 =>
        bif (r8.1.1:Bool) then
          Zg.l1 n m0 t0_1 t2_1 t4_1 (IntKind.wrap .i64 (t5_1+1)) o0_1 o1_1
        else
          bif (decide (((List.getD (o0_1.2.2.2.1:(List (den Za))) (Int.toNat t5_1) (dft Za):(den Za)).1:Int)=2)) then
            Option.bind (Xe n ((List.getD (o0_1.2.2.2.1:(List (den Za))) (Int.toNat t5_1) (dft Za):(den Za)).2.1:Int) ((List.length (o1_1.2.2.2.1:(List Int))):Int)) fun r9 =>
            bif (r9.1.1:Bool) then
              if (0:Int)≤((List.getD (o0_1.2.2.2.1:(List (den Za))) (Int.toNat t5_1) (dft Za):(den Za)).2.1:Int)∧((List.getD (o0_1.2.2.2.1:(List (den Za))) (Int.toNat t5_1) (dft Za):(den Za)).2.1:Int)<(((List.length (o1_1.2.2.2.2.1:(List Bool))):Nat):Int) then
              bif (!(List.getD (o1_1.2.2.2.2.1:(List Bool)) (Int.toNat ((List.getD (o0_1.2.2.2.1:(List (den Za))) (Int.toNat t5_1) (dft Za):(den Za)).2.1:Int)) false:Bool)) then
                some ((false,()),[])
              else
                Zg.l1 n m0 t0_1 t2_1 t4_1 (IntKind.wrap .i64 (t5_1+1)) o0_1 o1_1
              else none
            else
              some ((false,()),[])
          else
            some ((false,()),[])
      else
        bif (decide (((List.getD (o0_1.2.2.2.1:(List (den Za))) (Int.toNat t5_1) (dft Za):(den Za)).1:Int)=2)) then
          Option.bind (Xe n ((List.getD (o0_1.2.2.2.1:(List (den Za))) (Int.toNat t5_1) (dft Za):(den Za)).2.1:Int) ((List.length (o1_1.2.2.2.1:(List Int))):Int)) fun r10 =>
          bif (r10.1.1:Bool) then
            if (0:Int)≤((List.getD (o0_1.2.2.2.1:(List (den Za))) (Int.toNat t5_1) (dft Za):(den Za)).2.1:Int)∧((List.getD (o0_1.2.2.2.1:(List (den Za))) (Int.toNat t5_1) (dft Za):(den Za)).2.1:Int)<(((List.length (o1_1.2.2.2.2.1:(List Bool))):Nat):Int) then
            bif (!(List.getD (o1_1.2.2.2.2.1:(List Bool)) (Int.toNat ((List.getD (o0_1.2.2.2.1:(List (den Za))) (Int.toNat t5_1) (dft Za):(den Za)).2.1:Int)) false:Bool)) then
              some ((false,()),[])
            else
              Zg.l1 n m0 t0_1 t2_1 t4_1 (IntKind.wrap .i64 (t5_1+1)) o0_1 o1_1
            else none
          else
            some ((false,()),[])
        else
          some ((false,()),[])
    else none
  else
    Zg.l2 n n t0_1 t2_1 t4_1 t5_1 0 o0_1 o1_1:=by kernel_rfl
theorem Zg.l2_eq (n m0:Nat) (t0_2:(den Zb)) (t2_2:Bool) (t4_2:Int) (t5_2:Int) (t8_2:Int) (o0_2:(den Zb)) (o1_2:(den Z3)):Zg.l2 n (m0+1) t0_2 t2_2 t4_2 t5_2 t8_2 o0_2 o1_2 =
  bif (decide (t8_2<((List.length (o0_2.2.2.2.1:(List (den Za)))):Int))) then
    if (0:Int)≤t8_2∧t8_2<(((List.length (o0_2.2.2.2.1:(List (den Za)))):Nat):Int) then
    Option.bind (Z6 n o0_2 (List.getD (o0_2.2.2.2.1:(List (den Za))) (Int.toNat t8_2) (dft Za):(den Za))) fun r11 =>
    bif (decide (4<(r11.1.1:Int))) then
      some ((false,()),[])
    else
      if (0:Int)≤t8_2∧t8_2<(((List.length (o0_2.2.2.2.1:(List (den Za)))):Nat):Int) then
      Option.bind (Z7 n o0_2 (List.getD (o0_2.2.2.2.1:(List (den Za))) (Int.toNat t8_2) (dft Za):(den Za))) fun r12 =>
      if (0:Int)≤t8_2∧t8_2<(((List.length (o0_2.2.2.2.1:(List (den Za)))):Nat):Int) then
      Option.bind (Ys n o0_2 (List.getD (o0_2.2.2.2.1:(List (den Za))) (Int.toNat t8_2) (dft Za):(den Za))) fun r13 =>
      bif (decide ((r13.1.1:Int)<(r12.1.1:Int))) then
        some ((false,()),[])
      else
        Zg.l2 n m0 t0_2 t2_2 t4_2 t5_2 (IntKind.wrap .i64 (t8_2+1)) o0_2 o1_2
      else none
      else none
    else none
  else
    some ((true,()),[]):=by kernel_rfl
theorem Zg.eq (n:Nat) (a0:(den Zb)):Zg (n+1) a0 =
  Option.bind (Zc n a0.1) fun r1 =>
  bif (!(r1.1.1:Bool)) then
    some ((false,()),[])
  else
    bif (!(decide (((List.length (a0.2.1:(List Int))):Int)=((List.length (a0.1.2.1:(List Int))):Int)))) then
      some ((false,()),[])
    else
      bif (!(decide (((List.length (a0.2.2.1:(List Int))):Int)=((List.length (a0.1.2.1:(List Int))):Int)))) then
        some ((false,()),[])
      else
        bif (!(decide (((List.length (a0.2.2.2.1:(List (den Za)))):Int)=((List.length (a0.1.2.2.2.1:(List Int))):Int)))) then
          some ((false,()),[])
        else
          Zg.l0 n n a0 false 0 a0 a0.1:=by kernel_rfl
@[reducible] def Yk.R:Type:=Xf [.d .bool]×Z0
def Yk (n:Nat) (a0:(den Zb)):Option Yk.R:=gc n 6 [.dat Zb a0 []] [.d .bool]
theorem Yk.eq (n:Nat) (a0:(den Zb)):Yk (n+1) a0 =
  Option.bind (Yj n a0) fun r1 =>
  bif (r1.1.1:Bool) then
    Option.bind (Zg n a0) fun r2 =>
    some (((r2.1.1:Bool),()),[])
  else
    some ((false,()),[]):=by kernel_rfl
@[reducible] def Yi.R:Type:=Xf [.d .bool]×Z0
def Yi (n:Nat) (a0:(den Zz)):Option Yi.R:=gc n 7 [.dat Zz a0 []] [.d .bool]
theorem Yi.eq (n:Nat) (a0:(den Zz)):Yi (n+1) a0 =
  bif (decide (((List.length (a0.2.2.2.2.2.1:(List Int))):Int)≤40)) then
    some (((decide (((List.length (a0.2.2.2.2.2.2.2.1:(List Int))):Int)≤40)),()),[])
  else
    some ((false,()),[]):=by kernel_rfl
@[reducible] def Zf.R:Type:=Xf [.d .bool]×Z0
def Zf (n:Nat) (a0:Int) (a1:Bool):Option Zf.R:=gc n 23 [.dat (.int .i64) a0 [],.dat .bool a1 []] [.d .bool]
theorem Zf.eq (n:Nat) (a0:Int) (a1:Bool):Zf (n+1) a0 a1 =
  bif (!a1) then
    some (((decide (a0=0)),()),[])
  else
    bif (decide (0≤a0)) then
      some (((decide (a0≤1073741824)),()),[])
    else
      some ((false,()),[]):=by kernel_rfl
def Zh.res:List Sh:=[.d .bool]
@[reducible] def Zh.R:Type:=Xf [.d .bool]×Z0
def Zh (n:Nat) (a0:(List Int)) (a1:Bool):Option Zh.R:=gc n 24 [.dat (.sl (.int .i64)) a0 [],.dat .bool a1 []] [.d .bool]
def Zh.l0 (n m0:Nat) (t0:(List Int)) (t1:Bool) (t4:Bool) (t5:Int):Option Zh.R :=
  lpN n AMr m0 (Jr 0 (Jf (run (gc n) n) ATv (Xk Zh.fn Zh.res) (Xk Zh.fn Zh.res)) (Xk Zh.fn Zh.res))
    [(0,.dat (.sl (.int .i64)) t0 []),(1,.dat .bool t1 []),(4,.dat .bool t4 []),(5,.dat (.int .i64) t5 [])]
    []
theorem Zh.l0_eq (n m0:Nat) (t0:(List Int)) (t1:Bool) (t4:Bool) (t5:Int):Zh.l0 n (m0+1) t0 t1 t4 t5 =
  bif (decide (t5<((List.length t0):Int))) then
    if (0:Int)≤t5∧t5<(((List.length t0):Nat):Int) then
    Option.bind (Zf n (List.getD t0 (Int.toNat t5) (0:Int):Int) true) fun r1 =>
    bif (!(r1.1.1:Bool)) then
      some ((false,()),[])
    else
      Zh.l0 n m0 t0 t1 t4 (IntKind.wrap .i64 (t5+1))
    else none
  else
    some (((decide (((List.length t0):Int)≤16)),()),[]):=by kernel_rfl
theorem Zh.eq (n:Nat) (a0:(List Int)) (a1:Bool):Zh (n+1) a0 a1 =
  bif (!a1) then
    some (((decide (((List.length a0):Int)=0)),()),[])
  else
    Zh.l0 n n a0 a1 false 0:=by kernel_rfl
@[reducible] def Ye.R:Type:=Xf [.d .bool]×Z0
def Ye (n:Nat) (a0:(den Zz)):Option Ye.R:=gc n 8 [.dat Zz a0 []] [.d .bool]
theorem Ye.eq (n:Nat) (a0:(den Zz)):Ye (n+1) a0 =
  bif (decide ((a0.1:Int)<1)) then
    some ((false,()),[])
  else
    bif (decide (10<(a0.1:Int))) then
      some ((false,()),[])
    else
      bif (decide ((a0.2.1:Int)<0)) then
        some ((false,()),[])
      else
        bif (decide (3<(a0.2.1:Int))) then
          some ((false,()),[])
        else
          bif (!(decide ((a0.2.1:Int)=0))) then
            bif (decide (2<(a0.1:Int))) then
              some ((false,()),[])
            else
              bif (decide (3≤(a0.1:Int))) then
                Option.bind (Zf n (a0.2.2.1:Int) (decide ((a0.1:Int)≤7))) fun r1 =>
                bif (r1.1.1:Bool) then
                  bif (decide ((a0.1:Int)=5)) then
                    Option.bind (Zf n (a0.2.2.2.1:Int) true) fun r2 =>
                    bif (r2.1.1:Bool) then
                      bif (decide ((a0.1:Int)=2)) then
                        Option.bind (Zf n (a0.2.2.2.2.1:Int) true) fun r3 =>
                        bif (r3.1.1:Bool) then
                          Option.bind (Zf n (a0.2.2.2.2.2.2.1:Int) (decide ((a0.1:Int)=8))) fun r4 =>
                          bif (r4.1.1:Bool) then
                            Option.bind (Zf n (a0.2.2.2.2.2.2.2.2.1:Int) (decide ((a0.1:Int)=8))) fun r5 =>
                            bif (r5.1.1:Bool) then
                              Option.bind (Zh n (a0.2.2.2.2.2.1:(List Int)) (decide ((a0.1:Int)=8))) fun r6 =>
                              bif (r6.1.1:Bool) then
                                Option.bind (Zh n (a0.2.2.2.2.2.2.2.1:(List Int)) (decide ((a0.1:Int)=8))) fun r7 =>
                                some (((r7.1.1:Bool),()),[])
                              else
                                some ((false,()),[])
                            else
                              some ((false,()),[])
                          else
                            some ((false,()),[])
                        else
                          some ((false,()),[])
                      else
                        bif (decide ((a0.1:Int)=7)) then
                          Option.bind (Zf n (a0.2.2.2.2.1:Int) true) fun r8 =>
                          bif (r8.1.1:Bool) then
                            Option.bind (Zf n (a0.2.2.2.2.2.2.1:Int) (decide ((a0.1:Int)=8))) fun r9 =>
                            bif (r9.1.1:Bool) then
                              Option.bind (Zf n (a0.2.2.2.2.2.2.2.2.1:Int) (decide ((a0.1:Int)=8))) fun r10 =>
                              bif (r10.1.1:Bool) then
                                Option.bind (Zh n (a0.2.2.2.2.2.1:(List Int)) (decide ((a0.1:Int)=8))) fun r11 =>
                                bif (r11.1.1:Bool) then
                                  Option.bind (Zh n (a0.2.2.2.2.2.2.2.1:(List Int)) (decide ((a0.1:Int)=8))) fun r12 =>
                                  some (((r12.1.1:Bool),()),[])
                                else
                                  some ((false,()),[])
                              else
                                some ((false,()),[])
                            else
                              some ((false,()),[])
                          else
                            some ((false,()),[])
                        else
                          Option.bind (Zf n (a0.2.2.2.2.1:Int) (decide ((a0.1:Int)=8))) fun r13 =>
                          bif (r13.1.1:Bool) then
                            Option.bind (Zf n (a0.2.2.2.2.2.2.1:Int) (decide ((a0.1:Int)=8))) fun r14 =>
                            bif (r14.1.1:Bool) then
                              Option.bind (Zf n (a0.2.2.2.2.2.2.2.2.1:Int) (decide ((a0.1:Int)=8))) fun r15 =>
                              bif (r15.1.1:Bool) then
                                Option.bind (Zh n (a0.2.2.2.2.2.1:(List Int)) (decide ((a0.1:Int)=8))) fun r16 =>
                                bif (r16.1.1:Bool) then
                                  Option.bind (Zh n (a0.2.2.2.2.2.2.2.1:(List Int)) (decide ((a0.1:Int)=8))) fun r17 =>
                                  some (((r17.1.1:Bool),()),[])
                                else
                                  some ((false,()),[])
                              else
                                some ((false,()),[])
                            else
                              some ((false,()),[])
                          else
                            some ((false,()),[])
                    else
                      some ((false,()),[])
                  else
                    Option.bind (Zf n (a0.2.2.2.1:Int) (decide ((a0.1:Int)=6))) fun r18 =>
                    bif (r18.1.1:Bool) then
                      bif (decide ((a0.1:Int)=2)) then
                        Option.bind (Zf n (a0.2.2.2.2.1:Int) true) fun r19 =>
                        bif (r19.1.1:Bool) then
                          Option.bind (Zf n (a0.2.2.2.2.2.2.1:Int) (decide ((a0.1:Int)=8))) fun r20 =>
                          bif (r20.1.1:Bool) then
                            Option.bind (Zf n (a0.2.2.2.2.2.2.2.2.1:Int) (decide ((a0.1:Int)=8))) fun r21 =>
                            bif (r21.1.1:Bool) then
                              Option.bind (Zh n (a0.2.2.2.2.2.1:(List Int)) (decide ((a0.1:Int)=8))) fun r22 =>
                              bif (r22.1.1:Bool) then
                                Option.bind (Zh n (a0.2.2.2.2.2.2.2.1:(List Int)) (decide ((a0.1:Int)=8))) fun r23 =>
                                some (((r23.1.1:Bool),()),[])
                              else
                                some ((false,()),[])
                            else
                              some ((false,()),[])
                          else
                            some ((false,()),[])
                        else
                          some ((false,()),[])
                      else
                        bif (decide ((a0.1:Int)=7)) then
                          Option.bind (Zf n (a0.2.2.2.2.1:Int) true) fun r24 =>
                          bif (r24.1.1:Bool) then
                            Option.bind (Zf n (a0.2.2.2.2.2.2.1:Int) (decide ((a0.1:Int)=8))) fun r25 =>
                            bif (r25.1.1:Bool) then
                              Option.bind (Zf n (a0.2.2.2.2.2.2.2.2.1:Int) (decide ((a0.1:Int)=8))) fun r26 =>
                              bif (r26.1.1:Bool) then
                                Option.bind (Zh n (a0.2.2.2.2.2.1:(List Int)) (decide ((a0.1:Int)=8))) fun r27 =>
                                bif (r27.1.1:Bool) then
                                  Option.bind (Zh n (a0.2.2.2.2.2.2.2.1:(List Int)) (decide ((a0.1:Int)=8))) fun r28 =>
                                  some (((r28.1.1:Bool),()),[])
                                else
                                  some ((false,()),[])
                              else
                                some ((false,()),[])
                            else
                              some ((false,()),[])
                          else
                            some ((false,()),[])
                        else
                          Option.bind (Zf n (a0.2.2.2.2.1:Int) (decide ((a0.1:Int)=8))) fun r29 =>
                          bif (r29.1.1:Bool) then
                            Option.bind (Zf n (a0.2.2.2.2.2.2.1:Int) (decide ((a0.1:Int)=8))) fun r30 =>
                            bif (r30.1.1:Bool) then
                              Option.bind (Zf n (a0.2.2.2.2.2.2.2.2.1:Int) (decide ((a0.1:Int)=8))) fun r31 =>
                              bif (r31.1.1:Bool) then
                                Option.bind (Zh n (a0.2.2.2.2.2.1:(List Int)) (decide ((a0.1:Int)=8))) fun r32 =>
                                bif (r32.1.1:Bool) then
                                  Option.bind (Zh n (a0.2.2.2.2.2.2.2.1:(List Int)) (decide ((a0.1:Int)=8))) fun r33 =>
                                  some (((r33.1.1:Bool),()),[])
                                else
                                  some ((false,()),[])
                              else
                                some ((false,()),[])
                            else
                              some ((false,()),[])
                          else
                            some ((false,()),[])
                    else
                      some ((false,()),[])
                else
                  some ((false,()),[])
              else
                Option.bind (Zf n (a0.2.2.1:Int) false) fun r34 =>
                bif (r34.1.1:Bool) then
                  bif (decide ((a0.1:Int)=5)) then
                    Option.bind (Zf n (a0.2.2.2.1:Int) true) fun r35 =>
                    bif (r35.1.1:Bool) then
                      bif (decide ((a0.1:Int)=2)) then
                        Option.bind (Zf n (a0.2.2.2.2.1:Int) true) fun r36 =>
                        bif (r36.1.1:Bool) then
                          Option.bind (Zf n (a0.2.2.2.2.2.2.1:Int) (decide ((a0.1:Int)=8))) fun r37 =>
                          bif (r37.1.1:Bool) then
                            Option.bind (Zf n (a0.2.2.2.2.2.2.2.2.1:Int) (decide ((a0.1:Int)=8))) fun r38 =>
                            bif (r38.1.1:Bool) then
                              Option.bind (Zh n (a0.2.2.2.2.2.1:(List Int)) (decide ((a0.1:Int)=8))) fun r39 =>
                              bif (r39.1.1:Bool) then
                                Option.bind (Zh n (a0.2.2.2.2.2.2.2.1:(List Int)) (decide ((a0.1:Int)=8))) fun r40 =>
                                some (((r40.1.1:Bool),()),[])
                              else
                                some ((false,()),[])
                            else
                              some ((false,()),[])
                          else
                            some ((false,()),[])
                        else
                          some ((false,()),[])
                      else
                        bif (decide ((a0.1:Int)=7)) then
                          Option.bind (Zf n (a0.2.2.2.2.1:Int) true) fun r41 =>
                          bif (r41.1.1:Bool) then
                            Option.bind (Zf n (a0.2.2.2.2.2.2.1:Int) (decide ((a0.1:Int)=8))) fun r42 =>
                            bif (r42.1.1:Bool) then
                              Option.bind (Zf n (a0.2.2.2.2.2.2.2.2.1:Int) (decide ((a0.1:Int)=8))) fun r43 =>
                              bif (r43.1.1:Bool) then
                                Option.bind (Zh n (a0.2.2.2.2.2.1:(List Int)) (decide ((a0.1:Int)=8))) fun r44 =>
                                bif (r44.1.1:Bool) then
                                  Option.bind (Zh n (a0.2.2.2.2.2.2.2.1:(List Int)) (decide ((a0.1:Int)=8))) fun r45 =>
                                  some (((r45.1.1:Bool),()),[])
                                else
                                  some ((false,()),[])
                              else
                                some ((false,()),[])
                            else
                              some ((false,()),[])
                          else
                            some ((false,()),[])
                        else
                          Option.bind (Zf n (a0.2.2.2.2.1:Int) (decide ((a0.1:Int)=8))) fun r46 =>
                          bif (r46.1.1:Bool) then
                            Option.bind (Zf n (a0.2.2.2.2.2.2.1:Int) (decide ((a0.1:Int)=8))) fun r47 =>
                            bif (r47.1.1:Bool) then
                              Option.bind (Zf n (a0.2.2.2.2.2.2.2.2.1:Int) (decide ((a0.1:Int)=8))) fun r48 =>
                              bif (r48.1.1:Bool) then
                                Option.bind (Zh n (a0.2.2.2.2.2.1:(List Int)) (decide ((a0.1:Int)=8))) fun r49 =>
                                bif (r49.1.1:Bool) then
                                  Option.bind (Zh n (a0.2.2.2.2.2.2.2.1:(List Int)) (decide ((a0.1:Int)=8))) fun r50 =>
                                  some (((r50.1.1:Bool),()),[])
                                else
                                  some ((false,()),[])
                              else
                                some ((false,()),[])
                            else
                              some ((false,()),[])
                          else
                            some ((false,()),[])
                    else
                      some ((false,()),[])
                  else
                    Option.bind (Zf n (a0.2.2.2.1:Int) (decide ((a0.1:Int)=6))) fun r51 =>
                    bif (r51.1.1:Bool) then
                      bif (decide ((a0.1:Int)=2)) then
                        Option.bind (Zf n (a0.2.2.2.2.1:Int) true) fun r52 =>
                        bif (r52.1.1:Bool) then
                          Option.bind (Zf n (a0.2.2.2.2.2.2.1:Int) (decide ((a0.1:Int)=8))) fun r53 =>
                          bif (r53.1.1:Bool) then
                            Option.bind (Zf n (a0.2.2.2.2.2.2.2.2.1:Int) (decide ((a0.1:Int)=8))) fun r54 =>
                            bif (r54.1.1:Bool) then
                              Option.bind (Zh n (a0.2.2.2.2.2.1:(List Int)) (decide ((a0.1:Int)=8))) fun r55 =>
                              bif (r55.1.1:Bool) then
                                Option.bind (Zh n (a0.2.2.2.2.2.2.2.1:(List Int)) (decide ((a0.1:Int)=8))) fun r56 =>
                                some (((r56.1.1:Bool),()),[])
                              else
                                some ((false,()),[])
                            else
                              some ((false,()),[])
                          else
                            some ((false,()),[])
                        else
                          some ((false,()),[])
                      else
                        bif (decide ((a0.1:Int)=7)) then
                          Option.bind (Zf n (a0.2.2.2.2.1:Int) true) fun r57 =>
                          bif (r57.1.1:Bool) then
                            Option.bind (Zf n (a0.2.2.2.2.2.2.1:Int) (decide ((a0.1:Int)=8))) fun r58 =>
                            bif (r58.1.1:Bool) then
                              Option.bind (Zf n (a0.2.2.2.2.2.2.2.2.1:Int) (decide ((a0.1:Int)=8))) fun r59 =>
                              bif (r59.1.1:Bool) then
                                Option.bind (Zh n (a0.2.2.2.2.2.1:(List Int)) (decide ((a0.1:Int)=8))) fun r60 =>
                                bif (r60.1.1:Bool) then
                                  Option.bind (Zh n (a0.2.2.2.2.2.2.2.1:(List Int)) (decide ((a0.1:Int)=8))) fun r61 =>
                                  some (((r61.1.1:Bool),()),[])
                                else
                                  some ((false,()),[])
                              else
                                some ((false,()),[])
                            else
                              some ((false,()),[])
                          else
                            some ((false,()),[])
                        else
                          Option.bind (Zf n (a0.2.2.2.2.1:Int) (decide ((a0.1:Int)=8))) fun r62 =>
                          bif (r62.1.1:Bool) then
                            Option.bind (Zf n (a0.2.2.2.2.2.2.1:Int) (decide ((a0.1:Int)=8))) fun r63 =>
                            bif (r63.1.1:Bool) then
                              Option.bind (Zf n (a0.2.2.2.2.2.2.2.2.1:Int) (decide ((a0.1:Int)=8))) fun r64 =>
                              bif (r64.1.1:Bool) then
                                Option.bind (Zh n (a0.2.2.2.2.2.1:(List Int)) (decide ((a0.1:Int)=8))) fun r65 =>
                                bif (r65.1.1:Bool) then
                                  Option.bind (Zh n (a0.2.2.2.2.2.2.2.1:(List Int)) (decide ((a0.1:Int)=8))) fun r66 =>
                                  some (((r66.1.1:Bool),()),[])
                                else
                                  some ((false,()),[])
                              else
                                some ((false,()),[])
                            else
                              some ((false,()),[])
                          else
                            some ((false,()),[])
                    else
                      some ((false,()),[])
                else
                  some ((false,()),[])
          else
            bif (decide (3≤(a0.1:Int))) then
              Option.bind (Zf n (a0.2.2.1:Int) (decide ((a0.1:Int)≤7))) fun r67 =>
              bif (r67.1.1:Bool) then
                bif (decide ((a0.1:Int)=5)) then
                  Option.bind (Zf n (a0.2.2.2.1:Int) true) fun r68 =>
                  bif (r68.1.1:Bool) then
                    bif (decide ((a0.1:Int)=2)) then
                      Option.bind (Zf n (a0.2.2.2.2.1:Int) true) fun r69 =>
                      bif (r69.1.1:Bool) then
                        Option.bind (Zf n (a0.2.2.2.2.2.2.1:Int) (decide ((a0.1:Int)=8))) fun r70 =>
                        bif (r70.1.1:Bool) then
                          Option.bind (Zf n (a0.2.2.2.2.2.2.2.2.1:Int) (decide ((a0.1:Int)=8))) fun r71 =>
                          bif (r71.1.1:Bool) then
                            Option.bind (Zh n (a0.2.2.2.2.2.1:(List Int)) (decide ((a0.1:Int)=8))) fun r72 =>
                            bif (r72.1.1:Bool) then
                              Option.bind (Zh n (a0.2.2.2.2.2.2.2.1:(List Int)) (decide ((a0.1:Int)=8))) fun r73 =>
                              some (((r73.1.1:Bool),()),[])
                            else
                              some ((false,()),[])
                          else
                            some ((false,()),[])
                        else
                          some ((false,()),[])
                      else
                        some ((false,()),[])
                    else
                      bif (decide ((a0.1:Int)=7)) then
                        Option.bind (Zf n (a0.2.2.2.2.1:Int) true) fun r74 =>
                        bif (r74.1.1:Bool) then
                          Option.bind (Zf n (a0.2.2.2.2.2.2.1:Int) (decide ((a0.1:Int)=8))) fun r75 =>
                          bif (r75.1.1:Bool) then
                            Option.bind (Zf n (a0.2.2.2.2.2.2.2.2.1:Int) (decide ((a0.1:Int)=8))) fun r76 =>
                            bif (r76.1.1:Bool) then
                              Option.bind (Zh n (a0.2.2.2.2.2.1:(List Int)) (decide ((a0.1:Int)=8))) fun r77 =>
                              bif (r77.1.1:Bool) then
                                Option.bind (Zh n (a0.2.2.2.2.2.2.2.1:(List Int)) (decide ((a0.1:Int)=8))) fun r78 =>
                                some (((r78.1.1:Bool),()),[])
                              else
                                some ((false,()),[])
                            else
                              some ((false,()),[])
                          else
                            some ((false,()),[])
                        else
                          some ((false,()),[])
                      else
                        Option.bind (Zf n (a0.2.2.2.2.1:Int) (decide ((a0.1:Int)=8))) fun r79 =>
                        bif (r79.1.1:Bool) then
                          Option.bind (Zf n (a0.2.2.2.2.2.2.1:Int) (decide ((a0.1:Int)=8))) fun r80 =>
                          bif (r80.1.1:Bool) then
                            Option.bind (Zf n (a0.2.2.2.2.2.2.2.2.1:Int) (decide ((a0.1:Int)=8))) fun r81 =>
                            bif (r81.1.1:Bool) then
                              Option.bind (Zh n (a0.2.2.2.2.2.1:(List Int)) (decide ((a0.1:Int)=8))) fun r82 =>
                              bif (r82.1.1:Bool) then
                                Option.bind (Zh n (a0.2.2.2.2.2.2.2.1:(List Int)) (decide ((a0.1:Int)=8))) fun r83 =>
                                some (((r83.1.1:Bool),()),[])
                              else
                                some ((false,()),[])
                            else
                              some ((false,()),[])
                          else
                            some ((false,()),[])
                        else
                          some ((false,()),[])
                  else
                    some ((false,()),[])
                else
                  Option.bind (Zf n (a0.2.2.2.1:Int) (decide ((a0.1:Int)=6))) fun r84 =>
                  bif (r84.1.1:Bool) then
                    bif (decide ((a0.1:Int)=2)) then
                      Option.bind (Zf n (a0.2.2.2.2.1:Int) true) fun r85 =>
                      bif (r85.1.1:Bool) then
                        Option.bind (Zf n (a0.2.2.2.2.2.2.1:Int) (decide ((a0.1:Int)=8))) fun r86 =>
                        bif (r86.1.1:Bool) then
                          Option.bind (Zf n (a0.2.2.2.2.2.2.2.2.1:Int) (decide ((a0.1:Int)=8))) fun r87 =>
                          bif (r87.1.1:Bool) then
                            Option.bind (Zh n (a0.2.2.2.2.2.1:(List Int)) (decide ((a0.1:Int)=8))) fun r88 =>
                            bif (r88.1.1:Bool) then
                              Option.bind (Zh n (a0.2.2.2.2.2.2.2.1:(List Int)) (decide ((a0.1:Int)=8))) fun r89 =>
                              some (((r89.1.1:Bool),()),[])
                            else
                              some ((false,()),[])
                          else
                            some ((false,()),[])
                        else
                          some ((false,()),[])
                      else
                        some ((false,()),[])
                    else
                      bif (decide ((a0.1:Int)=7)) then
                        Option.bind (Zf n (a0.2.2.2.2.1:Int) true) fun r90 =>
                        bif (r90.1.1:Bool) then
                          Option.bind (Zf n (a0.2.2.2.2.2.2.1:Int) (decide ((a0.1:Int)=8))) fun r91 =>
                          bif (r91.1.1:Bool) then
                            Option.bind (Zf n (a0.2.2.2.2.2.2.2.2.1:Int) (decide ((a0.1:Int)=8))) fun r92 =>
                            bif (r92.1.1:Bool) then
                              Option.bind (Zh n (a0.2.2.2.2.2.1:(List Int)) (decide ((a0.1:Int)=8))) fun r93 =>
                              bif (r93.1.1:Bool) then
                                Option.bind (Zh n (a0.2.2.2.2.2.2.2.1:(List Int)) (decide ((a0.1:Int)=8))) fun r94 =>
                                some (((r94.1.1:Bool),()),[])
                              else
                                some ((false,()),[])
                            else
                              some ((false,()),[])
                          else
                            some ((false,()),[])
                        else
                          some ((false,()),[])
                      else
                        Option.bind (Zf n (a0.2.2.2.2.1:Int) (decide ((a0.1:Int)=8))) fun r95 =>
                        bif (r95.1.1:Bool) then
                          Option.bind (Zf n (a0.2.2.2.2.2.2.1:Int) (decide ((a0.1:Int)=8))) fun r96 =>
                          bif (r96.1.1:Bool) then
                            Option.bind (Zf n (a0.2.2.2.2.2.2.2.2.1:Int) (decide ((a0.1:Int)=8))) fun r97 =>
                            bif (r97.1.1:Bool) then
                              Option.bind (Zh n (a0.2.2.2.2.2.1:(List Int)) (decide ((a0.1:Int)=8))) fun r98 =>
                              bif (r98.1.1:Bool) then
                                Option.bind (Zh n (a0.2.2.2.2.2.2.2.1:(List Int)) (decide ((a0.1:Int)=8))) fun r99 =>
                                some (((r99.1.1:Bool),()),[])
                              else
                                some ((false,()),[])
                            else
                              some ((false,()),[])
                          else
                            some ((false,()),[])
                        else
                          some ((false,()),[])
                  else
                    some ((false,()),[])
              else
                some ((false,()),[])
            else
              Option.bind (Zf n (a0.2.2.1:Int) false) fun r100 =>
              bif (r100.1.1:Bool) then
                bif (decide ((a0.1:Int)=5)) then
                  Option.bind (Zf n (a0.2.2.2.1:Int) true) fun r101 =>
                  bif (r101.1.1:Bool) then
                    bif (decide ((a0.1:Int)=2)) then
                      Option.bind (Zf n (a0.2.2.2.2.1:Int) true) fun r102 =>
                      bif (r102.1.1:Bool) then
                        Option.bind (Zf n (a0.2.2.2.2.2.2.1:Int) (decide ((a0.1:Int)=8))) fun r103 =>
                        bif (r103.1.1:Bool) then
                          Option.bind (Zf n (a0.2.2.2.2.2.2.2.2.1:Int) (decide ((a0.1:Int)=8))) fun r104 =>
                          bif (r104.1.1:Bool) then
                            Option.bind (Zh n (a0.2.2.2.2.2.1:(List Int)) (decide ((a0.1:Int)=8))) fun r105 =>
                            bif (r105.1.1:Bool) then
                              Option.bind (Zh n (a0.2.2.2.2.2.2.2.1:(List Int)) (decide ((a0.1:Int)=8))) fun r106 =>
                              some (((r106.1.1:Bool),()),[])
                            else
                              some ((false,()),[])
                          else
                            some ((false,()),[])
                        else
                          some ((false,()),[])
                      else
                        some ((false,()),[])
                    else
                      bif (decide ((a0.1:Int)=7)) then
                        Option.bind (Zf n (a0.2.2.2.2.1:Int) true) fun r107 =>
                        bif (r107.1.1:Bool) then
                          Option.bind (Zf n (a0.2.2.2.2.2.2.1:Int) (decide ((a0.1:Int)=8))) fun r108 =>
                          bif (r108.1.1:Bool) then
                            Option.bind (Zf n (a0.2.2.2.2.2.2.2.2.1:Int) (decide ((a0.1:Int)=8))) fun r109 =>
                            bif (r109.1.1:Bool) then
                              Option.bind (Zh n (a0.2.2.2.2.2.1:(List Int)) (decide ((a0.1:Int)=8))) fun r110 =>
                              bif (r110.1.1:Bool) then
                                Option.bind (Zh n (a0.2.2.2.2.2.2.2.1:(List Int)) (decide ((a0.1:Int)=8))) fun r111 =>
                                some (((r111.1.1:Bool),()),[])
                              else
                                some ((false,()),[])
                            else
                              some ((false,()),[])
                          else
                            some ((false,()),[])
                        else
                          some ((false,()),[])
                      else
                        Option.bind (Zf n (a0.2.2.2.2.1:Int) (decide ((a0.1:Int)=8))) fun r112 =>
                        bif (r112.1.1:Bool) then
                          Option.bind (Zf n (a0.2.2.2.2.2.2.1:Int) (decide ((a0.1:Int)=8))) fun r113 =>
                          bif (r113.1.1:Bool) then
                            Option.bind (Zf n (a0.2.2.2.2.2.2.2.2.1:Int) (decide ((a0.1:Int)=8))) fun r114 =>
                            bif (r114.1.1:Bool) then
                              Option.bind (Zh n (a0.2.2.2.2.2.1:(List Int)) (decide ((a0.1:Int)=8))) fun r115 =>
                              bif (r115.1.1:Bool) then
                                Option.bind (Zh n (a0.2.2.2.2.2.2.2.1:(List Int)) (decide ((a0.1:Int)=8))) fun r116 =>
                                some (((r116.1.1:Bool),()),[])
                              else
                                some ((false,()),[])
                            else
                              some ((false,()),[])
                          else
                            some ((false,()),[])
                        else
                          some ((false,()),[])
                  else
                    some ((false,()),[])
                else
                  Option.bind (Zf n (a0.2.2.2.1:Int) (decide ((a0.1:Int)=6))) fun r117 =>
                  bif (r117.1.1:Bool) then
                    bif (decide ((a0.1:Int)=2)) then
                      Option.bind (Zf n (a0.2.2.2.2.1:Int) true) fun r118 =>
                      bif (r118.1.1:Bool) then
                        Option.bind (Zf n (a0.2.2.2.2.2.2.1:Int) (decide ((a0.1:Int)=8))) fun r119 =>
                        bif (r119.1.1:Bool) then
                          Option.bind (Zf n (a0.2.2.2.2.2.2.2.2.1:Int) (decide ((a0.1:Int)=8))) fun r120 =>
                          bif (r120.1.1:Bool) then
                            Option.bind (Zh n (a0.2.2.2.2.2.1:(List Int)) (decide ((a0.1:Int)=8))) fun r121 =>
                            bif (r121.1.1:Bool) then
                              Option.bind (Zh n (a0.2.2.2.2.2.2.2.1:(List Int)) (decide ((a0.1:Int)=8))) fun r122 =>
                              some (((r122.1.1:Bool),()),[])
                            else
                              some ((false,()),[])
                          else
                            some ((false,()),[])
                        else
                          some ((false,()),[])
                      else
                        some ((false,()),[])
                    else
                      bif (decide ((a0.1:Int)=7)) then
                        Option.bind (Zf n (a0.2.2.2.2.1:Int) true) fun r123 =>
                        bif (r123.1.1:Bool) then
                          Option.bind (Zf n (a0.2.2.2.2.2.2.1:Int) (decide ((a0.1:Int)=8))) fun r124 =>
                          bif (r124.1.1:Bool) then
                            Option.bind (Zf n (a0.2.2.2.2.2.2.2.2.1:Int) (decide ((a0.1:Int)=8))) fun r125 =>
                            bif (r125.1.1:Bool) then
                              Option.bind (Zh n (a0.2.2.2.2.2.1:(List Int)) (decide ((a0.1:Int)=8))) fun r126 =>
                              bif (r126.1.1:Bool) then
                                Option.bind (Zh n (a0.2.2.2.2.2.2.2.1:(List Int)) (decide ((a0.1:Int)=8))) fun r127 =>
                                some (((r127.1.1:Bool),()),[])
                              else
                                some ((false,()),[])
                            else
                              some ((false,()),[])
                          else
                            some ((false,()),[])
                        else
                          some ((false,()),[])
                      else
                        Option.bind (Zf n (a0.2.2.2.2.1:Int) (decide ((a0.1:Int)=8))) fun r128 =>
                        bif (r128.1.1:Bool) then
                          Option.bind (Zf n (a0.2.2.2.2.2.2.1:Int) (decide ((a0.1:Int)=8))) fun r129 =>
                          bif (r129.1.1:Bool) then
                            Option.bind (Zf n (a0.2.2.2.2.2.2.2.2.1:Int) (decide ((a0.1:Int)=8))) fun r130 =>
                            bif (r130.1.1:Bool) then
                              Option.bind (Zh n (a0.2.2.2.2.2.1:(List Int)) (decide ((a0.1:Int)=8))) fun r131 =>
                              bif (r131.1.1:Bool) then
                                Option.bind (Zh n (a0.2.2.2.2.2.2.2.1:(List Int)) (decide ((a0.1:Int)=8))) fun r132 =>
                                some (((r132.1.1:Bool),()),[])
                              else
                                some ((false,()),[])
                            else
                              some ((false,()),[])
                          else
                            some ((false,()),[])
                        else
                          some ((false,()),[])
                  else
                    some ((false,()),[])
              else
                some ((false,()),[]):=by kernel_rfl
@[reducible] def Hd.R:Type:=Xf [.d .str]×Z0
def Hd (n:Nat) (a0:(List ByteArray)) (a1:Int):Option Hd.R:=gc n 77 [.dat (.sl .str) a0 [],.dat (.int .i64) a1 []] [.d .str]
theorem Hd.eq (n:Nat) (a0:(List ByteArray)) (a1:Int):Hd (n+1) a0 a1 =
  bif (decide (a1<0)) then
    some (((⟨#[]⟩:ByteArray),()),[])
  else
    bif (decide (((List.length a0):Int)≤a1)) then
      some (((⟨#[]⟩:ByteArray),()),[])
    else
      if (0:Int)≤a1∧a1<(((List.length a0):Nat):Int) then
      some (((List.getD a0 (Int.toNat a1) (dft .str):ByteArray),()),[])
      else none:=by kernel_rfl
@[reducible] def Hw.R:Type:=Xf [.d .str]×Z0
def Hw (n:Nat) (a0:Int):Option Hw.R:=gc n 44 [.dat (.int .i64) a0 []] [.d .str]
theorem Hw.eq (n:Nat) (a0:Int):Hw (n+1) a0 =
  Option.bind (Hd n (Fh:(List ByteArray)) a0) fun r1 =>
  some (((r1.1.1:ByteArray),()),[]):=by kernel_rfl
@[reducible] def Qw.R:Type:=Xf [.d Zz]×Z0
def Qw (n:Nat) (a0:(den Zz)):Option Qw.R:=gc n 46 [.dat Zz a0 []] [.d Zz]
theorem Qw.eq (n:Nat) (a0:(den Zz)):Qw (n+1) a0 =
  bif (decide ((a0.1:Int)=1)) then
    some ((((a0.1:Int),(a0.2.1:Int),0,0,0,([]:List Int),0,([]:List Int),0,()),()),[])
  else
    bif (decide ((a0.1:Int)=2)) then
      some ((((a0.1:Int),(a0.2.1:Int),0,0,(a0.2.2.2.2.1:Int),([]:List Int),0,([]:List Int),0,()),()),[])
    else
      bif (decide ((a0.1:Int)=3)) then
        bif (decide ((a0.1:Int)=3)) then
          some ((((a0.1:Int),0,(a0.2.2.1:Int),0,0,([]:List Int),0,([]:List Int),0,()),()),[])
        else
          bif (decide ((a0.1:Int)=5)) then
            bif (decide ((a0.1:Int)=5)) then
              some ((((a0.1:Int),0,(a0.2.2.1:Int),(a0.2.2.2.1:Int),0,([]:List Int),0,([]:List Int),0,()),()),[])
            else
              bif (decide ((a0.1:Int)=7)) then
                some ((((a0.1:Int),0,(a0.2.2.1:Int),0,(a0.2.2.2.2.1:Int),([]:List Int),0,([]:List Int),0,()),()),[])
              else
                bif (decide ((a0.1:Int)=8)) then
                  some ((((a0.1:Int),0,0,0,(a0.2.2.2.2.1:Int),(a0.2.2.2.2.2.1:(List Int)),(a0.2.2.2.2.2.2.1:Int),(a0.2.2.2.2.2.2.2.1:(List Int)),(a0.2.2.2.2.2.2.2.2.1:Int),()),()),[])
                else
                  some ((((a0.1:Int),0,0,0,0,([]:List Int),0,([]:List Int),0,()),()),[])
          else
            bif (decide ((a0.1:Int)=6)) then
              some ((((a0.1:Int),0,(a0.2.2.1:Int),(a0.2.2.2.1:Int),0,([]:List Int),0,([]:List Int),0,()),()),[])
            else
              bif (decide ((a0.1:Int)=7)) then
                some ((((a0.1:Int),0,(a0.2.2.1:Int),0,(a0.2.2.2.2.1:Int),([]:List Int),0,([]:List Int),0,()),()),[])
              else
                bif (decide ((a0.1:Int)=8)) then
                  some ((((a0.1:Int),0,0,0,(a0.2.2.2.2.1:Int),(a0.2.2.2.2.2.1:(List Int)),(a0.2.2.2.2.2.2.1:Int),(a0.2.2.2.2.2.2.2.1:(List Int)),(a0.2.2.2.2.2.2.2.2.1:Int),()),()),[])
                else
                  some ((((a0.1:Int),0,0,0,0,([]:List Int),0,([]:List Int),0,()),()),[])
      else
        bif (decide ((a0.1:Int)=4)) then
          some ((((a0.1:Int),0,(a0.2.2.1:Int),0,0,([]:List Int),0,([]:List Int),0,()),()),[])
        else
          bif (decide ((a0.1:Int)=5)) then
            bif (decide ((a0.1:Int)=5)) then
              some ((((a0.1:Int),0,(a0.2.2.1:Int),(a0.2.2.2.1:Int),0,([]:List Int),0,([]:List Int),0,()),()),[])
            else
              bif (decide ((a0.1:Int)=7)) then
                some ((((a0.1:Int),0,(a0.2.2.1:Int),0,(a0.2.2.2.2.1:Int),([]:List Int),0,([]:List Int),0,()),()),[])
              else
                bif (decide ((a0.1:Int)=8)) then
                  some ((((a0.1:Int),0,0,0,(a0.2.2.2.2.1:Int),(a0.2.2.2.2.2.1:(List Int)),(a0.2.2.2.2.2.2.1:Int),(a0.2.2.2.2.2.2.2.1:(List Int)),(a0.2.2.2.2.2.2.2.2.1:Int),()),()),[])
                else
                  some ((((a0.1:Int),0,0,0,0,([]:List Int),0,([]:List Int),0,()),()),[])
          else
            bif (decide ((a0.1:Int)=6)) then
              some ((((a0.1:Int),0,(a0.2.2.1:Int),(a0.2.2.2.1:Int),0,([]:List Int),0,([]:List Int),0,()),()),[])
            else
              bif (decide ((a0.1:Int)=7)) then
                some ((((a0.1:Int),0,(a0.2.2.1:Int),0,(a0.2.2.2.2.1:Int),([]:List Int),0,([]:List Int),0,()),()),[])
              else
                bif (decide ((a0.1:Int)=8)) then
                  some ((((a0.1:Int),0,0,0,(a0.2.2.2.2.1:Int),(a0.2.2.2.2.2.1:(List Int)),(a0.2.2.2.2.2.2.1:Int),(a0.2.2.2.2.2.2.2.1:(List Int)),(a0.2.2.2.2.2.2.2.2.1:Int),()),()),[])
                else
                  some ((((a0.1:Int),0,0,0,0,([]:List Int),0,([]:List Int),0,()),()),[]):=by kernel_rfl
@[reducible] def U8.R:Type:=Xf [.d U4]×Z0
def U8 (n:Nat) (a0:(den Zz)):Option U8.R:=gc n 78 [.dat Zz a0 []] [.d U4]
theorem U8.eq (n:Nat) (a0:(den Zz)):U8 (n+1) a0 =
  some ((((a0.1:Int),(a0.2.1:Int),(a0.2.2.1:Int),(a0.2.2.2.1:Int),(a0.2.2.2.2.1:Int),(a0.2.2.2.2.2.2.1:Int),(a0.2.2.2.2.2.2.2.2.1:Int),()),()),[]):=by kernel_rfl
def Zq.res:List Sh:=[.d .bool]
@[reducible] def Zq.R:Type:=Xf [.d .bool]×Z0
def Zq (n:Nat) (a0:(List Int)) (a1:(List Int)):Option Zq.R:=gc n 79 [.dat (.sl (.int .i64)) a0 [],.dat (.sl (.int .i64)) a1 []] [.d .bool]
def Zq.l0 (n m0:Nat) (t0:(List Int)) (t1:(List Int)) (t4:Bool) (t12:Int) (t13:Int):Option Zq.R :=
  lpN n AM4 m0 (Jr 0 (Jf (run (gc n) n) AT8 (Xk Zq.fn Zq.res) (Xk Zq.fn Zq.res)) (Xk Zq.fn Zq.res))
    [(0,.dat (.sl (.int .i64)) t0 []),(1,.dat (.sl (.int .i64)) t1 []),(4,.dat .bool t4 []),(12,.dat (.int .i64) t12 []),(13,.dat (.int .i64) t13 [])]
    []
theorem Zq.l0_eq (n m0:Nat) (t0:(List Int)) (t1:(List Int)) (t4:Bool) (t12:Int) (t13:Int):Zq.l0 n (m0+1) t0 t1 t4 t12 t13 =
  bif (decide (t13<t12)) then
    if (0:Int)≤t13∧t13<(((List.length t0):Nat):Int) then
    if (0:Int)≤t13∧t13<(((List.length t1):Nat):Int) then
    bif (!(decide ((List.getD t0 (Int.toNat t13) (0:Int):Int)=(List.getD t1 (Int.toNat t13) (0:Int):Int)))) then
      some ((false,()),[])
    else
      Zq.l0 n m0 t0 t1 t4 t12 (IntKind.wrap .i64 (t13+1))
    else none
    else none
  else
    some ((true,()),[]):=by kernel_rfl
theorem Zq.eq (n:Nat) (a0:(List Int)) (a1:(List Int)):Zq (n+1) a0 a1 =
  bif (!(decide (((List.length a0):Int)=((List.length a1):Int)))) then
    some ((false,()),[])
  else
    Zq.l0 n n a0 a1 false ((List.length a0):Int) 0:=by kernel_rfl
@[reducible] def Hx.R:Type:=Xf [.d .bool]×Z0
def Hx (n:Nat) (a0:(den Zz)) (a1:(den Zz)):Option Hx.R:=gc n 45 [.dat Zz a0 [],.dat Zz a1 []] [.d .bool]
theorem Hx.eq (n:Nat) (a0:(den Zz)) (a1:(den Zz)):Hx (n+1) a0 a1 =
  Option.bind (U8 n a0) fun r1 =>
  Option.bind (U8 n a1) fun r2 =>
  bif (eqT U4 r1.1.1 r2.1.1) then
    Option.bind (Zq n (a0.2.2.2.2.2.1:(List Int)) (a1.2.2.2.2.2.1:(List Int))) fun r3 =>
    bif (r3.1.1:Bool) then
      Option.bind (Zq n (a0.2.2.2.2.2.2.2.1:(List Int)) (a1.2.2.2.2.2.2.2.1:(List Int))) fun r4 =>
      some (((r4.1.1:Bool),()),[])
    else
      some ((false,()),[])
  else
    some ((false,()),[]):=by kernel_rfl
@[reducible] def Uc.R:Type:=Xf [.d .str]×Z0
def Uc (n:Nat) (a0:Int):Option Uc.R:=gc n 47 [.dat (.int .i64) a0 []] [.d .str]
theorem Uc.eq (n:Nat) (a0:Int):Uc (n+1) a0 =
  Option.bind (Hd n (Fi:(List ByteArray)) a0) fun r1 =>
  some (((r1.1.1:ByteArray),()),[]):=by kernel_rfl
@[reducible] def K0.R:Type:=Xf [.d .bool]×Z0
def K0 (n:Nat) (a0:Int):Option K0.R:=gc n 48 [.dat (.int .i64) a0 []] [.d .bool]
theorem K0.eq (n:Nat) (a0:Int):K0 (n+1) a0 =
  bif (decide (0≤a0)) then
    some (((decide (a0≤1073741824)),()),[])
  else
    some ((false,()),[]):=by kernel_rfl
@[reducible] def Kq.R:Type:=Xf [.d .bool]×Z0
def Kq (n:Nat) (a0:Int):Option Kq.R:=gc n 81 [.dat (.int .i64) a0 []] [.d .bool]
theorem Kq.eq (n:Nat) (a0:Int):Kq (n+1) a0 =
  Option.bind (K0 n a0) fun r1 =>
  some (((!(r1.1.1:Bool)),()),[]):=by kernel_rfl
def Zu.res:List Sh:=[.d (.int .i64)]
@[reducible] def Zu.R:Type:=Xf [.d (.int .i64)]×Z0
def Zu (n:Nat) (a0:(List Int)):Option Zu.R:=gc n 135 [.dat (.sl (.int .i64)) a0 [],.clo 81 []] [.d (.int .i64)]
def Zu.l0 (n m0:Nat) (t0:(List Int)) (t4:Int) (t7:Int) (t8:Int):Option Zu.R :=
  lpN n AC6 m0 (Jr 0 (Jf (run (gc n) n) AC5 (Xk Zj.fn Zu.res) (Xk Zj.fn Zu.res)) (Xk Zj.fn Zu.res))
    [(0,.dat (.sl (.int .i64)) t0 []),(1,.clo 81 []),(4,.dat (.int .i64) t4 []),(7,.dat (.int .i64) t7 []),(8,.dat (.int .i64) t8 [])]
    []
theorem Zu.l0_eq (n m0:Nat) (t0:(List Int)) (t4:Int) (t7:Int) (t8:Int):Zu.l0 n (m0+1) t0 t4 t7 t8 =
  bif (decide (t8<t7)) then
    if (0:Int)≤t8∧t8<(((List.length t0):Nat):Int) then
    Option.bind (Kq n (List.getD t0 (Int.toNat t8) (0:Int):Int)) fun r1 =>
    bif (r1.1.1:Bool) then
      some ((t8,()),[])
    else
      Zu.l0 n m0 t0 t4 t7 (IntKind.wrap .i64 (t8+1))
    else none
  else
    some (((-1),()),[]):=by kernel_rfl
theorem Zu.eq (n:Nat) (a0:(List Int)):Zu (n+1) a0 =
  Zu.l0 n n a0 0 ((List.length a0):Int) 0:=by kernel_rfl
@[reducible] def X8.R:Type:=Xf [.d .bool]×Z0
def X8 (n:Nat) (a0:(List Int)):Option X8.R:=gc n 80 [.dat (.sl (.int .i64)) a0 [],.clo 81 []] [.d .bool]
theorem X8.eq (n:Nat) (a0:(List Int)):X8 (n+1) a0 =
  Option.bind (Zu n a0) fun r1 =>
  some (((decide (0≤(r1.1.1:Int))),()),[]):=by kernel_rfl
@[reducible] def Gs.R:Type:=Xf [.d .bool]×Z0
def Gs (n:Nat) (a0:(List Int)):Option Gs.R:=gc n 49 [.dat (.sl (.int .i64)) a0 []] [.d .bool]
theorem Gs.eq (n:Nat) (a0:(List Int)):Gs (n+1) a0 =
  bif (decide (((List.length a0):Int)≤16)) then
    Option.bind (X8 n a0) fun r1 =>
    some (((!(r1.1.1:Bool)),()),[])
  else
    some ((false,()),[]):=by kernel_rfl
@[reducible] def Hn.R:Type:=Xf [.d .bool]×Z0
def Hn (n:Nat) (a0:(den Zz)):Option Hn.R:=gc n 27 [.dat Zz a0 []] [.d .bool]
theorem Hn.eq (n:Nat) (a0:(den Zz)):Hn (n+1) a0 =
  Option.bind (Hw n (a0.1:Int)) fun r1 =>
  bif (!(eqT .str (r1.1.1:ByteArray) (⟨#[]⟩:ByteArray))) then
    Option.bind (Qw n a0) fun r2 =>
    Option.bind (Hx n a0 r2.1.1) fun r3 =>
    bif (r3.1.1:Bool) then
      Option.bind (Uc n (a0.2.1:Int)) fun r4 =>
      bif (!(eqT .str (r4.1.1:ByteArray) (⟨#[]⟩:ByteArray))) then
        Option.bind (K0 n (a0.2.2.1:Int)) fun r5 =>
        bif (r5.1.1:Bool) then
          Option.bind (K0 n (a0.2.2.2.1:Int)) fun r6 =>
          bif (r6.1.1:Bool) then
            Option.bind (K0 n (a0.2.2.2.2.1:Int)) fun r7 =>
            bif (r7.1.1:Bool) then
              Option.bind (K0 n (a0.2.2.2.2.2.2.1:Int)) fun r8 =>
              bif (r8.1.1:Bool) then
                Option.bind (K0 n (a0.2.2.2.2.2.2.2.2.1:Int)) fun r9 =>
                bif (r9.1.1:Bool) then
                  Option.bind (Gs n (a0.2.2.2.2.2.1:(List Int))) fun r10 =>
                  bif (r10.1.1:Bool) then
                    Option.bind (Gs n (a0.2.2.2.2.2.2.2.1:(List Int))) fun r11 =>
                    some (((r11.1.1:Bool),()),[])
                  else
                    some ((false,()),[])
                else
                  some ((false,()),[])
              else
                some ((false,()),[])
            else
              some ((false,()),[])
          else
            some ((false,()),[])
        else
          some ((false,()),[])
      else
        some ((false,()),[])
    else
      some ((false,()),[])
  else
    some ((false,()),[]):=by kernel_rfl
@[reducible] def T8.R:Type:=Xf [.fmap [1,2,3,4,5,6,7,8,9,10] [.clo 82 [.refv (.clo 51 [])],.clo 82 [.refv (.clo 53 [])],.clo 87 [.refv (.clo 56 [])],.clo 87 [.refv (.clo 58 [])],.clo 87 [.refv (.clo 60 [])],.clo 87 [.refv (.clo 62 [])],.clo 87 [.refv (.clo 64 [])],.clo 87 [.refv (.clo 66 [])],.clo 119 [.refv (.clo 68 [])],.clo 119 [.refv (.clo 69 [])]]]×Z0
def T8 (n:Nat):Option T8.R:=gc n 28 [] [.fmap [1,2,3,4,5,6,7,8,9,10] [.clo 82 [.refv (.clo 51 [])],.clo 82 [.refv (.clo 53 [])],.clo 87 [.refv (.clo 56 [])],.clo 87 [.refv (.clo 58 [])],.clo 87 [.refv (.clo 60 [])],.clo 87 [.refv (.clo 62 [])],.clo 87 [.refv (.clo 64 [])],.clo 87 [.refv (.clo 66 [])],.clo 119 [.refv (.clo 68 [])],.clo 119 [.refv (.clo 69 [])]]]
def X1.res:List Sh:=[.d (.sl Ym)]
@[reducible] def X1.R:Type:=Xf [.d (.sl Ym)]×Z0
def X1 (n:Nat) (a0:(den Zb)) (a1:(den Za)):Option X1.R:=gc n 121 [.dat Zb a0 [],.dat Za a1 []] [.d (.sl Ym)]
def X1.l0 (n m0:Nat) (t0:(den Zb)) (t1:(den Za)) (t4:(List (den Ym))) (t9:(List (den Za))) (t10:Int) (t11:Int) (o0:(den Zb)) (o1:(den Za)) (o5:(List (den Ym))):Option X1.R :=
  lpN n AMf m0 (Jr 0 (Jf (run (gc n) n) AMe (Xk X1.fn X1.res) (Xk X1.fn X1.res)) (Xk X1.fn X1.res))
    [(0,.dat Zb t0 []),(1,.dat Za t1 []),(2,.ptr 0 []),(3,.ptr 1 []),(4,.dat (.sl Ym) t4 []),(5,.dat (.sl Ym) ([]:List (den Ym)) [([],some 5)]),(9,.dat (.sl Za) t9 []),(10,.dat (.int .i64) t10 []),(11,.dat (.int .i64) t11 [])]
    [.box Zb o0 [],.box Za o1 [],.none,.none,.none,.arr Ym o5]
theorem X1.l0_eq (n m0:Nat) (t0:(den Zb)) (t1:(den Za)) (t4:(List (den Ym))) (t9:(List (den Za))) (t10:Int) (t11:Int) (o0:(den Zb)) (o1:(den Za)) (o5:(List (den Ym))):X1.l0 n (m0+1) t0 t1 t4 t9 t10 t11 o0 o1 o5 =
  bif (decide (t11<t10)) then
    if (0:Int)≤t11∧t11<(((List.length t9):Nat):Int) then
    Option.bind (Kf n o0 t11) fun r1 =>
    bif (eqT Za r1.1.1 o1) then
      if (List.length o5)+1≤1048576 then
      X1.l0 n m0 t0 t1 t4 t9 t10 (IntKind.wrap .i64 (t11+1)) o0 o1 (o5 ++ ([(t11,(List.getD t9 (Int.toNat t11) (dft Za):(den Za)),())]:List (den Ym)))
      else none
    else
      X1.l0 n m0 t0 t1 t4 t9 t10 (IntKind.wrap .i64 (t11+1)) o0 o1 o5
    else none
  else
    some ((o5,()),[(0,[])]):=by kernel_rfl
theorem X1.eq (n:Nat) (a0:(den Zb)) (a1:(den Za)):X1 (n+1) a0 a1 =
  X1.l0 n n a0 a1 ([]:List (den Ym)) (a0.2.2.2.1:(List (den Za))) ((List.length (a0.2.2.2.1:(List (den Za)))):Int) 0 a0 a1 ([]:List (den Ym)):=by kernel_rfl
@[reducible] def Kv.R:Type:=Xf [.d Z9]×Z0
def Kv (n:Nat) (a0:(den Zb)) (a1:Int):Option Kv.R:=gc n 69 [.dat Zb a0 [],.dat (.int .i64) a1 []] [.d Z9]
theorem Kv.eq (n:Nat) (a0:(den Zb)) (a1:Int):Kv (n+1) a0 a1 =
  if (0:Int)≤a1∧a1<(((List.length (a0.2.2.1:(List Int))):Nat):Int) then
  Option.bind (X1 n a0 (1,a1,())) fun r1 =>
  some (((0,10,0,([]:List Int),(r1.1.1:(List (den Ym))),(List.getD (a0.2.2.1:(List Int)) (Int.toNat a1) (0:Int):Int),()),()),[])
  else none:=by kernel_rfl
@[reducible] def Qn.R:Type:=Xf [.d Zb,.d Z9]×Z0
def Qn (n:Nat) (a0:(den Zb)) (a1:Int) (a2:(den Zz)):Option Qn.R:=gc n 119 [.dat Zb a0 [],.dat (.int .i64) a1 [],.dat Zz a2 [],.refv (.clo 69 [])] [.d Zb,.d Z9]
theorem Qn.eq (n:Nat) (a0:(den Zb)) (a1:Int) (a2:(den Zz)):Qn (n+1) a0 a1 a2 =
  Option.bind (Kv n a0 a1) fun r1 =>
  some ((a0,r1.1.1,()),[]):=by kernel_rfl
def Xm.res:List Sh:=[.d (.sl (.int .i64))]
@[reducible] def Xm.R:Type:=Xf [.d (.sl (.int .i64))]×Z0
def Xm (n:Nat) (a0:(den Zb)) (a1:Int):Option Xm.R:=gc n 120 [.dat Zb a0 [],.dat (.int .i64) a1 []] [.d (.sl (.int .i64))]
def Xm.l0 (n m0:Nat) (t0:(den Zb)) (t1:Int) (t4:(List Int)) (t9:Int) (t10:Int) (o0:(den Zb)) (o3:(List Int)):Option Xm.R :=
  lpN n AMd m0 (Jr 0 (Jf (run (gc n) n) AMc (Xk Xm.fn Xm.res) (Xk Xm.fn Xm.res)) (Xk Xm.fn Xm.res))
    [(0,.dat Zb t0 []),(1,.dat (.int .i64) t1 []),(2,.ptr 0 []),(4,.dat (.sl (.int .i64)) t4 []),(5,.dat (.sl (.int .i64)) ([]:List Int) [([],some 3)]),(9,.dat (.int .i64) t9 []),(10,.dat (.int .i64) t10 [])]
    [.box Zb o0 [],.none,.none,.arr (.int .i64) o3]
theorem Xm.l0_eq (n m0:Nat) (t0:(den Zb)) (t1:Int) (t4:(List Int)) (t9:Int) (t10:Int) (o0:(den Zb)) (o3:(List Int)):Xm.l0 n (m0+1) t0 t1 t4 t9 t10 o0 o3 =
  bif (decide (t10<t9)) then
    if (0:Int)≤t10∧t10<(((List.length (o0.2.1:(List Int))):Nat):Int) then
    bif (decide ((List.getD (o0.2.1:(List Int)) (Int.toNat t10) (0:Int):Int)=t1)) then
      if (List.length o3)+1≤1048576 then
      Xm.l0 n m0 t0 t1 t4 t9 (IntKind.wrap .i64 (t10+1)) o0 (o3 ++ ([t10]:List Int))
      else none
    else
      Xm.l0 n m0 t0 t1 t4 t9 (IntKind.wrap .i64 (t10+1)) o0 o3
    else none
  else
    some ((o3,()),[(0,[])]):=by kernel_rfl
theorem Xm.eq (n:Nat) (a0:(den Zb)) (a1:Int):Xm (n+1) a0 a1 =
  Xm.l0 n n a0 a1 ([]:List Int) ((List.length (a0.2.1:(List Int))):Int) 0 a0 ([]:List Int):=by kernel_rfl
@[reducible] def V3.R:Type:=Xf [.d Z9]×Z0
def V3 (n:Nat) (a0:(den Zb)) (a1:Int):Option V3.R:=gc n 68 [.dat Zb a0 [],.dat (.int .i64) a1 []] [.d Z9]
theorem V3.eq (n:Nat) (a0:(den Zb)) (a1:Int):V3 (n+1) a0 a1 =
  if (0:Int)≤a1∧a1<(((List.length (a0.2.1:(List Int))):Nat):Int) then
  Option.bind (Xm n a0 (List.getD (a0.2.1:(List Int)) (Int.toNat a1) (0:Int):Int)) fun r1 =>
  Option.bind (X1 n a0 (0,(List.getD (a0.2.1:(List Int)) (Int.toNat a1) (0:Int):Int),())) fun r2 =>
  some (((0,9,(List.getD (a0.2.1:(List Int)) (Int.toNat a1) (0:Int):Int),(r1.1.1:(List Int)),(r2.1.1:(List (den Ym))),0,()),()),[])
  else none:=by kernel_rfl
@[reducible] def Ve.R:Type:=Xf [.d Zb,.d Z9]×Z0
def Ve (n:Nat) (a0:(den Zb)) (a1:Int) (a2:(den Zz)):Option Ve.R:=gc n 119 [.dat Zb a0 [],.dat (.int .i64) a1 [],.dat Zz a2 [],.refv (.clo 68 [])] [.d Zb,.d Z9]
theorem Ve.eq (n:Nat) (a0:(den Zb)) (a1:Int) (a2:(den Zz)):Ve (n+1) a0 a1 a2 =
  Option.bind (V3 n a0 a1) fun r1 =>
  some ((a0,r1.1.1,()),[]):=by kernel_rfl
@[reducible] def V8.R:Type:=Xf [.d (.sl (.int .i64))]×Z0
def V8 (n:Nat) (a0:(List (List Int))):Option V8.R:=gc n 112 [.dat (.sl (.sl (.int .i64))) a0 []] [.d (.sl (.int .i64))]
@[reducible] def Qp.R:Type:=Xf [.d .bool]×Z0
def Qp (n:Nat) (a0:(den Zb)) (a1:Int):Option Qp.R:=gc n 110 [.dat Zb a0 [],.dat (.int .i64) a1 []] [.d .bool]
theorem Qp.eq (n:Nat) (a0:(den Zb)) (a1:Int):Qp (n+1) a0 a1 =
  bif (decide (0≤a1)) then
    some (((decide (a1<((List.length (a0.2.1:(List Int))):Int))),()),[])
  else
    some ((false,()),[]):=by kernel_rfl
@[reducible] def Hf.R:Type:=Xf [.d .bool]×Z0
def Hf (n:Nat) (a0:(den Zb)) (a1:Int):Option Hf.R:=gc n 109 [.dat Zb a0 [],.dat (.int .i64) a1 []] [.d .bool]
theorem Hf.eq (n:Nat) (a0:(den Zb)) (a1:Int):Hf (n+1) a0 a1 =
  bif (decide (0≤a1)) then
    some (((decide (a1<((List.length (a0.2.2.2.1:(List (den Za)))):Int))),()),[])
  else
    some ((false,()),[]):=by kernel_rfl
@[reducible] def Qo.R:Type:=Xf [.d .bool]×Z0
def Qo (n:Nat) (a0:Int) (a1:(den Zb)):Option Qo.R:=gc n 115 [.dat (.int .i64) a0 [],.ref Zb a1] [.d .bool]
theorem Qo.eq (n:Nat) (a0:Int) (a1:(den Zb)):Qo (n+1) a0 a1 =
  Option.bind (Hf n a1 a0) fun r1 =>
  some (((!(r1.1.1:Bool)),()),[]):=by kernel_rfl
def Zj.res:List Sh:=[.d (.int .i64)]
@[reducible] def Zj.R:Type:=Xf [.d (.int .i64)]×Z0
def Zj (n:Nat) (a0:(List Int)) (a1:(den Zb)):Option Zj.R:=gc n 135 [.dat (.sl (.int .i64)) a0 [],.clo 115 [.ref Zb a1]] [.d (.int .i64)]
def Zj.l0 (n m0:Nat) (t0:(List Int)) (t1:(den Zb)) (t4:Int) (t7:Int) (t8:Int):Option Zj.R :=
  lpN n AC6 m0 (Jr 0 (Jf (run (gc n) n) AC5 (Xk Zj.fn Zj.res) (Xk Zj.fn Zj.res)) (Xk Zj.fn Zj.res))
    [(0,.dat (.sl (.int .i64)) t0 []),(1,.clo 115 [.ref Zb t1]),(4,.dat (.int .i64) t4 []),(7,.dat (.int .i64) t7 []),(8,.dat (.int .i64) t8 [])]
    []
theorem Zj.l0_eq (n m0:Nat) (t0:(List Int)) (t1:(den Zb)) (t4:Int) (t7:Int) (t8:Int):Zj.l0 n (m0+1) t0 t1 t4 t7 t8 =
  bif (decide (t8<t7)) then
    if (0:Int)≤t8∧t8<(((List.length t0):Nat):Int) then
    Option.bind (Qo n (List.getD t0 (Int.toNat t8) (0:Int):Int) t1) fun r1 =>
    bif (r1.1.1:Bool) then
      some ((t8,()),[])
    else
      Zj.l0 n m0 t0 t1 t4 t7 (IntKind.wrap .i64 (t8+1))
    else none
  else
    some (((-1),()),[]):=by kernel_rfl
theorem Zj.eq (n:Nat) (a0:(List Int)) (a1:(den Zb)):Zj (n+1) a0 a1 =
  Zj.l0 n n a0 a1 0 ((List.length a0):Int) 0:=by kernel_rfl
@[reducible] def Xh.R:Type:=Xf [.d .bool]×Z0
def Xh (n:Nat) (a0:(List Int)) (a1:(den Zb)):Option Xh.R:=gc n 80 [.dat (.sl (.int .i64)) a0 [],.clo 115 [.ref Zb a1]] [.d .bool]
theorem Xh.eq (n:Nat) (a0:(List Int)) (a1:(den Zb)):Xh (n+1) a0 a1 =
  Option.bind (Zj n a0 a1) fun r1 =>
  some (((decide (0≤(r1.1.1:Int))),()),[]):=by kernel_rfl
def Xy.res:List Sh:=[.d .bool]
@[reducible] def Xy.R:Type:=Xf [.d .bool]×Z0
def Xy (n:Nat) (a0:(List Int)):Option Xy.R:=gc n 116 [.dat (.sl (.int .i64)) a0 []] [.d .bool]
def Xy.l0 (n m0:Nat) (t0:(List Int)) (t2:Bool) (t7:(List Int)) (t8:Int) (t9:Int) (o0:(List (Int×Bool))):Option Xy.R :=
  lpN n AMb m0 (Jr 0 (Jf (run (gc n) n) AMa (Xk Xy.fn Xy.res) (Xk Xy.fn Xy.res)) (Xk Xy.fn Xy.res))
    [(0,.dat (.sl (.int .i64)) t0 []),(2,.dat .bool t2 []),(3,.ptr 0 []),(7,.dat (.sl (.int .i64)) t7 []),(8,.dat (.int .i64) t8 []),(9,.dat (.int .i64) t9 [])]
    [.map (.int .i64) .bool o0]
theorem Xy.l0_eq (n m0:Nat) (t0:(List Int)) (t2:Bool) (t7:(List Int)) (t8:Int) (t9:Int) (o0:(List (Int×Bool))):Xy.l0 n (m0+1) t0 t2 t7 t8 t9 o0 =
  bif (decide (t9<t8)) then
    if (0:Int)≤t9∧t9<(((List.length t7):Nat):Int) then
    bif ((Option.getD (Y4 (.int .i64) .bool (List.getD t7 (Int.toNat t9) (0:Int):Int) o0) false):Bool) then
      some ((true,()),[])
    else
      Xy.l0 n m0 t0 t2 t7 t8 (IntKind.wrap .i64 (t9+1)) (H7 (.int .i64) .bool (List.getD t7 (Int.toNat t9) (0:Int):Int) true o0)
    else none
  else
    some ((false,()),[]):=by kernel_rfl
theorem Xy.eq (n:Nat) (a0:(List Int)):Xy (n+1) a0 =
  Xy.l0 n n a0 false a0 ((List.length a0):Int) 0 []:=by kernel_rfl
@[reducible] def Y9.R:Type:=Xf [.d Za]×Z0
def Y9 (n:Nat) (a0:Int):Option Y9.R:=gc n 111 [.dat (.int .i64) a0 []] [.d Za]
theorem Y9.eq (n:Nat) (a0:Int):Y9 (n+1) a0 =
  some (((1,a0,()),()),[]):=by kernel_rfl
@[reducible] def Y2.R:Type:=Xf [.d .bool]×Z0
def Y2 (n:Nat) (a0:Int) (a1:(den Zb)) (a2:Int):Option Y2.R:=gc n 114 [.dat (.int .i64) a0 [],.ref Zb a1,.ref (.int .i64) a2] [.d .bool]
theorem Y2.eq (n:Nat) (a0:Int) (a1:(den Zb)) (a2:Int):Y2 (n+1) a0 a1 a2 =
  if (0:Int)≤a0∧a0<(((List.length (a1.2.2.2.1:(List (den Za)))):Nat):Int) then
  Option.bind (Y9 n a2) fun r1 =>
  some (((!(eqT Za (List.getD (a1.2.2.2.1:(List (den Za))) (Int.toNat a0) (dft Za):(den Za)) r1.1.1)),()),[])
  else none:=by kernel_rfl
def Zt.res:List Sh:=[.d (.int .i64)]
@[reducible] def Zt.R:Type:=Xf [.d (.int .i64)]×Z0
def Zt (n:Nat) (a0:(List Int)) (a1:(den Zb)) (a2:Int):Option Zt.R:=gc n 135 [.dat (.sl (.int .i64)) a0 [],.clo 114 [.ref Zb a1,.ref (.int .i64) a2]] [.d (.int .i64)]
def Zt.l0 (n m0:Nat) (t0:(List Int)) (t1:(den Zb)) (t1':Int) (t4:Int) (t7:Int) (t8:Int):Option Zt.R :=
  lpN n AC6 m0 (Jr 0 (Jf (run (gc n) n) AC5 (Xk Zj.fn Zt.res) (Xk Zj.fn Zt.res)) (Xk Zj.fn Zt.res))
    [(0,.dat (.sl (.int .i64)) t0 []),(1,.clo 114 [.ref Zb t1,.ref (.int .i64) t1']),(4,.dat (.int .i64) t4 []),(7,.dat (.int .i64) t7 []),(8,.dat (.int .i64) t8 [])]
    []
theorem Zt.l0_eq (n m0:Nat) (t0:(List Int)) (t1:(den Zb)) (t1':Int) (t4:Int) (t7:Int) (t8:Int):Zt.l0 n (m0+1) t0 t1 t1' t4 t7 t8 =
  bif (decide (t8<t7)) then
    if (0:Int)≤t8∧t8<(((List.length t0):Nat):Int) then
    Option.bind (Y2 n (List.getD t0 (Int.toNat t8) (0:Int):Int) t1 t1') fun r1 =>
    bif (r1.1.1:Bool) then
      some ((t8,()),[])
    else
      Zt.l0 n m0 t0 t1 t1' t4 t7 (IntKind.wrap .i64 (t8+1))
    else none
  else
    some (((-1),()),[]):=by kernel_rfl
theorem Zt.eq (n:Nat) (a0:(List Int)) (a1:(den Zb)) (a2:Int):Zt (n+1) a0 a1 a2 =
  Zt.l0 n n a0 a1 a2 0 ((List.length a0):Int) 0:=by kernel_rfl
@[reducible] def X7.R:Type:=Xf [.d .bool]×Z0
def X7 (n:Nat) (a0:(List Int)) (a1:(den Zb)) (a2:Int):Option X7.R:=gc n 80 [.dat (.sl (.int .i64)) a0 [],.clo 114 [.ref Zb a1,.ref (.int .i64) a2]] [.d .bool]
theorem X7.eq (n:Nat) (a0:(List Int)) (a1:(den Zb)) (a2:Int):X7 (n+1) a0 a1 a2 =
  Option.bind (Zt n a0 a1 a2) fun r1 =>
  some (((decide (0≤(r1.1.1:Int))),()),[]):=by kernel_rfl
@[reducible] def Qe.R:Type:=Xf [.d .bool]×Z0
def Qe (n:Nat) (a0:(List Int)) (a1:Int) (a2:(den Zb)):Option Qe.R:=gc n 113 [.dat (.sl (.int .i64)) a0 [],.dat (.int .i64) a1 [],.ref Zb a2] [.d .bool]
theorem Qe.eq (n:Nat) (a0:(List Int)) (a1:Int) (a2:(den Zb)):Qe (n+1) a0 a1 a2 =
  Option.bind (X7 n a0 a2 a1) fun r1 =>
  some (((r1.1.1:Bool),()),[]):=by kernel_rfl
def Qd.res:List Sh:=[.d (.sl (.int .i64))]
@[reducible] def Qd.R:Type:=Xf [.d (.sl (.int .i64))]×Z0
def Qd (n:Nat) (a0:(den Zb)) (a1:(den Za)):Option Qd.R:=gc n 137 [.dat Zb a0 [],.dat Za a1 []] [.d (.sl (.int .i64))]
def Qd.l0 (n m0:Nat) (t0:(den Zb)) (t1:(den Za)) (t4:(List Int)) (t9:(List (den Za))) (t10:Int) (t11:Int) (o0:(den Zb)) (o1:(den Za)) (o5:(List Int)):Option Qd.R :=
  lpN n AMh m0 (Jr 0 (Jf (run (gc n) n) AMg (Xk Qd.fn Qd.res) (Xk Qd.fn Qd.res)) (Xk Qd.fn Qd.res))
    [(0,.dat Zb t0 []),(1,.dat Za t1 []),(2,.ptr 0 []),(3,.ptr 1 []),(4,.dat (.sl (.int .i64)) t4 []),(5,.dat (.sl (.int .i64)) ([]:List Int) [([],some 5)]),(9,.dat (.sl Za) t9 []),(10,.dat (.int .i64) t10 []),(11,.dat (.int .i64) t11 [])]
    [.box Zb o0 [],.box Za o1 [],.none,.none,.none,.arr (.int .i64) o5]
theorem Qd.l0_eq (n m0:Nat) (t0:(den Zb)) (t1:(den Za)) (t4:(List Int)) (t9:(List (den Za))) (t10:Int) (t11:Int) (o0:(den Zb)) (o1:(den Za)) (o5:(List Int)):Qd.l0 n (m0+1) t0 t1 t4 t9 t10 t11 o0 o1 o5 =
  bif (decide (t11<t10)) then
    if (0:Int)≤t11∧t11<(((List.length t9):Nat):Int) then
    bif (eqT Za o1 (List.getD t9 (Int.toNat t11) (dft Za):(den Za))) then
      if (List.length o5)+1≤1048576 then
      Qd.l0 n m0 t0 t1 t4 t9 t10 (IntKind.wrap .i64 (t11+1)) o0 o1 (o5 ++ ([t11]:List Int))
      else none
    else
      Qd.l0 n m0 t0 t1 t4 t9 t10 (IntKind.wrap .i64 (t11+1)) o0 o1 o5
    else none
  else
    some ((o5,()),[(0,[])]):=by kernel_rfl
theorem Qd.eq (n:Nat) (a0:(den Zb)) (a1:(den Za)):Qd (n+1) a0 a1 =
  Qd.l0 n n a0 a1 ([]:List Int) (a0.2.2.2.1:(List (den Za))) ((List.length (a0.2.2.2.1:(List (den Za)))):Int) 0 a0 a1 ([]:List Int):=by kernel_rfl
@[reducible] def Jp.R:Type:=Xf [.d (.int .i64)]×Z0
def Jp (n:Nat) (a0:(den Zb)) (a1:(den Za)):Option Jp.R:=gc n 102 [.dat Zb a0 [],.dat Za a1 []] [.d (.int .i64)]
theorem Jp.eq (n:Nat) (a0:(den Zb)) (a1:(den Za)):Jp (n+1) a0 a1 =
  if (0:Int)≤(a1.1:Int)∧(a1.1:Int)<((3:Nat):Int) then
  Option.bind (Qd n a0 a1) fun r1 =>
  some (((IntKind.wrap .i64 ((List.getD ([(a0.1.2.2.2.2.2.1:Int),(a0.1.2.2.2.2.2.2.1:Int),(a0.1.2.2.2.2.2.2.2.1:Int)]:List Int) (Int.toNat (a1.1:Int)) (0:Int):Int) - ((List.length (r1.1.1:(List Int))):Int))),()),[])
  else none:=by kernel_rfl
@[reducible] def Gt.R:Type:=Xf [.d .bool]×Z0
def Gt (n:Nat) (a0:Int):Option Gt.R:=gc n 139 [.dat (.int .i64) a0 []] [.d .bool]
theorem Gt.eq (n:Nat) (a0:Int):Gt (n+1) a0 =
  bif (decide (0≤a0)) then
    some (((decide (a0≤1073741824)),()),[])
  else
    some ((false,()),[]):=by kernel_rfl
@[reducible] def Kr.R:Type:=Xf [.d (.int .i64),.d (.int .i64),.d (.int .i64)]×Z0
def Kr (n:Nat) (a0:Int) (a1:Int) (a2:Int) (a3:Int):Option Kr.R:=gc n 117 [.dat (.int .i64) a0 [],.dat (.int .i64) a1 [],.dat (.int .i64) a2 [],.dat (.int .i64) a3 []] [.d (.int .i64),.d (.int .i64),.d (.int .i64)]
theorem Kr.eq (n:Nat) (a0:Int) (a1:Int) (a2:Int) (a3:Int):Kr (n+1) a0 a1 a2 a3 =
  bif (decide (a2<0)) then
    some ((a0,a1,1,()),[])
  else
    bif (decide (a3<0)) then
      some ((a0,a1,1,()),[])
    else
      bif (decide (a0<a2)) then
        some ((a0,a1,10,()),[])
      else
        bif (decide (a1<a3)) then
          some ((a0,a1,10,()),[])
        else
          Option.bind (Gt n (IntKind.wrap .i64 ((IntKind.wrap .i64 (a0 - a2))+a3))) fun r1 =>
          bif (!(r1.1.1:Bool)) then
            some ((a0,a1,11,()),[])
          else
            Option.bind (Gt n (IntKind.wrap .i64 ((IntKind.wrap .i64 (a1 - a3))+a2))) fun r2 =>
            bif (!(r2.1.1:Bool)) then
              some ((a0,a1,11,()),[])
            else
              some (((IntKind.wrap .i64 ((IntKind.wrap .i64 (a0 - a2))+a3)),(IntKind.wrap .i64 ((IntKind.wrap .i64 (a1 - a3))+a2)),0,()),[]):=by kernel_rfl
@[reducible] def Vd.R:Type:=Xf [.d (.sl (.int .i64))]×Z0
def Vd (n:Nat) (a0:(List Int)):Option Vd.R:=gc n 140 [.dat (.sl (.int .i64)) a0 []] [.d (.sl (.int .i64))]
@[reducible] def Qc.R:Type:=Xf [.d (.sl Za)]×Z0
def Qc (n:Nat) (a0:(List (den Za))):Option Qc.R:=gc n 141 [.dat (.sl Za) a0 []] [.d (.sl Za)]
@[reducible] def Jz.R:Type:=Xf [.d Zb]×Z0
def Jz (n:Nat) (a0:(den Zb)):Option Jz.R:=gc n 118 [.dat Zb a0 []] [.d Zb]
theorem Jz.eq (n:Nat) (a0:(den Zb)):Jz (n+1) a0 =
  Option.bind (Vd n (a0.2.1:(List Int))) fun r1 =>
  bif (Zp r1.2 [((0,[]),2)]) then
    Option.bind (Vd n (a0.2.2.1:(List Int))) fun r2 =>
    bif (Zp r2.2 [((0,[]),3)]) then
      Option.bind (Qc n (a0.2.2.2.1:(List (den Za)))) fun r3 =>
      bif (Zp r3.2 [((0,[]),4)]) then
        some (((a0.1,(r1.1.1:(List Int)),(r2.1.1:(List Int)),(r3.1.1:(List (den Za))),()),()),[(0,[1]),(0,[2]),(0,[3])])
      else
        none
    else
      none
  else
    none:=by kernel_rfl
def Xa.res:List Sh:=[.d Zb,.d (.int .i64)]
@[reducible] def Xa.R:Type:=Xf [.d Zb,.d (.int .i64)]×Z0
def Xa (n:Nat) (a0:(den Zb)) (a1:Int) (a2:(den Zz)):Option Xa.R:=gc n 66 [.dat Zb a0 [],.dat (.int .i64) a1 [],.dat Zz a2 []] [.d Zb,.d (.int .i64)]
def Xa.l0 (n m0:Nat) (t0:(den Zb)) (t1:Int) (t2:(den Zz)) (t7:Int) (t8:Int) (t9:(List Int)) (t11:Int) (t12:Int) (t13:Int) (t14:Int) (t135:(List Int)) (t136:Int) (t137:Int) (o0:(den Zb)) (o1:(den Zz)) (o2:(den Zb)) (o3:(List (List Int))) (o4:(den Zb)) (o5:(List Int)) (o6:(List (den Za))):Option Xa.R :=
  lpN n AM1 m0 (Jr 1 (Jf (run (gc n) n) AM0 (Xk Xa.fn Xa.res) (Xk Xa.fn Xa.res)) (Xk Xa.fn Xa.res))
    [(0,.dat Zb t0 []),(1,.dat (.int .i64) t1 []),(2,.dat Zz t2 []),(3,.ptr 0 []),(5,.ptr 1 []),(6,.ptr 2 []),(7,.dat (.int .i64) t7 []),(8,.dat (.int .i64) t8 []),(9,.dat (.sl (.int .i64)) t9 []),(10,.clo 113 [.ptr 0 []]),(11,.dat (.int .i64) t11 []),(12,.dat (.int .i64) t12 []),(13,.dat (.int .i64) t13 []),(14,.dat (.int .i64) t14 []),(15,.ptr 4 []),(135,.dat (.sl (.int .i64)) t135 []),(136,.dat (.int .i64) t136 []),(137,.dat (.int .i64) t137 [])]
    [.box Zb o0 [],.box Zz o1 [],.box Zb o2 [],.frz (.sl (.int .i64)) o3,.box Zb o4 [([2],some 5),([3],some 6)],.arr (.int .i64) o5,.arr Za o6]
def Xa.l1 (n m0:Nat) (t0_1:(den Zb)) (t1_1:Int) (t2_1:(den Zz)) (t7_1:Int) (t8_1:Int) (t9_1:(List Int)) (t11_1:Int) (t12_1:Int) (t13_1:Int) (t14_1:Int) (t135_1:(List Int)) (t136_1:Int) (t137_1:Int) (t149_1:(List Int)) (t150_1:Int) (t151_1:Int) (o0_1:(den Zb)) (o1_1:(den Zz)) (o2_1:(den Zb)) (o3_1:(List (List Int))) (o4_1:(den Zb)) (o5_1:(List Int)) (o6_1:(List (den Za))):Option Xa.R :=
  lpN n AM3 m0 (Jr 3 (Jf (run (gc n) n) AM2 (Xk Xa.fn Xa.res) (Xk Xa.fn Xa.res)) (Xk Xa.fn Xa.res))
    [(0,.dat Zb t0_1 []),(1,.dat (.int .i64) t1_1 []),(2,.dat Zz t2_1 []),(3,.ptr 0 []),(5,.ptr 1 []),(6,.ptr 2 []),(7,.dat (.int .i64) t7_1 []),(8,.dat (.int .i64) t8_1 []),(9,.dat (.sl (.int .i64)) t9_1 []),(10,.clo 113 [.ptr 0 []]),(11,.dat (.int .i64) t11_1 []),(12,.dat (.int .i64) t12_1 []),(13,.dat (.int .i64) t13_1 []),(14,.dat (.int .i64) t14_1 []),(15,.ptr 4 []),(135,.dat (.sl (.int .i64)) t135_1 []),(136,.dat (.int .i64) t136_1 []),(137,.dat (.int .i64) t137_1 []),(149,.dat (.sl (.int .i64)) t149_1 []),(150,.dat (.int .i64) t150_1 []),(151,.dat (.int .i64) t151_1 [])]
    [.box Zb o0_1 [],.box Zz o1_1 [],.box Zb o2_1 [],.frz (.sl (.int .i64)) o3_1,.box Zb o4_1 [([2],some 5),([3],some 6)],.arr (.int .i64) o5_1,.arr Za o6_1]
theorem Xa.l0_eq (n m0:Nat) (t0:(den Zb)) (t1:Int) (t2:(den Zz)) (t7:Int) (t8:Int) (t9:(List Int)) (t11:Int) (t12:Int) (t13:Int) (t14:Int) (t135:(List Int)) (t136:Int) (t137:Int) (o0:(den Zb)) (o1:(den Zz)) (o2:(den Zb)) (o3:(List (List Int))) (o4:(den Zb)) (o5:(List Int)) (o6:(List (den Za))):Xa.l0 n (m0+1) t0 t1 t2 t7 t8 t9 t11 t12 t13 t14 t135 t136 t137 o0 o1 o2 o3 o4 o5 o6 =
  bif (decide (t137<t136)) then
    if (0:Int)≤t137∧t137<(((List.length t135):Nat):Int) then
    Option.bind (Y9 n t8) fun r13 =>
    if (0:Int)≤(List.getD t135 (Int.toNat t137) (0:Int):Int)∧(List.getD t135 (Int.toNat t137) (0:Int):Int)<(((List.length o6):Nat):Int) then
    Xa.l0 n m0 t0 t1 t2 t7 t8 t9 t11 t12 t13 t14 t135 t136 (IntKind.wrap .i64 (t137+1)) o0 o1 o2 o3 o4 o5 (List.set o6 (Int.toNat (List.getD t135 (Int.toNat t137) (0:Int):Int)) r13.1.1:(List (den Za)))
    else none
    else none
  else
    Xa.l1 n n t0 t1 t2 t7 t8 t9 t11 t12 t13 t14 t135 t136 t137 (o1.2.2.2.2.2.2.2.1:(List Int)) ((List.length (o1.2.2.2.2.2.2.2.1:(List Int))):Int) 0 o0 o1 o2 o3 o4 o5 o6:=by kernel_rfl
theorem Xa.l1_eq (n m0:Nat) (t0_1:(den Zb)) (t1_1:Int) (t2_1:(den Zz)) (t7_1:Int) (t8_1:Int) (t9_1:(List Int)) (t11_1:Int) (t12_1:Int) (t13_1:Int) (t14_1:Int) (t135_1:(List Int)) (t136_1:Int) (t137_1:Int) (t149_1:(List Int)) (t150_1:Int) (t151_1:Int) (o0_1:(den Zb)) (o1_1:(den Zz)) (o2_1:(den Zb)) (o3_1:(List (List Int))) (o4_1:(den Zb)) (o5_1:(List Int)) (o6_1:(List (den Za))):Xa.l1 n (m0+1) t0_1 t1_1 t2_1 t7_1 t8_1 t9_1 t11_1 t12_1 t13_1 t14_1 t135_1 t136_1 t137_1 t149_1 t150_1 t151_1 o0_1 o1_1 o2_1 o3_1 o4_1 o5_1 o6_1 =
  bif (decide (t151_1<t150_1)) then
    if (0:Int)≤t151_1∧t151_1<(((List.length t149_1):Nat):Int) then
    Option.bind (Y9 n t1_1) fun r14 =>
    if (0:Int)≤(List.getD t149_1 (Int.toNat t151_1) (0:Int):Int)∧(List.getD t149_1 (Int.toNat t151_1) (0:Int):Int)<(((List.length o6_1):Nat):Int) then
    Xa.l1 n m0 t0_1 t1_1 t2_1 t7_1 t8_1 t9_1 t11_1 t12_1 t13_1 t14_1 t135_1 t136_1 t137_1 t149_1 t150_1 (IntKind.wrap .i64 (t151_1+1)) o0_1 o1_1 o2_1 o3_1 o4_1 o5_1 (List.set o6_1 (Int.toNat (List.getD t149_1 (Int.toNat t151_1) (0:Int):Int)) r14.1.1:(List (den Za)))
    else none
    else none
  else
    some (((o4_1.1,(o4_1.2.1:(List Int)),o5_1,o6_1,()),0,()),[(0,[2]),(0,[3])]):=by kernel_rfl
theorem Xa.eq (n:Nat) (a0:(den Zb)) (a1:Int) (a2:(den Zz)):Xa (n+1) a0 a1 a2 =
  Option.bind (V8 n ([(a2.2.2.2.2.2.1:(List Int)),(a2.2.2.2.2.2.2.2.1:(List Int))]:List (List Int))) fun r1 =>
  Option.bind (Qp n a0 (a2.2.2.2.2.1:Int)) fun r2 =>
  bif (!(r2.1.1:Bool)) then
    some ((a0,3,()),[])
  else
    Option.bind (Xh n (r1.1.1:(List Int)) a0) fun r3 =>
    bif (r3.1.1:Bool) then
      some ((a0,3,()),[])
    else
      bif (decide ((a2.2.2.2.2.1:Int)=a1)) then
        some ((a0,12,()),[])
      else
        if (0:Int)≤(a2.2.2.2.2.1:Int)∧(a2.2.2.2.2.1:Int)<(((List.length (a0.2.1:(List Int))):Nat):Int) then
        if (0:Int)≤a1∧a1<(((List.length (a0.2.1:(List Int))):Nat):Int) then
        bif (!(decide ((List.getD (a0.2.1:(List Int)) (Int.toNat (a2.2.2.2.2.1:Int)) (0:Int):Int)=(List.getD (a0.2.1:(List Int)) (Int.toNat a1) (0:Int):Int)))) then
          some ((a0,5,()),[])
        else
          Option.bind (Xy n (r1.1.1:(List Int))) fun r4 =>
          bif (r4.1.1:Bool) then
            some ((a0,13,()),[])
          else
            Option.bind (Qe n (a2.2.2.2.2.2.1:(List Int)) a1 a0) fun r5 =>
            bif (r5.1.1:Bool) then
              some ((a0,5,()),[])
            else
              Option.bind (Qe n (a2.2.2.2.2.2.2.2.1:(List Int)) (a2.2.2.2.2.1:Int) a0) fun r6 =>
              bif (r6.1.1:Bool) then
                some ((a0,5,()),[])
              else
                Option.bind (Y9 n a1) fun r7 =>
                Option.bind (Jp n a0 r7.1.1) fun r8 =>
                bif (decide ((r8.1.1:Int)<(IntKind.wrap .i64 (((List.length (a2.2.2.2.2.2.2.2.1:(List Int))):Int) - ((List.length (a2.2.2.2.2.2.1:(List Int))):Int))))) then
                  some ((a0,9,()),[])
                else
                  Option.bind (Y9 n (a2.2.2.2.2.1:Int)) fun r9 =>
                  Option.bind (Jp n a0 r9.1.1) fun r10 =>
                  bif (decide ((r10.1.1:Int)<(IntKind.wrap .i64 (0 - (IntKind.wrap .i64 (((List.length (a2.2.2.2.2.2.2.2.1:(List Int))):Int) - ((List.length (a2.2.2.2.2.2.1:(List Int))):Int))))))) then
                    some ((a0,9,()),[])
                  else
                    if (0:Int)≤a1∧a1<(((List.length (a0.2.2.1:(List Int))):Nat):Int) then
                    if (0:Int)≤(a2.2.2.2.2.1:Int)∧(a2.2.2.2.2.1:Int)<(((List.length (a0.2.2.1:(List Int))):Nat):Int) then
                    Option.bind (Kr n (List.getD (a0.2.2.1:(List Int)) (Int.toNat a1) (0:Int):Int) (List.getD (a0.2.2.1:(List Int)) (Int.toNat (a2.2.2.2.2.1:Int)) (0:Int):Int) (a2.2.2.2.2.2.2.1:Int) (a2.2.2.2.2.2.2.2.2.1:Int)) fun r11 =>
                    bif (!(decide ((r11.1.2.2.1:Int)=0))) then
                      some ((a0,(r11.1.2.2.1:Int),()),[])
                    else
                      Option.bind (Jz n a0) fun r12 =>
                      bif (Zp r12.2 [((0,[2]),5),((0,[3]),6)]) then
                        if (0:Int)≤a1∧a1<(((List.length (r12.1.1.2.2.1:(List Int))):Nat):Int) then
                        if (0:Int)≤(a2.2.2.2.2.1:Int)∧(a2.2.2.2.2.1:Int)<(((List.length (List.set (r12.1.1.2.2.1:(List Int)) (Int.toNat a1) (r11.1.1:Int):(List Int))):Nat):Int) then
                        Xa.l0 n n a0 a1 a2 0 (a2.2.2.2.2.1:Int) (r1.1.1:(List Int)) (IntKind.wrap .i64 (((List.length (a2.2.2.2.2.2.2.2.1:(List Int))):Int) - ((List.length (a2.2.2.2.2.2.1:(List Int))):Int))) (r11.1.1:Int) (r11.1.2.1:Int) (r11.1.2.2.1:Int) (a2.2.2.2.2.2.1:(List Int)) ((List.length (a2.2.2.2.2.2.1:(List Int))):Int) 0 a0 a2 ((([]:List (List Int)),([]:List Int),([]:List Int),([]:List Int),([]:List Bool),0,0,0,()),([]:List Int),([]:List Int),([]:List (den Za)),()) ([(a2.2.2.2.2.2.1:(List Int)),(a2.2.2.2.2.2.2.2.1:(List Int))]:List (List Int)) (r12.1.1.1,(r12.1.1.2.1:(List Int)),([]:List Int),([]:List (den Za)),()) (List.set (List.set (r12.1.1.2.2.1:(List Int)) (Int.toNat a1) (r11.1.1:Int):(List Int)) (Int.toNat (a2.2.2.2.2.1:Int)) (r11.1.2.1:Int):(List Int)) (r12.1.1.2.2.2.1:(List (den Za)))
                        else none
                        else none
                      else
                        none
                    else none
                    else none
        else none
        else none:=by kernel_rfl
@[reducible] def Yt.R:Type:=Xf [.d Z9]×Z0
def Yt (n:Nat) (a0:Int) (a1:Int) (a2:Int):Option Yt.R:=gc n 83 [.dat (.int .i64) a0 [],.dat (.int .i64) a1 [],.dat (.int .i64) a2 []] [.d Z9]
theorem Yt.eq (n:Nat) (a0:Int) (a1:Int) (a2:Int):Yt (n+1) a0 a1 a2 =
  bif (!(decide (a2=0))) then
    some (((a2,0,0,([]:List Int),([]:List (den Ym)),0,()),()),[])
  else
    some (((0,a0,a1,([]:List Int),([]:List (den Ym)),0,()),()),[]):=by kernel_rfl
@[reducible] def Q9.R:Type:=Xf [.d Zb,.d Z9]×Z0
def Q9 (n:Nat) (a0:(den Zb)) (a1:Int) (a2:(den Zz)):Option Q9.R:=gc n 87 [.dat Zb a0 [],.dat (.int .i64) a1 [],.dat Zz a2 [],.refv (.clo 66 [])] [.d Zb,.d Z9]
theorem Q9.eq (n:Nat) (a0:(den Zb)) (a1:Int) (a2:(den Zz)):Q9 (n+1) a0 a1 a2 =
  Option.bind (Xa n a0 a1 a2) fun r1 =>
  Option.bind (Yt n (a2.1:Int) 0 (r1.1.2.1:Int)) fun r2 =>
  some ((r1.1.1,r2.1.1,()),[]):=by kernel_rfl
@[reducible] def Hq.R:Type:=Xf [.d Zb]×Z0
def Hq (n:Nat) (a0:(den Zb)) (a1:Int) (a2:(den Za)):Option Hq.R:=gc n 103 [.dat Zb a0 [],.dat (.int .i64) a1 [],.dat Za a2 []] [.d Zb]
theorem Hq.eq (n:Nat) (a0:(den Zb)) (a1:Int) (a2:(den Za)):Hq (n+1) a0 a1 a2 =
  Option.bind (Jz n a0) fun r1 =>
  bif (Zp r1.2 [((0,[3]),4)]) then
    if (0:Int)≤a1∧a1<(((List.length (r1.1.1.2.2.2.1:(List (den Za)))):Nat):Int) then
    some (((r1.1.1.1,(r1.1.1.2.1:(List Int)),(r1.1.1.2.2.1:(List Int)),(List.set (r1.1.1.2.2.2.1:(List (den Za))) (Int.toNat a1) a2:(List (den Za))),()),()),[(0,[3])])
    else none
  else
    none:=by kernel_rfl
@[reducible] def V2.R:Type:=Xf [.d Zb,.d (.int .i64)]×Z0
def V2 (n:Nat) (a0:(den Zb)) (a1:Int) (a2:Int) (a3:Int):Option V2.R:=gc n 65 [.dat Zb a0 [],.dat (.int .i64) a1 [],.dat (.int .i64) a2 [],.dat (.int .i64) a3 []] [.d Zb,.d (.int .i64)]
theorem V2.eq (n:Nat) (a0:(den Zb)) (a1:Int) (a2:Int) (a3:Int):V2 (n+1) a0 a1 a2 a3 =
  Option.bind (Hf n a0 a2) fun r1 =>
  bif (!(r1.1.1:Bool)) then
    some ((a0,3,()),[])
  else
    Option.bind (Qp n a0 a3) fun r2 =>
    bif (!(r2.1.1:Bool)) then
      some ((a0,3,()),[])
    else
      bif (decide (a3=a1)) then
        some ((a0,12,()),[])
      else
        if (0:Int)≤a3∧a3<(((List.length (a0.2.1:(List Int))):Nat):Int) then
        if (0:Int)≤a1∧a1<(((List.length (a0.2.1:(List Int))):Nat):Int) then
        bif (!(decide ((List.getD (a0.2.1:(List Int)) (Int.toNat a3) (0:Int):Int)=(List.getD (a0.2.1:(List Int)) (Int.toNat a1) (0:Int):Int)))) then
          some ((a0,5,()),[])
        else
          if (0:Int)≤a2∧a2<(((List.length (a0.2.2.2.1:(List (den Za)))):Nat):Int) then
          Option.bind (Y9 n a1) fun r3 =>
          bif (!(eqT Za (List.getD (a0.2.2.2.1:(List (den Za))) (Int.toNat a2) (dft Za):(den Za)) r3.1.1)) then
            some ((a0,5,()),[])
          else
            Option.bind (Y9 n a3) fun r4 =>
            Option.bind (Jp n a0 r4.1.1) fun r5 =>
            bif (decide ((r5.1.1:Int)<1)) then
              some ((a0,9,()),[])
            else
              Option.bind (Y9 n a3) fun r6 =>
              Option.bind (Hq n a0 a2 r6.1.1) fun r7 =>
              some ((r7.1.1,0,()),[])
          else none
        else none
        else none:=by kernel_rfl
@[reducible] def Q7.R:Type:=Xf [.d Zb,.d (.int .i64)]×Z0
def Q7 (n:Nat) (a0:(den Zb)) (a1:Int) (a2:(den Zz)):Option Q7.R:=gc n 64 [.dat Zb a0 [],.dat (.int .i64) a1 [],.dat Zz a2 []] [.d Zb,.d (.int .i64)]
theorem Q7.eq (n:Nat) (a0:(den Zb)) (a1:Int) (a2:(den Zz)):Q7 (n+1) a0 a1 a2 =
  Option.bind (V2 n a0 a1 (a2.2.2.1:Int) (a2.2.2.2.2.1:Int)) fun r1 =>
  some ((r1.1.1,(r1.1.2.1:Int),()),[]):=by kernel_rfl
@[reducible] def Vw.R:Type:=Xf [.d Zb,.d Z9]×Z0
def Vw (n:Nat) (a0:(den Zb)) (a1:Int) (a2:(den Zz)):Option Vw.R:=gc n 87 [.dat Zb a0 [],.dat (.int .i64) a1 [],.dat Zz a2 [],.refv (.clo 64 [])] [.d Zb,.d Z9]
theorem Vw.eq (n:Nat) (a0:(den Zb)) (a1:Int) (a2:(den Zz)):Vw (n+1) a0 a1 a2 =
  Option.bind (Q7 n a0 a1 a2) fun r1 =>
  Option.bind (Yt n (a2.1:Int) 0 (r1.1.2.1:Int)) fun r2 =>
  some ((r1.1.1,r2.1.1,()),[]):=by kernel_rfl
@[reducible] def Jh.R:Type:=Xf [.d .bool]×Z0
def Jh (n:Nat) (a0:(den Zb)) (a1:Int):Option Jh.R:=gc n 92 [.dat Zb a0 [],.dat (.int .i64) a1 []] [.d .bool]
theorem Jh.eq (n:Nat) (a0:(den Zb)) (a1:Int):Jh (n+1) a0 a1 =
  bif (decide (a1<0)) then
    some ((true,()),[])
  else
    some (((decide (((List.length (a0.2.2.2.1:(List (den Za)))):Int)≤a1)),()),[]):=by kernel_rfl
@[reducible] def Y1.R:Type:=Xf [.d .bool]×Z0
def Y1 (n:Nat) (a0:(den Zb)) (a1:Int) (a2:Int):Option Y1.R:=gc n 104 [.ref Zb a0,.ref (.int .i64) a1,.ref (.int .i64) a2] [.d .bool]
theorem Y1.eq (n:Nat) (a0:(den Zb)) (a1:Int) (a2:Int):Y1 (n+1) a0 a1 a2 =
  Option.bind (Jh n a0 a1) fun r1 =>
  bif (r1.1.1:Bool) then
    some ((true,()),[])
  else
    Option.bind (Jh n a0 a2) fun r2 =>
    some (((r2.1.1:Bool),()),[]):=by kernel_rfl
@[reducible] def Vf.R:Type:=Xf [.d .bool]×Z0
def Vf (n:Nat) (a0:(den Zb)) (a1:Int) (a2:Int):Option Vf.R:=gc n 94 [.dat Zb a0 [],.dat (.int .i64) a1 [],.dat (.int .i64) a2 []] [.d .bool]
theorem Vf.eq (n:Nat) (a0:(den Zb)) (a1:Int) (a2:Int):Vf (n+1) a0 a1 a2 =
  Option.bind (Kf n a0 a2) fun r1 =>
  if (0:Int)≤a1∧a1<(((List.length (a0.2.1:(List Int))):Nat):Int) then
  bif (eqT Za r1.1.1 (0,(List.getD (a0.2.1:(List Int)) (Int.toNat a1) (0:Int):Int),())) then
    some ((true,()),[])
  else
    some (((eqT Za r1.1.1 (1,a1,())),()),[])
  else none:=by kernel_rfl
@[reducible] def Ja.R:Type:=Xf [.d .bool]×Z0
def Ja (n:Nat) (a0:(den Zb)) (a1:Int) (a2:Int):Option Ja.R:=gc n 105 [.ref Zb a0,.ref (.int .i64) a1,.ref (.int .i64) a2] [.d .bool]
theorem Ja.eq (n:Nat) (a0:(den Zb)) (a1:Int) (a2:Int):Ja (n+1) a0 a1 a2 =
  Option.bind (Vf n a0 a1 a2) fun r1 =>
  some (((!(r1.1.1:Bool)),()),[]):=by kernel_rfl
@[reducible] def Jb.R:Type:=Xf [.d .bool]×Z0
def Jb (n:Nat) (a0:(den Zb)) (a1:Int):Option Jb.R:=gc n 106 [.ref Zb a0,.ref (.int .i64) a1] [.d .bool]
theorem Jb.eq (n:Nat) (a0:(den Zb)) (a1:Int):Jb (n+1) a0 a1 =
  if (0:Int)≤a1∧a1<(((List.length (a0.1.2.2.2.2.1:(List Bool))):Nat):Int) then
  some (((!(List.getD (a0.1.2.2.2.2.1:(List Bool)) (Int.toNat a1) false:Bool)),()),[])
  else none:=by kernel_rfl
@[reducible] def Jc.R:Type:=Xf [.d .bool]×Z0
def Jc (n:Nat) (a0:(den Zb)) (a1:Int) (a2:(den Za)):Option Jc.R:=gc n 107 [.ref Zb a0,.ref (.int .i64) a1,.ref Za a2] [.d .bool]
theorem Jc.eq (n:Nat) (a0:(den Zb)) (a1:Int) (a2:(den Za)):Jc (n+1) a0 a1 a2 =
  if (0:Int)≤a1∧a1<(((List.length (a0.2.2.2.1:(List (den Za)))):Nat):Int) then
  some (((!(eqT Za (List.getD (a0.2.2.2.1:(List (den Za))) (Int.toNat a1) (dft Za):(den Za)) a2)),()),[])
  else none:=by kernel_rfl
@[reducible] def Jd.R:Type:=Xf [.d .bool]×Z0
def Jd (n:Nat) (a0:(den Zb)) (a1:(den Za)):Option Jd.R:=gc n 108 [.ref Zb a0,.ref Za a1] [.d .bool]
theorem Jd.eq (n:Nat) (a0:(den Zb)) (a1:(den Za)):Jd (n+1) a0 a1 =
  Option.bind (Jp n a0 a1) fun r1 =>
  some (((decide ((r1.1.1:Int)<1)),()),[]):=by kernel_rfl
@[reducible] def Qv.R:Type:=Xf [.d (.int .i64)]×Z0
def Qv (n:Nat) (a0:(den Zb)) (a1:Int) (a2:Int) (a3:Int) (a4:(den Zb)) (a5:Int) (a6:Int) (a7:Int) (a8:(den Zb)) (a9:Int) (a10:Int) (a11:(den Zb)) (a12:Int) (a13:(den Za)) (a14:Int) (a15:(den Zb)) (a16:(den Za)) (a17:Int):Option Qv.R:=gc n 90 [.slv [.agv [.clo 104 [.ref Zb a0,.ref (.int .i64) a1,.ref (.int .i64) a2],.dat (.int .i64) a3 []],.agv [.clo 105 [.ref Zb a4,.ref (.int .i64) a5,.ref (.int .i64) a6],.dat (.int .i64) a7 []],.agv [.clo 106 [.ref Zb a8,.ref (.int .i64) a9],.dat (.int .i64) a10 []],.agv [.clo 107 [.ref Zb a11,.ref (.int .i64) a12,.ref Za a13],.dat (.int .i64) a14 []],.agv [.clo 108 [.ref Zb a15,.ref Za a16],.dat (.int .i64) a17 []]]] [.d (.int .i64)]
theorem Qv.eq (n:Nat) (a0:(den Zb)) (a1:Int) (a2:Int) (a3:Int) (a4:(den Zb)) (a5:Int) (a6:Int) (a7:Int) (a8:(den Zb)) (a9:Int) (a10:Int) (a11:(den Zb)) (a12:Int) (a13:(den Za)) (a14:Int) (a15:(den Zb)) (a16:(den Za)) (a17:Int):Qv (n+14) a0 a1 a2 a3 a4 a5 a6 a7 a8 a9 a10 a11 a12 a13 a14 a15 a16 a17 =
  Option.bind (Y1 (n+13) a0 a1 a2) fun r1 =>
  bif (r1.1.1:Bool) then
    some ((a3,()),[])
  else
    Option.bind (Ja (n+13) a4 a5 a6) fun r2 =>
    bif (r2.1.1:Bool) then
      some ((a7,()),[])
    else
      Option.bind (Jb (n+13) a8 a9) fun r3 =>
      bif (r3.1.1:Bool) then
        some ((a10,()),[])
      else
        Option.bind (Jc (n+13) a11 a12 a13) fun r4 =>
        bif (r4.1.1:Bool) then
          some ((a14,()),[])
        else
          Option.bind (Jd (n+13) a15 a16) fun r5 =>
          bif (r5.1.1:Bool) then
            some ((a17,()),[])
          else
            some ((0,()),[]):=by kernel_rfl
@[reducible] def V1.R:Type:=Xf [.d Zb,.d (.int .i64)]×Z0
def V1 (n:Nat) (a0:(den Zb)) (a1:Int) (a2:Int) (a3:Int):Option V1.R:=gc n 63 [.dat Zb a0 [],.dat (.int .i64) a1 [],.dat (.int .i64) a2 [],.dat (.int .i64) a3 []] [.d Zb,.d (.int .i64)]
theorem V1.eq (n:Nat) (a0:(den Zb)) (a1:Int) (a2:Int) (a3:Int):V1 (n+1) a0 a1 a2 a3 =
  Option.bind (Qv n a0 a2 a3 3 a0 a1 a3 5 a0 a3 6 a0 a2 (2,a3,()) 5 a0 (1,a1,()) 9) fun r1 =>
  bif (!(decide ((r1.1.1:Int)=0))) then
    some ((a0,(r1.1.1:Int),()),[])
  else
    Option.bind (Hq n a0 a2 (1,a1,())) fun r2 =>
    some ((r2.1.1,0,()),[]):=by kernel_rfl
@[reducible] def Q6.R:Type:=Xf [.d Zb,.d (.int .i64)]×Z0
def Q6 (n:Nat) (a0:(den Zb)) (a1:Int) (a2:(den Zz)):Option Q6.R:=gc n 62 [.dat Zb a0 [],.dat (.int .i64) a1 [],.dat Zz a2 []] [.d Zb,.d (.int .i64)]
theorem Q6.eq (n:Nat) (a0:(den Zb)) (a1:Int) (a2:(den Zz)):Q6 (n+1) a0 a1 a2 =
  Option.bind (V1 n a0 a1 (a2.2.2.1:Int) (a2.2.2.2.1:Int)) fun r1 =>
  some ((r1.1.1,(r1.1.2.1:Int),()),[]):=by kernel_rfl
@[reducible] def Vx.R:Type:=Xf [.d Zb,.d Z9]×Z0
def Vx (n:Nat) (a0:(den Zb)) (a1:Int) (a2:(den Zz)):Option Vx.R:=gc n 87 [.dat Zb a0 [],.dat (.int .i64) a1 [],.dat Zz a2 [],.refv (.clo 62 [])] [.d Zb,.d Z9]
theorem Vx.eq (n:Nat) (a0:(den Zb)) (a1:Int) (a2:(den Zz)):Vx (n+1) a0 a1 a2 =
  Option.bind (Q6 n a0 a1 a2) fun r1 =>
  Option.bind (Yt n (a2.1:Int) 0 (r1.1.2.1:Int)) fun r2 =>
  some ((r1.1.1,r2.1.1,()),[]):=by kernel_rfl
@[reducible] def Qg.R:Type:=Xf [.d .bool]×Z0
def Qg (n:Nat) (a0:(den Zb)) (a1:Int) (a2:Int):Option Qg.R:=gc n 91 [.ref Zb a0,.ref (.int .i64) a1,.ref (.int .i64) a2] [.d .bool]
theorem Qg.eq (n:Nat) (a0:(den Zb)) (a1:Int) (a2:Int):Qg (n+1) a0 a1 a2 =
  Option.bind (Jh n a0 a1) fun r1 =>
  bif (r1.1.1:Bool) then
    some ((true,()),[])
  else
    Option.bind (Jh n a0 a2) fun r2 =>
    some (((r2.1.1:Bool),()),[]):=by kernel_rfl
@[reducible] def J1.R:Type:=Xf [.d .bool]×Z0
def J1 (n:Nat) (a0:(den Zb)) (a1:Int) (a2:(den Za)) (a3:Int) (a4:Int):Option J1.R:=gc n 93 [.ref Zb a0,.ref (.int .i64) a1,.ref Za a2,.ref (.int .i64) a3,.ref (.int .i64) a4] [.d .bool]
theorem J1.eq (n:Nat) (a0:(den Zb)) (a1:Int) (a2:(den Za)) (a3:Int) (a4:Int):J1 (n+1) a0 a1 a2 a3 a4 =
  if (0:Int)≤a1∧a1<(((List.length (a0.2.2.2.1:(List (den Za)))):Nat):Int) then
  bif (!(eqT Za (List.getD (a0.2.2.2.1:(List (den Za))) (Int.toNat a1) (dft Za):(den Za)) a2)) then
    some ((true,()),[])
  else
    Option.bind (Vf n a0 a3 a4) fun r1 =>
    some (((!(r1.1.1:Bool)),()),[])
  else none:=by kernel_rfl
@[reducible] def J2.R:Type:=Xf [.d .bool]×Z0
def J2 (n:Nat) (a0:(den Zb)) (a1:Int):Option J2.R:=gc n 95 [.ref Zb a0,.ref (.int .i64) a1] [.d .bool]
theorem J2.eq (n:Nat) (a0:(den Zb)) (a1:Int):J2 (n+1) a0 a1 =
  if (0:Int)≤a1∧a1<(((List.length (a0.1.2.2.2.2.1:(List Bool))):Nat):Int) then
  some (((!(List.getD (a0.1.2.2.2.2.1:(List Bool)) (Int.toNat a1) false:Bool)),()),[])
  else none:=by kernel_rfl
@[reducible] def Tc.R:Type:=Xf [.d .bool]×Z0
def Tc (n:Nat) (a0:(den Zb)) (a1:Int) (a2:Int):Option Tc.R:=gc n 97 [.dat Zb a0 [],.dat (.int .i64) a1 [],.dat (.int .i64) a2 []] [.d .bool]
@[reducible] def J3.R:Type:=Xf [.d .bool]×Z0
def J3 (n:Nat) (a0:(den Zb)) (a1:Int) (a2:Int):Option J3.R:=gc n 96 [.ref Zb a0,.ref (.int .i64) a1,.ref (.int .i64) a2] [.d .bool]
theorem J3.eq (n:Nat) (a0:(den Zb)) (a1:Int) (a2:Int):J3 (n+1) a0 a1 a2 =
  Option.bind (Tc n a0 a1 a2) fun r1 =>
  some (((r1.1.1:Bool),()),[]):=by kernel_rfl
@[reducible] def Jy.R:Type:=Xf [.d (.int .i64)]×Z0
def Jy (n:Nat) (a0:(den Zb)) (a1:Int):Option Jy.R:=gc n 99 [.dat Zb a0 [],.dat (.int .i64) a1 []] [.d (.int .i64)]
theorem Jy.eq (n:Nat) (a0:(den Zb)) (a1:Int):Jy (n+1) a0 a1 =
  Option.bind (G0 n a0 a1) fun r1 =>
  Option.bind (Qx n r1.1.1.1 (r1.1.1.2.1:Int)) fun r2 =>
  some (((IntKind.wrap .i64 (((List.length (r2.1.1:(List (den Za)))):Int) - 1)),()),[]):=by kernel_rfl
def Xt.res:List Sh:=[.d (.int .i64)]
@[reducible] def Xt.R:Type:=Xf [.d (.int .i64)]×Z0
def Xt (n:Nat) (a0:(den Zb)) (a1:Int):Option Xt.R:=gc n 100 [.dat Zb a0 [],.dat (.int .i64) a1 []] [.d (.int .i64)]
def Xt.l0 (n m0:Nat) (t0:(den Zb)) (t1:Int) (t4:Int) (t5:Int) (t9:Int) (t10:Int) (o0:(den Zb)):Option Xt.R :=
  lpN n AL9 m0 (Jr 0 (Jf (run (gc n) n) AL8 (Xk Xt.fn Xt.res) (Xk Xt.fn Xt.res)) (Xk Xt.fn Xt.res))
    [(0,.dat Zb t0 []),(1,.dat (.int .i64) t1 []),(2,.ptr 0 []),(4,.dat (.int .i64) t4 []),(5,.dat (.int .i64) t5 []),(9,.dat (.int .i64) t9 []),(10,.dat (.int .i64) t10 [])]
    [.box Zb o0 []]
theorem Xt.l0_eq (n m0:Nat) (t0:(den Zb)) (t1:Int) (t4:Int) (t5:Int) (t9:Int) (t10:Int) (o0:(den Zb)):Xt.l0 n (m0+1) t0 t1 t4 t5 t9 t10 o0 =
  bif (decide (t10<t9)) then
    Option.bind (Tc n o0 t10 t1) fun r1 =>
    bif (r1.1.1:Bool) then
      Option.bind (Jy n o0 t10) fun r2 =>
      Option.bind (Jy n o0 t1) fun r3 =>
      Xt.l0 n m0 t0 t1 t4 (if t5<(IntKind.wrap .i64 ((r2.1.1:Int) - (r3.1.1:Int))) then (IntKind.wrap .i64 ((r2.1.1:Int) - (r3.1.1:Int))) else t5) t9 (IntKind.wrap .i64 (t10+1)) o0
    else
      Xt.l0 n m0 t0 t1 t4 t5 t9 (IntKind.wrap .i64 (t10+1)) o0
  else
    some ((t5,()),[]):=by kernel_rfl
theorem Xt.eq (n:Nat) (a0:(den Zb)) (a1:Int):Xt (n+1) a0 a1 =
  Xt.l0 n n a0 a1 0 0 ((List.length (a0.2.2.2.1:(List (den Za)))):Int) 0 a0:=by kernel_rfl
@[reducible] def J4.R:Type:=Xf [.d .bool]×Z0
def J4 (n:Nat) (a0:(den Zb)) (a1:Int) (a2:Int):Option J4.R:=gc n 98 [.ref Zb a0,.ref (.int .i64) a1,.ref (.int .i64) a2] [.d .bool]
theorem J4.eq (n:Nat) (a0:(den Zb)) (a1:Int) (a2:Int):J4 (n+1) a0 a1 a2 =
  Option.bind (Jy n a0 a1) fun r1 =>
  Option.bind (Xt n a0 a2) fun r2 =>
  some (((decide (4<(IntKind.wrap .i64 ((IntKind.wrap .i64 ((r1.1.1:Int)+1))+(r2.1.1:Int))))),()),[]):=by kernel_rfl
@[reducible] def J5.R:Type:=Xf [.d .bool]×Z0
def J5 (n:Nat) (a0:(den Zb)) (a1:(den Za)):Option J5.R:=gc n 101 [.ref Zb a0,.ref Za a1] [.d .bool]
theorem J5.eq (n:Nat) (a0:(den Zb)) (a1:(den Za)):J5 (n+1) a0 a1 =
  Option.bind (Jp n a0 a1) fun r1 =>
  some (((decide ((r1.1.1:Int)<1)),()),[]):=by kernel_rfl
@[reducible] def Ql.R:Type:=Xf [.d (.int .i64)]×Z0
def Ql (n:Nat) (a0:(den Zb)) (a1:Int) (a2:Int) (a3:Int) (a4:(den Zb)) (a5:Int) (a6:(den Za)) (a7:Int) (a8:Int) (a9:Int) (a10:(den Zb)) (a11:Int) (a12:Int) (a13:(den Zb)) (a14:Int) (a15:Int) (a16:Int) (a17:(den Zb)) (a18:Int) (a19:Int) (a20:Int) (a21:(den Zb)) (a22:(den Za)) (a23:Int):Option Ql.R:=gc n 90 [.slv [.agv [.clo 91 [.ref Zb a0,.ref (.int .i64) a1,.ref (.int .i64) a2],.dat (.int .i64) a3 []],.agv [.clo 93 [.ref Zb a4,.ref (.int .i64) a5,.ref Za a6,.ref (.int .i64) a7,.ref (.int .i64) a8],.dat (.int .i64) a9 []],.agv [.clo 95 [.ref Zb a10,.ref (.int .i64) a11],.dat (.int .i64) a12 []],.agv [.clo 96 [.ref Zb a13,.ref (.int .i64) a14,.ref (.int .i64) a15],.dat (.int .i64) a16 []],.agv [.clo 98 [.ref Zb a17,.ref (.int .i64) a18,.ref (.int .i64) a19],.dat (.int .i64) a20 []],.agv [.clo 101 [.ref Zb a21,.ref Za a22],.dat (.int .i64) a23 []]]] [.d (.int .i64)]
theorem Ql.eq (n:Nat) (a0:(den Zb)) (a1:Int) (a2:Int) (a3:Int) (a4:(den Zb)) (a5:Int) (a6:(den Za)) (a7:Int) (a8:Int) (a9:Int) (a10:(den Zb)) (a11:Int) (a12:Int) (a13:(den Zb)) (a14:Int) (a15:Int) (a16:Int) (a17:(den Zb)) (a18:Int) (a19:Int) (a20:Int) (a21:(den Zb)) (a22:(den Za)) (a23:Int):Ql (n+14) a0 a1 a2 a3 a4 a5 a6 a7 a8 a9 a10 a11 a12 a13 a14 a15 a16 a17 a18 a19 a20 a21 a22 a23 =
  Option.bind (Qg (n+13) a0 a1 a2) fun r1 =>
  bif (r1.1.1:Bool) then
    some ((a3,()),[])
  else
    Option.bind (J1 (n+13) a4 a5 a6 a7 a8) fun r2 =>
    bif (r2.1.1:Bool) then
      some ((a9,()),[])
    else
      Option.bind (J2 (n+13) a10 a11) fun r3 =>
      bif (r3.1.1:Bool) then
        some ((a12,()),[])
      else
        Option.bind (J3 (n+13) a13 a14 a15) fun r4 =>
        bif (r4.1.1:Bool) then
          some ((a16,()),[])
        else
          Option.bind (J4 (n+13) a17 a18 a19) fun r5 =>
          bif (r5.1.1:Bool) then
            some ((a20,()),[])
          else
            Option.bind (J5 (n+13) a21 a22) fun r6 =>
            bif (r6.1.1:Bool) then
              some ((a23,()),[])
            else
              some ((0,()),[]):=by kernel_rfl
@[reducible] def Kp.R:Type:=Xf [.d Zb,.d (.int .i64)]×Z0
def Kp (n:Nat) (a0:(den Zb)) (a1:Int) (a2:Int) (a3:Int):Option Kp.R:=gc n 61 [.dat Zb a0 [],.dat (.int .i64) a1 [],.dat (.int .i64) a2 [],.dat (.int .i64) a3 []] [.d Zb,.d (.int .i64)]
theorem Kp.eq (n:Nat) (a0:(den Zb)) (a1:Int) (a2:Int) (a3:Int):Kp (n+1) a0 a1 a2 a3 =
  Option.bind (Ql n a0 a2 a3 3 a0 a2 (1,a1,()) a1 a3 5 a0 a3 6 a0 a3 a2 7 a0 a3 a2 8 a0 (2,a3,()) 9) fun r1 =>
  bif (!(decide ((r1.1.1:Int)=0))) then
    some ((a0,(r1.1.1:Int),()),[])
  else
    Option.bind (Hq n a0 a2 (2,a3,())) fun r2 =>
    some ((r2.1.1,0,()),[]):=by kernel_rfl
@[reducible] def Q5.R:Type:=Xf [.d Zb,.d (.int .i64)]×Z0
def Q5 (n:Nat) (a0:(den Zb)) (a1:Int) (a2:(den Zz)):Option Q5.R:=gc n 60 [.dat Zb a0 [],.dat (.int .i64) a1 [],.dat Zz a2 []] [.d Zb,.d (.int .i64)]
theorem Q5.eq (n:Nat) (a0:(den Zb)) (a1:Int) (a2:(den Zz)):Q5 (n+1) a0 a1 a2 =
  Option.bind (Kp n a0 a1 (a2.2.2.1:Int) (a2.2.2.2.1:Int)) fun r1 =>
  some ((r1.1.1,(r1.1.2.1:Int),()),[]):=by kernel_rfl
@[reducible] def Vy.R:Type:=Xf [.d Zb,.d Z9]×Z0
def Vy (n:Nat) (a0:(den Zb)) (a1:Int) (a2:(den Zz)):Option Vy.R:=gc n 87 [.dat Zb a0 [],.dat (.int .i64) a1 [],.dat Zz a2 [],.refv (.clo 60 [])] [.d Zb,.d Z9]
theorem Vy.eq (n:Nat) (a0:(den Zb)) (a1:Int) (a2:(den Zz)):Vy (n+1) a0 a1 a2 =
  Option.bind (Q5 n a0 a1 a2) fun r1 =>
  Option.bind (Yt n (a2.1:Int) 0 (r1.1.2.1:Int)) fun r2 =>
  some ((r1.1.1,r2.1.1,()),[]):=by kernel_rfl
@[reducible] def Jn.R:Type:=Xf [.d Za,.d Za]×Z0
def Jn (n:Nat) (a0:(den Zb)) (a1:Int):Option Jn.R:=gc n 88 [.dat Zb a0 [],.dat (.int .i64) a1 []] [.d Za,.d Za]
theorem Jn.eq (n:Nat) (a0:(den Zb)) (a1:Int):Jn (n+1) a0 a1 =
  if (0:Int)≤a1∧a1<(((List.length (a0.2.1:(List Int))):Nat):Int) then
  some (((0,(List.getD (a0.2.1:(List Int)) (Int.toNat a1) (0:Int):Int),()),(1,a1,()),()),[])
  else none:=by kernel_rfl
@[reducible] def Kc.R:Type:=Xf [.d Zb,.d (.int .i64)]×Z0
def Kc (n:Nat) (a0:(den Zb)) (a1:Int) (a2:(den Za)) (a3:(den Za)):Option Kc.R:=gc n 89 [.dat Zb a0 [],.dat (.int .i64) a1 [],.dat Za a2 [],.dat Za a3 []] [.d Zb,.d (.int .i64)]
theorem Kc.eq (n:Nat) (a0:(den Zb)) (a1:Int) (a2:(den Za)) (a3:(den Za)):Kc (n+1) a0 a1 a2 a3 =
  bif (decide (a1<0)) then
    some ((a0,3,()),[])
  else
    bif (decide (((List.length (a0.2.2.2.1:(List (den Za)))):Int)≤a1)) then
      some ((a0,3,()),[])
    else
      if (0:Int)≤a1∧a1<(((List.length (a0.2.2.2.1:(List (den Za)))):Nat):Int) then
      bif (!(eqT Za (List.getD (a0.2.2.2.1:(List (den Za))) (Int.toNat a1) (dft Za):(den Za)) a2)) then
        some ((a0,5,()),[])
      else
        Option.bind (Jp n a0 a3) fun r1 =>
        bif (decide ((r1.1.1:Int)<1)) then
          some ((a0,9,()),[])
        else
          Option.bind (Hq n a0 a1 a3) fun r2 =>
          some ((r2.1.1,0,()),[])
      else none:=by kernel_rfl
@[reducible] def Ku.R:Type:=Xf [.d Zb,.d (.int .i64)]×Z0
def Ku (n:Nat) (a0:(den Zb)) (a1:Int) (a2:Int):Option Ku.R:=gc n 59 [.dat Zb a0 [],.dat (.int .i64) a1 [],.dat (.int .i64) a2 []] [.d Zb,.d (.int .i64)]
theorem Ku.eq (n:Nat) (a0:(den Zb)) (a1:Int) (a2:Int):Ku (n+1) a0 a1 a2 =
  Option.bind (Jn n a0 a1) fun r1 =>
  Option.bind (Kc n a0 a2 r1.1.2.1 r1.1.1) fun r2 =>
  some ((r2.1.1,(r2.1.2.1:Int),()),[]):=by kernel_rfl
@[reducible] def Q4.R:Type:=Xf [.d Zb,.d (.int .i64)]×Z0
def Q4 (n:Nat) (a0:(den Zb)) (a1:Int) (a2:(den Zz)):Option Q4.R:=gc n 58 [.dat Zb a0 [],.dat (.int .i64) a1 [],.dat Zz a2 []] [.d Zb,.d (.int .i64)]
theorem Q4.eq (n:Nat) (a0:(den Zb)) (a1:Int) (a2:(den Zz)):Q4 (n+1) a0 a1 a2 =
  Option.bind (Ku n a0 a1 (a2.2.2.1:Int)) fun r1 =>
  some ((r1.1.1,(r1.1.2.1:Int),()),[]):=by kernel_rfl
@[reducible] def Vz.R:Type:=Xf [.d Zb,.d Z9]×Z0
def Vz (n:Nat) (a0:(den Zb)) (a1:Int) (a2:(den Zz)):Option Vz.R:=gc n 87 [.dat Zb a0 [],.dat (.int .i64) a1 [],.dat Zz a2 [],.refv (.clo 58 [])] [.d Zb,.d Z9]
theorem Vz.eq (n:Nat) (a0:(den Zb)) (a1:Int) (a2:(den Zz)):Vz (n+1) a0 a1 a2 =
  Option.bind (Q4 n a0 a1 a2) fun r1 =>
  Option.bind (Yt n (a2.1:Int) 0 (r1.1.2.1:Int)) fun r2 =>
  some ((r1.1.1,r2.1.1,()),[]):=by kernel_rfl
@[reducible] def Hy.R:Type:=Xf [.d Zb,.d (.int .i64)]×Z0
def Hy (n:Nat) (a0:(den Zb)) (a1:Int) (a2:Int):Option Hy.R:=gc n 57 [.dat Zb a0 [],.dat (.int .i64) a1 [],.dat (.int .i64) a2 []] [.d Zb,.d (.int .i64)]
theorem Hy.eq (n:Nat) (a0:(den Zb)) (a1:Int) (a2:Int):Hy (n+1) a0 a1 a2 =
  Option.bind (Jn n a0 a1) fun r1 =>
  Option.bind (Kc n a0 a2 r1.1.1 r1.1.2.1) fun r2 =>
  some ((r2.1.1,(r2.1.2.1:Int),()),[]):=by kernel_rfl
@[reducible] def Q3.R:Type:=Xf [.d Zb,.d (.int .i64)]×Z0
def Q3 (n:Nat) (a0:(den Zb)) (a1:Int) (a2:(den Zz)):Option Q3.R:=gc n 56 [.dat Zb a0 [],.dat (.int .i64) a1 [],.dat Zz a2 []] [.d Zb,.d (.int .i64)]
theorem Q3.eq (n:Nat) (a0:(den Zb)) (a1:Int) (a2:(den Zz)):Q3 (n+1) a0 a1 a2 =
  Option.bind (Hy n a0 a1 (a2.2.2.1:Int)) fun r1 =>
  some ((r1.1.1,(r1.1.2.1:Int),()),[]):=by kernel_rfl
@[reducible] def V0.R:Type:=Xf [.d Zb,.d Z9]×Z0
def V0 (n:Nat) (a0:(den Zb)) (a1:Int) (a2:(den Zz)):Option V0.R:=gc n 87 [.dat Zb a0 [],.dat (.int .i64) a1 [],.dat Zz a2 [],.refv (.clo 56 [])] [.d Zb,.d Z9]
theorem V0.eq (n:Nat) (a0:(den Zb)) (a1:Int) (a2:(den Zz)):V0 (n+1) a0 a1 a2 =
  Option.bind (Q3 n a0 a1 a2) fun r1 =>
  Option.bind (Yt n (a2.1:Int) 0 (r1.1.2.1:Int)) fun r2 =>
  some ((r1.1.1,r2.1.1,()),[]):=by kernel_rfl
@[reducible] def H5.R:Type:=Xf [.clo 136 [.refv (.clo 86 [.ref (.int .i64),.ref Zb,.ref (.int .i64)]),.ref Zb,.ref (.int .i64)]]×Z0
def H5 (n:Nat) (a0:(den Zb)) (a1:Int) (a2:Int) (a3:(den Zb)) (a4:Int):Option H5.R:=gc n 84 [.dat Zb a0 [],.dat (.int .i64) a1 [],.clo 86 [.ref (.int .i64) a2,.ref Zb a3,.ref (.int .i64) a4]] [.clo 136 [.refv (.clo 86 [.ref (.int .i64),.ref Zb,.ref (.int .i64)]),.ref Zb,.ref (.int .i64)]]
theorem H5.eq (n:Nat) (a0:(den Zb)) (a1:Int) (a2:Int) (a3:(den Zb)) (a4:Int):H5 (n+1) a0 a1 a2 a3 a4 =
  some ((((a2,a3,a4,()),a0,a1,()),()),[]):=by kernel_rfl
@[reducible] def J6.R:Type:=Xf [.d (.int .i64)]×Z0
def J6 (n:Nat) (a0:Int) (a1:(den Zb)) (a2:Int):Option J6.R:=gc n 86 [.ref (.int .i64) a0,.ref Zb a1,.ref (.int .i64) a2] [.d (.int .i64)]
theorem J6.eq (n:Nat) (a0:Int) (a1:(den Zb)) (a2:Int):J6 (n+1) a0 a1 a2 =
  bif (decide (a0<0)) then
    some ((3,()),[])
  else
    bif (decide (((List.length (a1.2.1:(List Int))):Int)≤a0)) then
      some ((3,()),[])
    else
      bif (decide (a0=a2)) then
        some ((12,()),[])
      else
        if (0:Int)≤a0∧a0<(((List.length (a1.2.1:(List Int))):Nat):Int) then
        if (0:Int)≤a2∧a2<(((List.length (a1.2.1:(List Int))):Nat):Int) then
        bif (!(decide ((List.getD (a1.2.1:(List Int)) (Int.toNat a0) (0:Int):Int)=(List.getD (a1.2.1:(List Int)) (Int.toNat a2) (0:Int):Int)))) then
          some ((5,()),[])
        else
          some ((0,()),[])
        else none
        else none:=by kernel_rfl
@[reducible] def Kz.R:Type:=Xf [.d Zb,.d (.int .i64),.d (.int .i64)]×Z0
def Kz (n:Nat) (a0:Int) (a1:Int) (a2:(den Zb)) (a3:Int) (a4:(den Zb)) (a5:Int):Option Kz.R:=gc n 136 [.dat (.int .i64) a0 [],.refv (.clo 86 [.ref (.int .i64) a1,.ref Zb a2,.ref (.int .i64) a3]),.ref Zb a4,.ref (.int .i64) a5] [.d Zb,.d (.int .i64),.d (.int .i64)]
theorem Kz.eq (n:Nat) (a0:Int) (a1:Int) (a2:(den Zb)) (a3:Int) (a4:(den Zb)) (a5:Int):Kz (n+1) a0 a1 a2 a3 a4 a5 =
  Option.bind (J6 n a1 a2 a3) fun r1 =>
  bif (!(decide ((r1.1.1:Int)=0))) then
    some ((a4,0,(r1.1.1:Int),()),[])
  else
    if (0:Int)≤a0∧a0<(((List.length (a4.2.1:(List Int))):Nat):Int) then
    Option.bind (J0 n a4 (List.getD (a4.2.1:(List Int)) (Int.toNat a0) (0:Int):Int) a5) fun r2 =>
    bif (!(r2.1.2.1:Bool)) then
      some ((a4,0,4,()),[])
    else
      Option.bind (Jz n a4) fun r3 =>
      bif (Zp r3.2 [((0,[1]),2)]) then
        if (0:Int)≤a0∧a0<(((List.length (r3.1.1.2.1:(List Int))):Nat):Int) then
        some (((r3.1.1.1,(List.set (r3.1.1.2.1:(List Int)) (Int.toNat a0) (r2.1.1:Int):(List Int)),(r3.1.1.2.2.1:(List Int)),(r3.1.1.2.2.2.1:(List (den Za))),()),(r2.1.1:Int),0,()),[(0,[1])])
        else none
      else
        none
    else none:=by kernel_rfl
@[reducible] def Kx.R:Type:=Xf [.d Zb,.d (.int .i64),.d (.int .i64)]×Z0
def Kx (n:Nat) (a0:(den Zb)) (a1:Int) (a2:Int) (a3:Int):Option Kx.R:=gc n 54 [.dat Zb a0 [],.dat (.int .i64) a1 [],.dat (.int .i64) a2 [],.dat (.int .i64) a3 []] [.d Zb,.d (.int .i64),.d (.int .i64)]
theorem Kx.eq (n:Nat) (a0:(den Zb)) (a1:Int) (a2:Int) (a3:Int):Kx (n+1) a0 a1 a2 a3 =
  Option.bind (H5 n a0 a3 a2 a0 a1) fun r1 =>
  Option.bind (Kz n a2 (r1.1.1.1.1:Int) r1.1.1.1.2.1 (r1.1.1.1.2.2.1:Int) r1.1.1.2.1 (r1.1.1.2.2.1:Int)) fun r2 =>
  some ((r2.1.1,(r2.1.2.1:Int),(r2.1.2.2.1:Int),()),[]):=by kernel_rfl
@[reducible] def Q2.R:Type:=Xf [.d Zb,.d (.int .i64),.d (.int .i64)]×Z0
def Q2 (n:Nat) (a0:(den Zb)) (a1:Int) (a2:(den Zz)):Option Q2.R:=gc n 53 [.dat Zb a0 [],.dat (.int .i64) a1 [],.dat Zz a2 []] [.d Zb,.d (.int .i64),.d (.int .i64)]
theorem Q2.eq (n:Nat) (a0:(den Zb)) (a1:Int) (a2:(den Zz)):Q2 (n+1) a0 a1 a2 =
  Option.bind (Kx n a0 a1 (a2.2.2.2.2.1:Int) (a2.2.1:Int)) fun r1 =>
  some ((r1.1.1,(r1.1.2.1:Int),(r1.1.2.2.1:Int),()),[]):=by kernel_rfl
@[reducible] def Q8.R:Type:=Xf [.d Zb,.d Z9]×Z0
def Q8 (n:Nat) (a0:(den Zb)) (a1:Int) (a2:(den Zz)):Option Q8.R:=gc n 82 [.dat Zb a0 [],.dat (.int .i64) a1 [],.dat Zz a2 [],.refv (.clo 53 [])] [.d Zb,.d Z9]
theorem Q8.eq (n:Nat) (a0:(den Zb)) (a1:Int) (a2:(den Zz)):Q8 (n+1) a0 a1 a2 =
  Option.bind (Q2 n a0 a1 a2) fun r1 =>
  Option.bind (Yt n (a2.1:Int) (r1.1.2.1:Int) (r1.1.2.2.1:Int)) fun r2 =>
  some ((r1.1.1,r2.1.1,()),[]):=by kernel_rfl
@[reducible] def Kh.R:Type:=Xf [.clo 136 [.refv (.clo 85 []),.ref Zb,.ref (.int .i64)]]×Z0
def Kh (n:Nat) (a0:(den Zb)) (a1:Int):Option Kh.R:=gc n 84 [.dat Zb a0 [],.dat (.int .i64) a1 [],.clo 85 []] [.clo 136 [.refv (.clo 85 []),.ref Zb,.ref (.int .i64)]]
theorem Kh.eq (n:Nat) (a0:(den Zb)) (a1:Int):Kh (n+1) a0 a1 =
  some ((((()),a0,a1,()),()),[]):=by kernel_rfl
@[reducible] def Vq.R:Type:=Xf [.d (.int .i64)]×Z0
def Vq (n:Nat):Option Vq.R:=gc n 85 [] [.d (.int .i64)]
theorem Vq.eq (n:Nat):Vq (n+1) =
  some ((0,()),[]):=by kernel_rfl
@[reducible] def Jg.R:Type:=Xf [.d Zb,.d (.int .i64),.d (.int .i64)]×Z0
def Jg (n:Nat) (a0:Int) (a1:(den Zb)) (a2:Int):Option Jg.R:=gc n 136 [.dat (.int .i64) a0 [],.refv (.clo 85 []),.ref Zb a1,.ref (.int .i64) a2] [.d Zb,.d (.int .i64),.d (.int .i64)]
theorem Jg.eq (n:Nat) (a0:Int) (a1:(den Zb)) (a2:Int):Jg (n+1) a0 a1 a2 =
  Option.bind (Vq n) fun r1 =>
  bif (!(decide ((r1.1.1:Int)=0))) then
    some ((a1,0,(r1.1.1:Int),()),[])
  else
    if (0:Int)≤a0∧a0<(((List.length (a1.2.1:(List Int))):Nat):Int) then
    Option.bind (J0 n a1 (List.getD (a1.2.1:(List Int)) (Int.toNat a0) (0:Int):Int) a2) fun r2 =>
    bif (!(r2.1.2.1:Bool)) then
      some ((a1,0,4,()),[])
    else
      Option.bind (Jz n a1) fun r3 =>
      bif (Zp r3.2 [((0,[1]),2)]) then
        if (0:Int)≤a0∧a0<(((List.length (r3.1.1.2.1:(List Int))):Nat):Int) then
        some (((r3.1.1.1,(List.set (r3.1.1.2.1:(List Int)) (Int.toNat a0) (r2.1.1:Int):(List Int)),(r3.1.1.2.2.1:(List Int)),(r3.1.1.2.2.2.1:(List (den Za))),()),(r2.1.1:Int),0,()),[(0,[1])])
        else none
      else
        none
    else none:=by kernel_rfl
@[reducible] def Kw.R:Type:=Xf [.d Zb,.d (.int .i64),.d (.int .i64)]×Z0
def Kw (n:Nat) (a0:(den Zb)) (a1:Int) (a2:Int):Option Kw.R:=gc n 52 [.dat Zb a0 [],.dat (.int .i64) a1 [],.dat (.int .i64) a2 []] [.d Zb,.d (.int .i64),.d (.int .i64)]
theorem Kw.eq (n:Nat) (a0:(den Zb)) (a1:Int) (a2:Int):Kw (n+1) a0 a1 a2 =
  Option.bind (Kh n a0 a2) fun r1 =>
  Option.bind (Jg n a1 r1.1.1.2.1 (r1.1.1.2.2.1:Int)) fun r2 =>
  some ((r2.1.1,(r2.1.2.1:Int),(r2.1.2.2.1:Int),()),[]):=by kernel_rfl
@[reducible] def Q0.R:Type:=Xf [.d Zb,.d (.int .i64),.d (.int .i64)]×Z0
def Q0 (n:Nat) (a0:(den Zb)) (a1:Int) (a2:(den Zz)):Option Q0.R:=gc n 51 [.dat Zb a0 [],.dat (.int .i64) a1 [],.dat Zz a2 []] [.d Zb,.d (.int .i64),.d (.int .i64)]
theorem Q0.eq (n:Nat) (a0:(den Zb)) (a1:Int) (a2:(den Zz)):Q0 (n+1) a0 a1 a2 =
  Option.bind (Kw n a0 a1 (a2.2.1:Int)) fun r1 =>
  some ((r1.1.1,(r1.1.2.1:Int),(r1.1.2.2.1:Int),()),[]):=by kernel_rfl
@[reducible] def Vv.R:Type:=Xf [.d Zb,.d Z9]×Z0
def Vv (n:Nat) (a0:(den Zb)) (a1:Int) (a2:(den Zz)):Option Vv.R:=gc n 82 [.dat Zb a0 [],.dat (.int .i64) a1 [],.dat Zz a2 [],.refv (.clo 51 [])] [.d Zb,.d Z9]
theorem Vv.eq (n:Nat) (a0:(den Zb)) (a1:Int) (a2:(den Zz)):Vv (n+1) a0 a1 a2 =
  Option.bind (Q0 n a0 a1 a2) fun r1 =>
  Option.bind (Yt n (a2.1:Int) (r1.1.2.1:Int) (r1.1.2.2.1:Int)) fun r2 =>
  some ((r1.1.1,r2.1.1,()),[]):=by kernel_rfl
@[reducible] def Qz.R:Type:=Xf [.d Zb,.d Z9]×Z0
def Qz (n:Nat) (a0:(den Zb)) (a1:Int) (a2:(den Zz)):Option Qz.R:=gc n 10 [.dat Zb a0 [],.dat (.int .i64) a1 [],.dat Zz a2 []] [.d Zb,.d Z9]
theorem Qz.eq (n:Nat) (a0:(den Zb)) (a1:Int) (a2:(den Zz)):Qz (n+1) a0 a1 a2 =
  Option.bind (Hn n a2) fun r1 =>
  bif (!(r1.1.1:Bool)) then
    some ((a0,(2,0,0,([]:List Int),([]:List (den Ym)),0,()),()),[])
  else
    Option.bind (T8 n) fun r2 =>
    bif (decide ((a2.1:Int)=1)) then
      Option.bind (Vv n a0 a1 a2) fun r12 =>
      some ((r12.1.1,r12.1.2.1,()),[])
    else
      bif (decide ((a2.1:Int)=2)) then
        Option.bind (Q8 n a0 a1 a2) fun r11 =>
        some ((r11.1.1,r11.1.2.1,()),[])
      else
        bif (decide ((a2.1:Int)=3)) then
          Option.bind (V0 n a0 a1 a2) fun r10 =>
          some ((r10.1.1,r10.1.2.1,()),[])
        else
          bif (decide ((a2.1:Int)=4)) then
            Option.bind (Vz n a0 a1 a2) fun r9 =>
            some ((r9.1.1,r9.1.2.1,()),[])
          else
            bif (decide ((a2.1:Int)=5)) then
              Option.bind (Vy n a0 a1 a2) fun r8 =>
              some ((r8.1.1,r8.1.2.1,()),[])
            else
              bif (decide ((a2.1:Int)=6)) then
                Option.bind (Vx n a0 a1 a2) fun r7 =>
                some ((r7.1.1,r7.1.2.1,()),[])
              else
                bif (decide ((a2.1:Int)=7)) then
                  Option.bind (Vw n a0 a1 a2) fun r6 =>
                  some ((r6.1.1,r6.1.2.1,()),[])
                else
                  bif (decide ((a2.1:Int)=8)) then
                    Option.bind (Q9 n a0 a1 a2) fun r5 =>
                    some ((r5.1.1,r5.1.2.1,()),[])
                  else
                    bif (decide ((a2.1:Int)=9)) then
                      Option.bind (Ve n a0 a1 a2) fun r4 =>
                      some ((r4.1.1,r4.1.2.1,()),[])
                    else
                      bif (decide ((a2.1:Int)=10)) then
                        Option.bind (Qn n a0 a1 a2) fun r3 =>
                        some ((r3.1.1,r3.1.2.1,()),[])
                      else
                        none:=by kernel_rfl
def Z8.res:List Sh:=[.d .bool]
@[reducible] def Z8.R:Type:=Xf [.d .bool]×Z0
def Z8 (n:Nat) (a0:(List (den Za))) (a1:Int) (a2:Int):Option Z8.R:=gc n 13 [.dat (.sl Za) a0 [],.dat (.int .i64) a1 [],.dat (.int .i64) a2 []] [.d .bool]
def Z8.l0 (n m0:Nat) (t0:(List (den Za))) (t1:Int) (t2:Int) (t6:Bool) (t7:Int):Option Z8.R :=
  lpN n ATr m0 (Jr 0 (Jf (run (gc n) n) ATq (Xk Z8.fn Z8.res) (Xk Z8.fn Z8.res)) (Xk Z8.fn Z8.res))
    [(0,.dat (.sl Za) t0 []),(1,.dat (.int .i64) t1 []),(2,.dat (.int .i64) t2 []),(6,.dat .bool t6 []),(7,.dat (.int .i64) t7 [])]
    []
theorem Z8.l0_eq (n m0:Nat) (t0:(List (den Za))) (t1:Int) (t2:Int) (t6:Bool) (t7:Int):Z8.l0 n (m0+1) t0 t1 t2 t6 t7 =
  bif (decide (t7<((List.length t0):Int))) then
    if (0:Int)≤t7∧t7<(((List.length t0):Nat):Int) then
    bif (decide (((List.getD t0 (Int.toNat t7) (dft Za):(den Za)).1:Int)=t1)) then
      if (0:Int)≤t7∧t7<(((List.length t0):Nat):Int) then
      bif (decide (((List.getD t0 (Int.toNat t7) (dft Za):(den Za)).2.1:Int)=t2)) then
        some ((true,()),[])
      else
        Z8.l0 n m0 t0 t1 t2 t6 (IntKind.wrap .i64 (t7+1))
      else none
    else
      Z8.l0 n m0 t0 t1 t2 t6 (IntKind.wrap .i64 (t7+1))
    else none
  else
    some ((false,()),[]):=by kernel_rfl
theorem Z8.eq (n:Nat) (a0:(List (den Za))) (a1:Int) (a2:Int):Z8 (n+1) a0 a1 a2 =
  Z8.l0 n n a0 a1 a2 false 0:=by kernel_rfl
def Zw.res:List Sh:=[.d .bool]
@[reducible] def Zw.R:Type:=Xf [.d .bool]×Z0
def Zw (n:Nat) (a0:(List Int)) (a1:(List Int)):Option Zw.R:=gc n 33 [.dat (.sl (.int .i64)) a0 [],.dat (.sl (.int .i64)) a1 []] [.d .bool]
def Zw.l0 (n m0:Nat) (t0:(List Int)) (t1:(List Int)) (t4:Bool) (t5:Int):Option Zw.R :=
  lpN n ATx m0 (Jr 0 (Jf (run (gc n) n) ATw (Xk Zw.fn Zw.res) (Xk Zw.fn Zw.res)) (Xk Zw.fn Zw.res))
    [(0,.dat (.sl (.int .i64)) t0 []),(1,.dat (.sl (.int .i64)) t1 []),(4,.dat .bool t4 []),(5,.dat (.int .i64) t5 [])]
    []
theorem Zw.l0_eq (n m0:Nat) (t0:(List Int)) (t1:(List Int)) (t4:Bool) (t5:Int):Zw.l0 n (m0+1) t0 t1 t4 t5 =
  bif (decide (t5<((List.length t0):Int))) then
    if (0:Int)≤t5∧t5<(((List.length t0):Nat):Int) then
    if (0:Int)≤t5∧t5<(((List.length t1):Nat):Int) then
    bif (!(decide ((List.getD t0 (Int.toNat t5) (0:Int):Int)=(List.getD t1 (Int.toNat t5) (0:Int):Int)))) then
      some ((false,()),[])
    else
      Zw.l0 n m0 t0 t1 t4 (IntKind.wrap .i64 (t5+1))
    else none
    else none
  else
    some ((true,()),[]):=by kernel_rfl
theorem Zw.eq (n:Nat) (a0:(List Int)) (a1:(List Int)):Zw (n+1) a0 a1 =
  bif (!(decide (((List.length a0):Int)=((List.length a1):Int)))) then
    some ((false,()),[])
  else
    Zw.l0 n n a0 a1 false 0:=by kernel_rfl
def Z5.res:List Sh:=[.d .bool]
@[reducible] def Z5.R:Type:=Xf [.d .bool]×Z0
def Z5 (n:Nat) (a0:(List (den Ym))) (a1:(List (den Ym))):Option Z5.R:=gc n 34 [.dat (.sl Ym) a0 [],.dat (.sl Ym) a1 []] [.d .bool]
def Z5.l0 (n m0:Nat) (t0:(List (den Ym))) (t1:(List (den Ym))) (t4:Bool) (t5:Int):Option Z5.R :=
  lpN n ATz m0 (Jr 0 (Jf (run (gc n) n) ATy (Xk Z5.fn Z5.res) (Xk Z5.fn Z5.res)) (Xk Z5.fn Z5.res))
    [(0,.dat (.sl Ym) t0 []),(1,.dat (.sl Ym) t1 []),(4,.dat .bool t4 []),(5,.dat (.int .i64) t5 [])]
    []
theorem Z5.l0_eq (n m0:Nat) (t0:(List (den Ym))) (t1:(List (den Ym))) (t4:Bool) (t5:Int):Z5.l0 n (m0+1) t0 t1 t4 t5 =
  bif (decide (t5<((List.length t0):Int))) then
    if (0:Int)≤t5∧t5<(((List.length t0):Nat):Int) then
    if (0:Int)≤t5∧t5<(((List.length t1):Nat):Int) then
    bif (!(eqT Ym (List.getD t0 (Int.toNat t5) (dft Ym):(den Ym)) (List.getD t1 (Int.toNat t5) (dft Ym):(den Ym)))) then
      some ((false,()),[])
    else
      Z5.l0 n m0 t0 t1 t4 (IntKind.wrap .i64 (t5+1))
    else none
    else none
  else
    some ((true,()),[]):=by kernel_rfl
theorem Z5.eq (n:Nat) (a0:(List (den Ym))) (a1:(List (den Ym))):Z5 (n+1) a0 a1 =
  bif (!(decide (((List.length a0):Int)=((List.length a1):Int)))) then
    some ((false,()),[])
  else
    Z5.l0 n n a0 a1 false 0:=by kernel_rfl
@[reducible] def Ya.R:Type:=Xf [.d .bool]×Z0
def Ya (n:Nat) (a0:(den Z9)) (a1:(den Z9)):Option Ya.R:=gc n 16 [.dat Z9 a0 [],.dat Z9 a1 []] [.d .bool]
theorem Ya.eq (n:Nat) (a0:(den Z9)) (a1:(den Z9)):Ya (n+1) a0 a1 =
  bif (decide ((a0.1:Int)=(a1.1:Int))) then
    bif (decide ((a0.2.1:Int)=(a1.2.1:Int))) then
      bif (decide ((a0.2.2.1:Int)=(a1.2.2.1:Int))) then
        bif (decide ((a0.2.2.2.2.2.1:Int)=(a1.2.2.2.2.2.1:Int))) then
          Option.bind (Zw n (a0.2.2.2.1:(List Int)) (a1.2.2.2.1:(List Int))) fun r1 =>
          bif (r1.1.1:Bool) then
            Option.bind (Z5 n (a0.2.2.2.2.1:(List (den Ym))) (a1.2.2.2.2.1:(List (den Ym)))) fun r2 =>
            some (((r2.1.1:Bool),()),[])
          else
            some ((false,()),[])
        else
          some ((false,()),[])
      else
        some ((false,()),[])
    else
      some ((false,()),[])
  else
    some ((false,()),[]):=by kernel_rfl
def Z1.res:List Sh:=[.d .bool]
@[reducible] def Z1.R:Type:=Xf [.d .bool]×Z0
def Z1 (n:Nat) (a0:(List (den Za))) (a1:(List (den Za))):Option Z1.R:=gc n 35 [.dat (.sl Za) a0 [],.dat (.sl Za) a1 []] [.d .bool]
def Z1.l0 (n m0:Nat) (t0:(List (den Za))) (t1:(List (den Za))) (t4:Bool) (t5:Int):Option Z1.R :=
  lpN n AT1 m0 (Jr 0 (Jf (run (gc n) n) AT0 (Xk Z1.fn Z1.res) (Xk Z1.fn Z1.res)) (Xk Z1.fn Z1.res))
    [(0,.dat (.sl Za) t0 []),(1,.dat (.sl Za) t1 []),(4,.dat .bool t4 []),(5,.dat (.int .i64) t5 [])]
    []
theorem Z1.l0_eq (n m0:Nat) (t0:(List (den Za))) (t1:(List (den Za))) (t4:Bool) (t5:Int):Z1.l0 n (m0+1) t0 t1 t4 t5 =
  bif (decide (t5<((List.length t0):Int))) then
    if (0:Int)≤t5∧t5<(((List.length t0):Nat):Int) then
    if (0:Int)≤t5∧t5<(((List.length t1):Nat):Int) then
    bif (!(eqT Za (List.getD t0 (Int.toNat t5) (dft Za):(den Za)) (List.getD t1 (Int.toNat t5) (dft Za):(den Za)))) then
      some ((false,()),[])
    else
      Z1.l0 n m0 t0 t1 t4 (IntKind.wrap .i64 (t5+1))
    else none
    else none
  else
    some ((true,()),[]):=by kernel_rfl
theorem Z1.eq (n:Nat) (a0:(List (den Za))) (a1:(List (den Za))):Z1 (n+1) a0 a1 =
  bif (!(decide (((List.length a0):Int)=((List.length a1):Int)))) then
    some ((false,()),[])
  else
    Z1.l0 n n a0 a1 false 0:=by kernel_rfl
def Zn.res:List Sh:=[.d .bool]
@[reducible] def Zn.R:Type:=Xf [.d .bool]×Z0
def Zn (n:Nat) (a0:(den Zb)) (a1:(den Zb)):Option Zn.R:=gc n 17 [.dat Zb a0 [],.dat Zb a1 []] [.d .bool]
def Zn.l0 (n m0:Nat) (t0:(den Zb)) (t1:(den Zb)) (t4:Bool) (t7:Int) (o0:(den Zb)) (o1:(den Zb)) (o2:(den Z3)) (o3:(den Z3)):Option Zn.R :=
  lpN n AMj m0 (Jr 0 (Jf (run (gc n) n) AMi (Xk Zn.fn Zn.res) (Xk Zn.fn Zn.res)) (Xk Zn.fn Zn.res))
    [(0,.dat Zb t0 []),(1,.dat Zb t1 []),(2,.ptr 0 []),(3,.ptr 1 []),(4,.dat .bool t4 []),(5,.ptr 2 []),(6,.ptr 3 []),(7,.dat (.int .i64) t7 [])]
    [.box Zb o0 [],.box Zb o1 [],.box Z3 o2 [],.box Z3 o3 []]
def Zn.l1 (n m0:Nat) (t0_1:(den Zb)) (t1_1:(den Zb)) (t4_1:Bool) (t7_1:Int) (t8_1:Int) (o0_1:(den Zb)) (o1_1:(den Zb)) (o2_1:(den Z3)) (o3_1:(den Z3)):Option Zn.R :=
  lpN n AMl m0 (Jr 2 (Jf (run (gc n) n) AMk (Xk Zn.fn Zn.res) (Xk Zn.fn Zn.res)) (Xk Zn.fn Zn.res))
    [(0,.dat Zb t0_1 []),(1,.dat Zb t1_1 []),(2,.ptr 0 []),(3,.ptr 1 []),(4,.dat .bool t4_1 []),(5,.ptr 2 []),(6,.ptr 3 []),(7,.dat (.int .i64) t7_1 []),(8,.dat (.int .i64) t8_1 [])]
    [.box Zb o0_1 [],.box Zb o1_1 [],.box Z3 o2_1 [],.box Z3 o3_1 []]
theorem Zn.l0_eq (n m0:Nat) (t0:(den Zb)) (t1:(den Zb)) (t4:Bool) (t7:Int) (o0:(den Zb)) (o1:(den Zb)) (o2:(den Z3)) (o3:(den Z3)):Zn.l0 n (m0+1) t0 t1 t4 t7 o0 o1 o2 o3 =
  bif (decide (t7<((List.length (o2.1:(List (List Int)))):Int))) then
    if (0:Int)≤t7∧t7<(((List.length (o2.1:(List (List Int)))):Nat):Int) then
    if (0:Int)≤t7∧t7<(((List.length (o3.1:(List (List Int)))):Nat):Int) then
    bif (!(eqT (.arr 4 (.int .i64)) (List.getD (o2.1:(List (List Int))) (Int.toNat t7) (dft (.arr 4 (.int .i64))):(List Int)) (List.getD (o3.1:(List (List Int))) (Int.toNat t7) (dft (.arr 4 (.int .i64))):(List Int)))) then
      some ((false,()),[])
    else
      Zn.l0 n m0 t0 t1 t4 (IntKind.wrap .i64 (t7+1)) o0 o1 o2 o3
    else none
    else none
  else
    Zn.l1 n n t0 t1 t4 t7 0 o0 o1 o2 o3:=by kernel_rfl
theorem Zn.l1_eq (n m0:Nat) (t0_1:(den Zb)) (t1_1:(den Zb)) (t4_1:Bool) (t7_1:Int) (t8_1:Int) (o0_1:(den Zb)) (o1_1:(den Zb)) (o2_1:(den Z3)) (o3_1:(den Z3)):Zn.l1 n (m0+1) t0_1 t1_1 t4_1 t7_1 t8_1 o0_1 o1_1 o2_1 o3_1 =
  bif (decide (t8_1<((List.length (o2_1.2.2.2.2.1:(List Bool))):Int))) then
    if (0:Int)≤t8_1∧t8_1<(((List.length (o2_1.2.2.2.2.1:(List Bool))):Nat):Int) then
    if (0:Int)≤t8_1∧t8_1<(((List.length (o3_1.2.2.2.2.1:(List Bool))):Nat):Int) then
    bif (!(eqT .bool (List.getD (o2_1.2.2.2.2.1:(List Bool)) (Int.toNat t8_1) false:Bool) (List.getD (o3_1.2.2.2.2.1:(List Bool)) (Int.toNat t8_1) false:Bool))) then
      some ((false,()),[])
    else
      Zn.l1 n m0 t0_1 t1_1 t4_1 t7_1 (IntKind.wrap .i64 (t8_1+1)) o0_1 o1_1 o2_1 o3_1
    else none
    else none
  else
    Option.bind (Zw n (o2_1.2.1:(List Int)) (o3_1.2.1:(List Int))) fun r1 =>
    bif (r1.1.1:Bool) then
      Option.bind (Zw n (o2_1.2.2.1:(List Int)) (o3_1.2.2.1:(List Int))) fun r2 =>
      bif (r2.1.1:Bool) then
        Option.bind (Zw n (o2_1.2.2.2.1:(List Int)) (o3_1.2.2.2.1:(List Int))) fun r3 =>
        bif (r3.1.1:Bool) then
          Option.bind (Zw n (o0_1.2.1:(List Int)) (o1_1.2.1:(List Int))) fun r4 =>
          bif (r4.1.1:Bool) then
            Option.bind (Zw n (o0_1.2.2.1:(List Int)) (o1_1.2.2.1:(List Int))) fun r5 =>
            bif (r5.1.1:Bool) then
              Option.bind (Z1 n (o0_1.2.2.2.1:(List (den Za))) (o1_1.2.2.2.1:(List (den Za)))) fun r6 =>
              some (((r6.1.1:Bool),()),[])
            else
              some ((false,()),[])
          else
            some ((false,()),[])
        else
          some ((false,()),[])
      else
        some ((false,()),[])
    else
      some ((false,()),[]):=by kernel_rfl
theorem Zn.eq (n:Nat) (a0:(den Zb)) (a1:(den Zb)):Zn (n+1) a0 a1 =
  bif (!(decide ((a0.1.2.2.2.2.2.1:Int)=(a1.1.2.2.2.2.2.1:Int)))) then
    some ((false,()),[])
  else
    bif (!(decide ((a0.1.2.2.2.2.2.2.1:Int)=(a1.1.2.2.2.2.2.2.1:Int)))) then
      some ((false,()),[])
    else
      bif (!(decide ((a0.1.2.2.2.2.2.2.2.1:Int)=(a1.1.2.2.2.2.2.2.2.1:Int)))) then
        some ((false,()),[])
      else
        bif (!(decide (((List.length (a0.1.1:(List (List Int)))):Int)=((List.length (a1.1.1:(List (List Int)))):Int)))) then
          some ((false,()),[])
        else
          bif (!(decide (((List.length (a0.1.2.2.2.2.1:(List Bool))):Int)=((List.length (a1.1.2.2.2.2.1:(List Bool))):Int)))) then
            some ((false,()),[])
          else
            Zn.l0 n n a0 a1 false 0 a0 a1 a0.1 a1.1:=by kernel_rfl
def Zs.res:List Sh:=[.d .bool]
@[reducible] def Zs.R:Type:=Xf [.d .bool]×Z0
def Zs (n:Nat) (a0:(den Zb)) (a1:Int) (a2:(den Zz)) (a3:Int) (a4:(den Zz)):Option Zs.R:=gc n 4 [.dat Zb a0 [],.dat (.int .u8) a1 [],.dat Zz a2 [],.dat (.int .u8) a3 [],.dat Zz a4 []] [.d .bool]
def Zs.l0 (n m0:Nat) (t0:(den Zb)) (t1:Int) (t2:(den Zz)) (t3:Int) (t4:(den Zz)) (t10:Bool) (t11:Int) (t12:Int) (t13:(List (den Za))) (t14:(List (den Za))) (t15:Int) (o0:(den Zb)) (o1:(den Zz)) (o2:(den Zz)):Option Zs.R :=
  lpN n AT7 m0 (Jr 0 (Jf (run (gc n) n) AT6 (Xk Zs.fn Zs.res) (Xk Zs.fn Zs.res)) (Xk Zs.fn Zs.res))
    [(0,.dat Zb t0 []),(1,.dat (.int .u8) t1 []),(2,.dat Zz t2 []),(3,.dat (.int .u8) t3 []),(4,.dat Zz t4 []),(5,.ptr 0 []),(7,.ptr 1 []),(9,.ptr 2 []),(10,.dat .bool t10 []),(11,.dat (.int .i64) t11 []),(12,.dat (.int .i64) t12 []),(13,.dat (.sl Za) t13 []),(14,.dat (.sl Za) t14 []),(15,.dat (.int .i64) t15 [])]
    [.box Zb o0 [],.box Zz o1 [],.box Zz o2 []]
theorem Zs.l0_eq (n m0:Nat) (t0:(den Zb)) (t1:Int) (t2:(den Zz)) (t3:Int) (t4:(den Zz)) (t10:Bool) (t11:Int) (t12:Int) (t13:(List (den Za))) (t14:(List (den Za))) (t15:Int) (o0:(den Zb)) (o1:(den Zz)) (o2:(den Zz)):Zs.l0 n (m0+1) t0 t1 t2 t3 t4 t10 t11 t12 t13 t14 t15 o0 o1 o2 =
  bif (decide (t15<((List.length t13):Int))) then
    if (0:Int)≤t15∧t15<(((List.length t13):Nat):Int) then
    if (0:Int)≤t15∧t15<(((List.length t13):Nat):Int) then
    Option.bind (Z8 n t14 ((List.getD t13 (Int.toNat t15) (dft Za):(den Za)).1:Int) ((List.getD t13 (Int.toNat t15) (dft Za):(den Za)).2.1:Int)) fun r15 =>
    bif (r15.1.1:Bool) then
      some ((true,()),[])
    else
      Zs.l0 n m0 t0 t1 t2 t3 t4 t10 t11 t12 t13 t14 (IntKind.wrap .i64 (t15+1)) o0 o1 o2
    else none
    else none
  else
    Option.bind (Qz n o0 t11 o1) fun r16 =>
    Option.bind (Qz n r16.1.1 t12 o2) fun r17 =>
    Option.bind (Qz n o0 t12 o2) fun r18 =>
    Option.bind (Qz n r18.1.1 t11 o1) fun r19 =>
    Option.bind (Ya n r16.1.2.1 r19.1.2.1) fun r20 =>
    bif (r20.1.1:Bool) then
      Option.bind (Ya n r17.1.2.1 r18.1.2.1) fun r21 =>
      bif (r21.1.1:Bool) then
        Option.bind (Zn n r17.1.1 r19.1.1) fun r22 =>
        bif (r22.1.1:Bool) then
          Option.bind (Hp n r16.1.1 t12 o2) fun r23 =>
          Option.bind (Z4 n (r23.1.1:(List (den Za))) t14) fun r24 =>
          bif (r24.1.1:Bool) then
            Option.bind (Hp n r18.1.1 t11 o1) fun r25 =>
            Option.bind (Z4 n (r25.1.1:(List (den Za))) t13) fun r26 =>
            some (((r26.1.1:Bool),()),[])
          else
            some ((false,()),[])
        else
          some ((false,()),[])
      else
        some ((false,()),[])
    else
      some ((false,()),[]):=by kernel_rfl
theorem Zs.eq (n:Nat) (a0:(den Zb)) (a1:Int) (a2:(den Zz)) (a3:Int) (a4:(den Zz)):Zs (n+1) a0 a1 a2 a3 a4 =
  Option.bind (X0 n) fun r1 =>
  bif (!(r1.1.1:Bool)) then
    Option.bind (X0 n) fun r2 =>
    some (((r2.1.1:Bool),()),[])
  else
    Option.bind (Yk n a0) fun r3 =>
    bif (!(r3.1.1:Bool)) then
      Option.bind (X0 n) fun r4 =>
      some (((r4.1.1:Bool),()),[])
    else
      Option.bind (Yi n a2) fun r5 =>
      bif (!(r5.1.1:Bool)) then
        Option.bind (X0 n) fun r6 =>
        some (((r6.1.1:Bool),()),[])
      else
        Option.bind (Ye n a2) fun r7 =>
        bif (!(r7.1.1:Bool)) then
          Option.bind (X0 n) fun r8 =>
          some (((r8.1.1:Bool),()),[])
        else
          Option.bind (Yi n a4) fun r9 =>
          bif (!(r9.1.1:Bool)) then
            Option.bind (X0 n) fun r10 =>
            some (((r10.1.1:Bool),()),[])
          else
            Option.bind (Ye n a4) fun r11 =>
            bif (!(r11.1.1:Bool)) then
              Option.bind (X0 n) fun r12 =>
              some (((r12.1.1:Bool),()),[])
            else
              if ((List.length (a0.2.1:(List Int))):Int)=0 then none else
              if ((List.length (a0.2.1:(List Int))):Int)=0 then none else
              Option.bind (Hp n a0 (Int.tmod (IntKind.wrap .i64 (a1)) ((List.length (a0.2.1:(List Int))):Int)) a2) fun r13 =>
              Option.bind (Hp n a0 (Int.tmod (IntKind.wrap .i64 (a3)) ((List.length (a0.2.1:(List Int))):Int)) a4) fun r14 =>
              Zs.l0 n n a0 a1 a2 a3 a4 false (Int.tmod (IntKind.wrap .i64 (a1)) ((List.length (a0.2.1:(List Int))):Int)) (Int.tmod (IntKind.wrap .i64 (a3)) ((List.length (a0.2.1:(List Int))):Int)) (r13.1.1:(List (den Za))) (r14.1.1:(List (den Za))) 0 a0 a2 a4:=by kernel_rfl
end Go.Proofs.YtmemggdjnfccfaaGreatDoor.Ghost
