/- What each function and each loop comes to, one step. Conditions: none. -/
import Derived.Test.YtmemggdjnfccfaaGreatDoorGSp
import Derived.KernelRfl
set_option linter.unusedVariables false
set_option linter.unusedSimpArgs false
set_option linter.unusedSectionVars false
set_option linter.unnecessarySimpa false
namespace Go.Proofs.YtmemggdjnfccfaaGreatDoor.Ghost
open Go
abbrev gc (n:Nat):Calls:=K9 prog sp n
abbrev lpN {R:Type} (n:Nat) (c:Cd) (m:Nat) (K:Kt R) (s:Xn) (h:Y1):Option R:=Rw (fun Kn K s h=>run (gc n) n c Kn K s h) m K s h
@[reducible] def Vb.R:Type:=Xd [.d Zb]×Z0
def Vb (n:Nat) (a0:(den Xa)):Option Vb.R:=gc n 19 [.dat Xa a0 []] [.d Zb]
@[reducible] def Qk.R:Type:=Xd [.d Zb]×Z0
def Qk (n:Nat) (a0:(den Zb)):Option Qk.R:=gc n 20 [.dat Zb a0 []] [.d Zb]
@[reducible] def Jq.R:Type:=Xd [.d (.int .i64),.d .bool]×Z0
def Jq (n:Nat) (a0:(den Zb)) (a1:Int) (a2:Int):Option Jq.R:=gc n 25 [.dat Zb a0 [],.dat (.int .i64) a1 [],.dat (.int .i64) a2 []] [.d (.int .i64),.d .bool]
theorem Jq.eq (n:Nat) (a0:(den Zb)) (a1:Int) (a2:Int):Jq (n+1) a0 a1 a2 =
  if (0:Int)≤a1∧a1<(((List.length (a0.1.1:(List (List Int)))):Nat):Int) then
  if (0:Int)≤a2∧a2<((4:Nat):Int) then
  some (((if (List.getD (List.getD (a0.1.1:(List (List Int))) (Int.toNat a1) (dft (.arr 4 (.int .i64))):(List Int)) (Int.toNat a2) (0:Int):Int)<0 then 0 else (List.getD (List.getD (a0.1.1:(List (List Int))) (Int.toNat a1) (dft (.arr 4 (.int .i64))):(List Int)) (Int.toNat a2) (0:Int):Int)),(decide (0≤(List.getD (List.getD (a0.1.1:(List (List Int))) (Int.toNat a1) (dft (.arr 4 (.int .i64))):(List Int)) (Int.toNat a2) (0:Int):Int))),()),[])
  else none
  else none:=by kernel_rfl
@[reducible] def Zx.R:Type:=Xd [.d (.sl Za)]×Z0
def Zx (n:Nat) (a0:(List (den Za))):Option Zx.R:=gc n 26 [.dat (.sl Za) a0 []] [.d (.sl Za)]
@[reducible] def G4.R:Type:=Xd [.d (.sl Za)]×Z0
def G4 (n:Nat) (a0:(den Zb)) (a1:Int) (a2:(den Z2)):Option G4.R:=gc n 9 [.dat Zb a0 [],.dat (.int .i64) a1 [],.dat Z2 a2 []] [.d (.sl Za)]
theorem G4.eq (n:Nat) (a0:(den Zb)) (a1:Int) (a2:(den Z2)):G4 (n+1) a0 a1 a2 =
  if (0:Int)≤a1∧a1<(((List.length (a0.2.1:(List Int))):Nat):Int) then
  bif (decide ((a2.1:Int)=1)) then
    bif (decide ((a2.1:Int)=1)) then
      Option.bind (Jq n a0 (List.getD (a0.2.1:(List Int)) (Int.toNat a1) (0:Int):Int) (a2.2.1:Int)) fun r1 =>
      bif (r1.1.2.1:Bool) then
        bif (decide ((a2.1:Int)=2)) then
          bif (decide ((a2.1:Int)=2)) then
            bif (decide (0≤(a2.2.2.2.2.1:Int))) then
              bif (decide ((a2.2.2.2.2.1:Int)<((List.length (a0.2.1:(List Int))):Int))) then
                Option.bind (Zx n ([(0,(List.getD (a0.2.1:(List Int)) (Int.toNat a1) (0:Int):Int),()),(1,a1,()),(0,(r1.1.1:Int),()),(1,(a2.2.2.2.2.1:Int),())]:List (den Za))) fun r2 =>
                some (((r2.1.1:(List (den Za))),()),[])
              else
                Option.bind (Zx n ([(0,(List.getD (a0.2.1:(List Int)) (Int.toNat a1) (0:Int):Int),()),(1,a1,()),(0,(r1.1.1:Int),())]:List (den Za))) fun r3 =>
                some (((r3.1.1:(List (den Za))),()),[])
            else
              Option.bind (Zx n ([(0,(List.getD (a0.2.1:(List Int)) (Int.toNat a1) (0:Int):Int),()),(1,a1,()),(0,(r1.1.1:Int),())]:List (den Za))) fun r4 =>
              some (((r4.1.1:(List (den Za))),()),[])
          else
            Option.bind (Zx n ([(0,(List.getD (a0.2.1:(List Int)) (Int.toNat a1) (0:Int):Int),()),(1,a1,()),(0,(r1.1.1:Int),())]:List (den Za))) fun r5 =>
            some (((r5.1.1:(List (den Za))),()),[])
        else
          bif (decide ((a2.1:Int)=7)) then
            bif (decide ((a2.1:Int)=7)) then
              bif (decide (0≤(a2.2.2.2.2.1:Int))) then
                bif (decide ((a2.2.2.2.2.1:Int)<((List.length (a0.2.1:(List Int))):Int))) then
                  Option.bind (Zx n ([(0,(List.getD (a0.2.1:(List Int)) (Int.toNat a1) (0:Int):Int),()),(1,a1,()),(0,(r1.1.1:Int),()),(1,(a2.2.2.2.2.1:Int),())]:List (den Za))) fun r6 =>
                  some (((r6.1.1:(List (den Za))),()),[])
                else
                  Option.bind (Zx n ([(0,(List.getD (a0.2.1:(List Int)) (Int.toNat a1) (0:Int):Int),()),(1,a1,()),(0,(r1.1.1:Int),())]:List (den Za))) fun r7 =>
                  some (((r7.1.1:(List (den Za))),()),[])
              else
                Option.bind (Zx n ([(0,(List.getD (a0.2.1:(List Int)) (Int.toNat a1) (0:Int):Int),()),(1,a1,()),(0,(r1.1.1:Int),())]:List (den Za))) fun r8 =>
                some (((r8.1.1:(List (den Za))),()),[])
            else
              Option.bind (Zx n ([(0,(List.getD (a0.2.1:(List Int)) (Int.toNat a1) (0:Int):Int),()),(1,a1,()),(0,(r1.1.1:Int),())]:List (den Za))) fun r9 =>
              some (((r9.1.1:(List (den Za))),()),[])
          else
            bif (decide ((a2.1:Int)=8)) then
              bif (decide (0≤(a2.2.2.2.2.1:Int))) then
                bif (decide ((a2.2.2.2.2.1:Int)<((List.length (a0.2.1:(List Int))):Int))) then
                  Option.bind (Zx n ([(0,(List.getD (a0.2.1:(List Int)) (Int.toNat a1) (0:Int):Int),()),(1,a1,()),(0,(r1.1.1:Int),()),(1,(a2.2.2.2.2.1:Int),())]:List (den Za))) fun r10 =>
                  some (((r10.1.1:(List (den Za))),()),[])
                else
                  Option.bind (Zx n ([(0,(List.getD (a0.2.1:(List Int)) (Int.toNat a1) (0:Int):Int),()),(1,a1,()),(0,(r1.1.1:Int),())]:List (den Za))) fun r11 =>
                  some (((r11.1.1:(List (den Za))),()),[])
              else
                Option.bind (Zx n ([(0,(List.getD (a0.2.1:(List Int)) (Int.toNat a1) (0:Int):Int),()),(1,a1,()),(0,(r1.1.1:Int),())]:List (den Za))) fun r12 =>
                some (((r12.1.1:(List (den Za))),()),[])
            else
              Option.bind (Zx n ([(0,(List.getD (a0.2.1:(List Int)) (Int.toNat a1) (0:Int):Int),()),(1,a1,()),(0,(r1.1.1:Int),())]:List (den Za))) fun r13 =>
              some (((r13.1.1:(List (den Za))),()),[])
      else
        bif (decide ((a2.1:Int)=2)) then
          bif (decide ((a2.1:Int)=2)) then
            bif (decide (0≤(a2.2.2.2.2.1:Int))) then
              bif (decide ((a2.2.2.2.2.1:Int)<((List.length (a0.2.1:(List Int))):Int))) then
                Option.bind (Zx n ([(0,(List.getD (a0.2.1:(List Int)) (Int.toNat a1) (0:Int):Int),()),(1,a1,()),(1,(a2.2.2.2.2.1:Int),())]:List (den Za))) fun r14 =>
                some (((r14.1.1:(List (den Za))),()),[])
              else
                Option.bind (Zx n ([(0,(List.getD (a0.2.1:(List Int)) (Int.toNat a1) (0:Int):Int),()),(1,a1,())]:List (den Za))) fun r15 =>
                some (((r15.1.1:(List (den Za))),()),[])
            else
              Option.bind (Zx n ([(0,(List.getD (a0.2.1:(List Int)) (Int.toNat a1) (0:Int):Int),()),(1,a1,())]:List (den Za))) fun r16 =>
              some (((r16.1.1:(List (den Za))),()),[])
          else
            Option.bind (Zx n ([(0,(List.getD (a0.2.1:(List Int)) (Int.toNat a1) (0:Int):Int),()),(1,a1,())]:List (den Za))) fun r17 =>
            some (((r17.1.1:(List (den Za))),()),[])
        else
          bif (decide ((a2.1:Int)=7)) then
            bif (decide ((a2.1:Int)=7)) then
              bif (decide (0≤(a2.2.2.2.2.1:Int))) then
                bif (decide ((a2.2.2.2.2.1:Int)<((List.length (a0.2.1:(List Int))):Int))) then
                  Option.bind (Zx n ([(0,(List.getD (a0.2.1:(List Int)) (Int.toNat a1) (0:Int):Int),()),(1,a1,()),(1,(a2.2.2.2.2.1:Int),())]:List (den Za))) fun r18 =>
                  some (((r18.1.1:(List (den Za))),()),[])
                else
                  Option.bind (Zx n ([(0,(List.getD (a0.2.1:(List Int)) (Int.toNat a1) (0:Int):Int),()),(1,a1,())]:List (den Za))) fun r19 =>
                  some (((r19.1.1:(List (den Za))),()),[])
              else
                Option.bind (Zx n ([(0,(List.getD (a0.2.1:(List Int)) (Int.toNat a1) (0:Int):Int),()),(1,a1,())]:List (den Za))) fun r20 =>
                some (((r20.1.1:(List (den Za))),()),[])
            else
              Option.bind (Zx n ([(0,(List.getD (a0.2.1:(List Int)) (Int.toNat a1) (0:Int):Int),()),(1,a1,())]:List (den Za))) fun r21 =>
              some (((r21.1.1:(List (den Za))),()),[])
          else
            bif (decide ((a2.1:Int)=8)) then
              bif (decide (0≤(a2.2.2.2.2.1:Int))) then
                bif (decide ((a2.2.2.2.2.1:Int)<((List.length (a0.2.1:(List Int))):Int))) then
                  Option.bind (Zx n ([(0,(List.getD (a0.2.1:(List Int)) (Int.toNat a1) (0:Int):Int),()),(1,a1,()),(1,(a2.2.2.2.2.1:Int),())]:List (den Za))) fun r22 =>
                  some (((r22.1.1:(List (den Za))),()),[])
                else
                  Option.bind (Zx n ([(0,(List.getD (a0.2.1:(List Int)) (Int.toNat a1) (0:Int):Int),()),(1,a1,())]:List (den Za))) fun r23 =>
                  some (((r23.1.1:(List (den Za))),()),[])
              else
                Option.bind (Zx n ([(0,(List.getD (a0.2.1:(List Int)) (Int.toNat a1) (0:Int):Int),()),(1,a1,())]:List (den Za))) fun r24 =>
                some (((r24.1.1:(List (den Za))),()),[])
            else
              Option.bind (Zx n ([(0,(List.getD (a0.2.1:(List Int)) (Int.toNat a1) (0:Int):Int),()),(1,a1,())]:List (den Za))) fun r25 =>
              some (((r25.1.1:(List (den Za))),()),[])
    else
      bif (decide ((a2.1:Int)=2)) then
        bif (decide ((a2.1:Int)=2)) then
          bif (decide (0≤(a2.2.2.2.2.1:Int))) then
            bif (decide ((a2.2.2.2.2.1:Int)<((List.length (a0.2.1:(List Int))):Int))) then
              Option.bind (Zx n ([(0,(List.getD (a0.2.1:(List Int)) (Int.toNat a1) (0:Int):Int),()),(1,a1,()),(1,(a2.2.2.2.2.1:Int),())]:List (den Za))) fun r26 =>
              some (((r26.1.1:(List (den Za))),()),[])
            else
              Option.bind (Zx n ([(0,(List.getD (a0.2.1:(List Int)) (Int.toNat a1) (0:Int):Int),()),(1,a1,())]:List (den Za))) fun r27 =>
              some (((r27.1.1:(List (den Za))),()),[])
          else
            Option.bind (Zx n ([(0,(List.getD (a0.2.1:(List Int)) (Int.toNat a1) (0:Int):Int),()),(1,a1,())]:List (den Za))) fun r28 =>
            some (((r28.1.1:(List (den Za))),()),[])
        else
          Option.bind (Zx n ([(0,(List.getD (a0.2.1:(List Int)) (Int.toNat a1) (0:Int):Int),()),(1,a1,())]:List (den Za))) fun r29 =>
          some (((r29.1.1:(List (den Za))),()),[])
      else
        bif (decide ((a2.1:Int)=7)) then
          bif (decide ((a2.1:Int)=7)) then
            bif (decide (0≤(a2.2.2.2.2.1:Int))) then
              bif (decide ((a2.2.2.2.2.1:Int)<((List.length (a0.2.1:(List Int))):Int))) then
                Option.bind (Zx n ([(0,(List.getD (a0.2.1:(List Int)) (Int.toNat a1) (0:Int):Int),()),(1,a1,()),(1,(a2.2.2.2.2.1:Int),())]:List (den Za))) fun r30 =>
                some (((r30.1.1:(List (den Za))),()),[])
              else
                Option.bind (Zx n ([(0,(List.getD (a0.2.1:(List Int)) (Int.toNat a1) (0:Int):Int),()),(1,a1,())]:List (den Za))) fun r31 =>
                some (((r31.1.1:(List (den Za))),()),[])
            else
              Option.bind (Zx n ([(0,(List.getD (a0.2.1:(List Int)) (Int.toNat a1) (0:Int):Int),()),(1,a1,())]:List (den Za))) fun r32 =>
              some (((r32.1.1:(List (den Za))),()),[])
          else
            Option.bind (Zx n ([(0,(List.getD (a0.2.1:(List Int)) (Int.toNat a1) (0:Int):Int),()),(1,a1,())]:List (den Za))) fun r33 =>
            some (((r33.1.1:(List (den Za))),()),[])
        else
          bif (decide ((a2.1:Int)=8)) then
            bif (decide (0≤(a2.2.2.2.2.1:Int))) then
              bif (decide ((a2.2.2.2.2.1:Int)<((List.length (a0.2.1:(List Int))):Int))) then
                Option.bind (Zx n ([(0,(List.getD (a0.2.1:(List Int)) (Int.toNat a1) (0:Int):Int),()),(1,a1,()),(1,(a2.2.2.2.2.1:Int),())]:List (den Za))) fun r34 =>
                some (((r34.1.1:(List (den Za))),()),[])
              else
                Option.bind (Zx n ([(0,(List.getD (a0.2.1:(List Int)) (Int.toNat a1) (0:Int):Int),()),(1,a1,())]:List (den Za))) fun r35 =>
                some (((r35.1.1:(List (den Za))),()),[])
            else
              Option.bind (Zx n ([(0,(List.getD (a0.2.1:(List Int)) (Int.toNat a1) (0:Int):Int),()),(1,a1,())]:List (den Za))) fun r36 =>
              some (((r36.1.1:(List (den Za))),()),[])
          else
            Option.bind (Zx n ([(0,(List.getD (a0.2.1:(List Int)) (Int.toNat a1) (0:Int):Int),()),(1,a1,())]:List (den Za))) fun r37 =>
            some (((r37.1.1:(List (den Za))),()),[])
  else
    bif (decide ((a2.1:Int)=2)) then
      Option.bind (Jq n a0 (List.getD (a0.2.1:(List Int)) (Int.toNat a1) (0:Int):Int) (a2.2.1:Int)) fun r38 =>
      bif (r38.1.2.1:Bool) then
        bif (decide ((a2.1:Int)=2)) then
          bif (decide ((a2.1:Int)=2)) then
            bif (decide (0≤(a2.2.2.2.2.1:Int))) then
              bif (decide ((a2.2.2.2.2.1:Int)<((List.length (a0.2.1:(List Int))):Int))) then
                Option.bind (Zx n ([(0,(List.getD (a0.2.1:(List Int)) (Int.toNat a1) (0:Int):Int),()),(1,a1,()),(0,(r38.1.1:Int),()),(1,(a2.2.2.2.2.1:Int),())]:List (den Za))) fun r39 =>
                some (((r39.1.1:(List (den Za))),()),[])
              else
                Option.bind (Zx n ([(0,(List.getD (a0.2.1:(List Int)) (Int.toNat a1) (0:Int):Int),()),(1,a1,()),(0,(r38.1.1:Int),())]:List (den Za))) fun r40 =>
                some (((r40.1.1:(List (den Za))),()),[])
            else
              Option.bind (Zx n ([(0,(List.getD (a0.2.1:(List Int)) (Int.toNat a1) (0:Int):Int),()),(1,a1,()),(0,(r38.1.1:Int),())]:List (den Za))) fun r41 =>
              some (((r41.1.1:(List (den Za))),()),[])
          else
            Option.bind (Zx n ([(0,(List.getD (a0.2.1:(List Int)) (Int.toNat a1) (0:Int):Int),()),(1,a1,()),(0,(r38.1.1:Int),())]:List (den Za))) fun r42 =>
            some (((r42.1.1:(List (den Za))),()),[])
        else
          bif (decide ((a2.1:Int)=7)) then
            bif (decide ((a2.1:Int)=7)) then
              bif (decide (0≤(a2.2.2.2.2.1:Int))) then
                bif (decide ((a2.2.2.2.2.1:Int)<((List.length (a0.2.1:(List Int))):Int))) then
                  Option.bind (Zx n ([(0,(List.getD (a0.2.1:(List Int)) (Int.toNat a1) (0:Int):Int),()),(1,a1,()),(0,(r38.1.1:Int),()),(1,(a2.2.2.2.2.1:Int),())]:List (den Za))) fun r43 =>
                  some (((r43.1.1:(List (den Za))),()),[])
                else
                  Option.bind (Zx n ([(0,(List.getD (a0.2.1:(List Int)) (Int.toNat a1) (0:Int):Int),()),(1,a1,()),(0,(r38.1.1:Int),())]:List (den Za))) fun r44 =>
                  some (((r44.1.1:(List (den Za))),()),[])
              else
                Option.bind (Zx n ([(0,(List.getD (a0.2.1:(List Int)) (Int.toNat a1) (0:Int):Int),()),(1,a1,()),(0,(r38.1.1:Int),())]:List (den Za))) fun r45 =>
                some (((r45.1.1:(List (den Za))),()),[])
            else
              Option.bind (Zx n ([(0,(List.getD (a0.2.1:(List Int)) (Int.toNat a1) (0:Int):Int),()),(1,a1,()),(0,(r38.1.1:Int),())]:List (den Za))) fun r46 =>
              some (((r46.1.1:(List (den Za))),()),[])
          else
            bif (decide ((a2.1:Int)=8)) then
              bif (decide (0≤(a2.2.2.2.2.1:Int))) then
                bif (decide ((a2.2.2.2.2.1:Int)<((List.length (a0.2.1:(List Int))):Int))) then
                  Option.bind (Zx n ([(0,(List.getD (a0.2.1:(List Int)) (Int.toNat a1) (0:Int):Int),()),(1,a1,()),(0,(r38.1.1:Int),()),(1,(a2.2.2.2.2.1:Int),())]:List (den Za))) fun r47 =>
                  some (((r47.1.1:(List (den Za))),()),[])
                else
                  Option.bind (Zx n ([(0,(List.getD (a0.2.1:(List Int)) (Int.toNat a1) (0:Int):Int),()),(1,a1,()),(0,(r38.1.1:Int),())]:List (den Za))) fun r48 =>
                  some (((r48.1.1:(List (den Za))),()),[])
              else
                Option.bind (Zx n ([(0,(List.getD (a0.2.1:(List Int)) (Int.toNat a1) (0:Int):Int),()),(1,a1,()),(0,(r38.1.1:Int),())]:List (den Za))) fun r49 =>
                some (((r49.1.1:(List (den Za))),()),[])
            else
              Option.bind (Zx n ([(0,(List.getD (a0.2.1:(List Int)) (Int.toNat a1) (0:Int):Int),()),(1,a1,()),(0,(r38.1.1:Int),())]:List (den Za))) fun r50 =>
              some (((r50.1.1:(List (den Za))),()),[])
      else
        bif (decide ((a2.1:Int)=2)) then
          bif (decide ((a2.1:Int)=2)) then
            bif (decide (0≤(a2.2.2.2.2.1:Int))) then
              bif (decide ((a2.2.2.2.2.1:Int)<((List.length (a0.2.1:(List Int))):Int))) then
                Option.bind (Zx n ([(0,(List.getD (a0.2.1:(List Int)) (Int.toNat a1) (0:Int):Int),()),(1,a1,()),(1,(a2.2.2.2.2.1:Int),())]:List (den Za))) fun r51 =>
                some (((r51.1.1:(List (den Za))),()),[])
              else
                Option.bind (Zx n ([(0,(List.getD (a0.2.1:(List Int)) (Int.toNat a1) (0:Int):Int),()),(1,a1,())]:List (den Za))) fun r52 =>
                some (((r52.1.1:(List (den Za))),()),[])
            else
              Option.bind (Zx n ([(0,(List.getD (a0.2.1:(List Int)) (Int.toNat a1) (0:Int):Int),()),(1,a1,())]:List (den Za))) fun r53 =>
              some (((r53.1.1:(List (den Za))),()),[])
          else
            Option.bind (Zx n ([(0,(List.getD (a0.2.1:(List Int)) (Int.toNat a1) (0:Int):Int),()),(1,a1,())]:List (den Za))) fun r54 =>
            some (((r54.1.1:(List (den Za))),()),[])
        else
          bif (decide ((a2.1:Int)=7)) then
            bif (decide ((a2.1:Int)=7)) then
              bif (decide (0≤(a2.2.2.2.2.1:Int))) then
                bif (decide ((a2.2.2.2.2.1:Int)<((List.length (a0.2.1:(List Int))):Int))) then
                  Option.bind (Zx n ([(0,(List.getD (a0.2.1:(List Int)) (Int.toNat a1) (0:Int):Int),()),(1,a1,()),(1,(a2.2.2.2.2.1:Int),())]:List (den Za))) fun r55 =>
                  some (((r55.1.1:(List (den Za))),()),[])
                else
                  Option.bind (Zx n ([(0,(List.getD (a0.2.1:(List Int)) (Int.toNat a1) (0:Int):Int),()),(1,a1,())]:List (den Za))) fun r56 =>
                  some (((r56.1.1:(List (den Za))),()),[])
              else
                Option.bind (Zx n ([(0,(List.getD (a0.2.1:(List Int)) (Int.toNat a1) (0:Int):Int),()),(1,a1,())]:List (den Za))) fun r57 =>
                some (((r57.1.1:(List (den Za))),()),[])
            else
              Option.bind (Zx n ([(0,(List.getD (a0.2.1:(List Int)) (Int.toNat a1) (0:Int):Int),()),(1,a1,())]:List (den Za))) fun r58 =>
              some (((r58.1.1:(List (den Za))),()),[])
          else
            bif (decide ((a2.1:Int)=8)) then
              bif (decide (0≤(a2.2.2.2.2.1:Int))) then
                bif (decide ((a2.2.2.2.2.1:Int)<((List.length (a0.2.1:(List Int))):Int))) then
                  Option.bind (Zx n ([(0,(List.getD (a0.2.1:(List Int)) (Int.toNat a1) (0:Int):Int),()),(1,a1,()),(1,(a2.2.2.2.2.1:Int),())]:List (den Za))) fun r59 =>
                  some (((r59.1.1:(List (den Za))),()),[])
                else
                  Option.bind (Zx n ([(0,(List.getD (a0.2.1:(List Int)) (Int.toNat a1) (0:Int):Int),()),(1,a1,())]:List (den Za))) fun r60 =>
                  some (((r60.1.1:(List (den Za))),()),[])
              else
                Option.bind (Zx n ([(0,(List.getD (a0.2.1:(List Int)) (Int.toNat a1) (0:Int):Int),()),(1,a1,())]:List (den Za))) fun r61 =>
                some (((r61.1.1:(List (den Za))),()),[])
            else
              Option.bind (Zx n ([(0,(List.getD (a0.2.1:(List Int)) (Int.toNat a1) (0:Int):Int),()),(1,a1,())]:List (den Za))) fun r62 =>
              some (((r62.1.1:(List (den Za))),()),[])
    else
      bif (decide ((a2.1:Int)=2)) then
        bif (decide ((a2.1:Int)=2)) then
          bif (decide (0≤(a2.2.2.2.2.1:Int))) then
            bif (decide ((a2.2.2.2.2.1:Int)<((List.length (a0.2.1:(List Int))):Int))) then
              Option.bind (Zx n ([(0,(List.getD (a0.2.1:(List Int)) (Int.toNat a1) (0:Int):Int),()),(1,a1,()),(1,(a2.2.2.2.2.1:Int),())]:List (den Za))) fun r63 =>
              some (((r63.1.1:(List (den Za))),()),[])
            else
              Option.bind (Zx n ([(0,(List.getD (a0.2.1:(List Int)) (Int.toNat a1) (0:Int):Int),()),(1,a1,())]:List (den Za))) fun r64 =>
              some (((r64.1.1:(List (den Za))),()),[])
          else
            Option.bind (Zx n ([(0,(List.getD (a0.2.1:(List Int)) (Int.toNat a1) (0:Int):Int),()),(1,a1,())]:List (den Za))) fun r65 =>
            some (((r65.1.1:(List (den Za))),()),[])
        else
          Option.bind (Zx n ([(0,(List.getD (a0.2.1:(List Int)) (Int.toNat a1) (0:Int):Int),()),(1,a1,())]:List (den Za))) fun r66 =>
          some (((r66.1.1:(List (den Za))),()),[])
      else
        bif (decide ((a2.1:Int)=7)) then
          bif (decide ((a2.1:Int)=7)) then
            bif (decide (0≤(a2.2.2.2.2.1:Int))) then
              bif (decide ((a2.2.2.2.2.1:Int)<((List.length (a0.2.1:(List Int))):Int))) then
                Option.bind (Zx n ([(0,(List.getD (a0.2.1:(List Int)) (Int.toNat a1) (0:Int):Int),()),(1,a1,()),(1,(a2.2.2.2.2.1:Int),())]:List (den Za))) fun r67 =>
                some (((r67.1.1:(List (den Za))),()),[])
              else
                Option.bind (Zx n ([(0,(List.getD (a0.2.1:(List Int)) (Int.toNat a1) (0:Int):Int),()),(1,a1,())]:List (den Za))) fun r68 =>
                some (((r68.1.1:(List (den Za))),()),[])
            else
              Option.bind (Zx n ([(0,(List.getD (a0.2.1:(List Int)) (Int.toNat a1) (0:Int):Int),()),(1,a1,())]:List (den Za))) fun r69 =>
              some (((r69.1.1:(List (den Za))),()),[])
          else
            Option.bind (Zx n ([(0,(List.getD (a0.2.1:(List Int)) (Int.toNat a1) (0:Int):Int),()),(1,a1,())]:List (den Za))) fun r70 =>
            some (((r70.1.1:(List (den Za))),()),[])
        else
          bif (decide ((a2.1:Int)=8)) then
            bif (decide (0≤(a2.2.2.2.2.1:Int))) then
              bif (decide ((a2.2.2.2.2.1:Int)<((List.length (a0.2.1:(List Int))):Int))) then
                Option.bind (Zx n ([(0,(List.getD (a0.2.1:(List Int)) (Int.toNat a1) (0:Int):Int),()),(1,a1,()),(1,(a2.2.2.2.2.1:Int),())]:List (den Za))) fun r71 =>
                some (((r71.1.1:(List (den Za))),()),[])
              else
                Option.bind (Zx n ([(0,(List.getD (a0.2.1:(List Int)) (Int.toNat a1) (0:Int):Int),()),(1,a1,())]:List (den Za))) fun r72 =>
                some (((r72.1.1:(List (den Za))),()),[])
            else
              Option.bind (Zx n ([(0,(List.getD (a0.2.1:(List Int)) (Int.toNat a1) (0:Int):Int),()),(1,a1,())]:List (den Za))) fun r73 =>
              some (((r73.1.1:(List (den Za))),()),[])
          else
            Option.bind (Zx n ([(0,(List.getD (a0.2.1:(List Int)) (Int.toNat a1) (0:Int):Int),()),(1,a1,())]:List (den Za))) fun r74 =>
            some (((r74.1.1:(List (den Za))),()),[])
  else none:=by kernel_rfl
@[reducible] def Jl.R:Type:=Xd [.d .bool]×Z0
def Jl (n:Nat) (a0:(List (den Za))) (a1:(List (den Za))):Option Jl.R:=gc n 18 [.dat (.sl Za) a0 [],.dat (.sl Za) a1 []] [.d .bool]
def Zm.res:List Sh:=[.d (.int .i64)]
@[reducible] def Zm.R:Type:=Xd [.d (.int .i64)]×Z0
def Zm (n:Nat) (a0:(List (den Za))) (a1:(den Za)):Option Zm.R:=gc n 70 [.dat (.sl Za) a0 [],.dat Za a1 []] [.d (.int .i64)]
def Zm.l0 (n m0:Nat) (t0:(List (den Za))) (t1:(den Za)) (t4:Int) (t7:Int) (t8:Int) (o0:(den Za)):Option Zm.R :=
  lpN n ATk m0 (Jg 0 (Q9 (run (gc n) n) ATj (Xi Zm.fn Zm.res) (Xi Zm.fn Zm.res)) (Xi Zm.fn Zm.res))
    [(0,.dat (.sl Za) t0 []),(1,.dat Za t1 []),(3,.ptr 0 []),(4,.dat (.int .i64) t4 []),(7,.dat (.int .i64) t7 []),(8,.dat (.int .i64) t8 [])]
    [.box Za o0 []]
theorem Zm.l0_eq (n m0:Nat) (t0:(List (den Za))) (t1:(den Za)) (t4:Int) (t7:Int) (t8:Int) (o0:(den Za)):Zm.l0 n (m0+1) t0 t1 t4 t7 t8 o0 =
  bif (decide (t8<t7)) then
    if (0:Int)≤t8∧t8<(((List.length t0):Nat):Int) then
    bif (eqT Za o0 (List.getD t0 (Int.toNat t8) (dft Za):(den Za))) then
      some ((t8,()),[])
    else
      Zm.l0 n m0 t0 t1 t4 t7 (IntKind.wrap .i64 (t8+1)) o0
    else none
  else
    some (((-1),()),[]):=by kernel_rfl
theorem Zm.eq (n:Nat) (a0:(List (den Za))) (a1:(den Za)):Zm (n+1) a0 a1 =
  Zm.l0 n n a0 a1 0 ((List.length a0):Int) 0 a1:=by kernel_rfl
@[reducible] def Z7.R:Type:=Xd [.d .bool]×Z0
def Z7 (n:Nat) (a0:(List (den Za))) (a1:(den Za)):Option Z7.R:=gc n 30 [.dat (.sl Za) a0 [],.dat Za a1 []] [.d .bool]
theorem Z7.eq (n:Nat) (a0:(List (den Za))) (a1:(den Za)):Z7 (n+1) a0 a1 =
  Option.bind (Zm n a0 a1) fun r1 =>
  some (((decide (0≤(r1.1.1:Int))),()),[]):=by kernel_rfl
@[reducible] def Yq.R:Type:=Xd [.d .bool]×Z0
def Yq (n:Nat) (a0:Int) (a1:Int) (a2:(List (den Za))):Option Yq.R:=gc n 29 [.dat (.int .i64) a0 [],.dat (.int .i64) a1 [],.ref (.sl Za) a2] [.d .bool]
theorem Yq.eq (n:Nat) (a0:Int) (a1:Int) (a2:(List (den Za))):Yq (n+1) a0 a1 a2 =
  Option.bind (Z7 n a2 (a0,a1,())) fun r1 =>
  some (((r1.1.1:Bool),()),[]):=by kernel_rfl
@[reducible] def Gq.R:Type:=Xd [.clo 123 [.ref Zb,.ref (.int .i64)]]×Z0
def Gq (n:Nat) (a0:(den Zb)) (a1:Int):Option Gq.R:=gc n 72 [.dat Zb a0 [],.dat (.int .i64) a1 []] [.clo 123 [.ref Zb,.ref (.int .i64)]]
theorem Gq.eq (n:Nat) (a0:(den Zb)) (a1:Int):Gq (n+1) a0 a1 =
  some (((a0,a1,()),()),[]):=by kernel_rfl
@[reducible] def Qp.R:Type:=Xd [.d (.sl Za)]×Z0
def Qp (n:Nat) (a0:(den Zb)) (a1:Int):Option Qp.R:=gc n 71 [.clo 123 [.ref Zb a0,.ref (.int .i64) a1]] [.d (.sl Za)]
@[reducible] def Vg.R:Type:=Xd [.d Za]×Z0
def Vg (n:Nat) (a0:(den Zb)) (a1:Int):Option Vg.R:=gc n 31 [.dat Zb a0 [],.dat (.int .i64) a1 []] [.d Za]
theorem Vg.eq (n:Nat) (a0:(den Zb)) (a1:Int):Vg (n+1) a0 a1 =
  Option.bind (Gq n a0 a1) fun r1 =>
  Option.bind (Qp n r1.1.1.1 (r1.1.1.2.1:Int)) fun r2 =>
  if (0:Int)≤(IntKind.wrap .i64 (((List.length (r2.1.1:(List (den Za)))):Int) - 1))∧(IntKind.wrap .i64 (((List.length (r2.1.1:(List (den Za)))):Int) - 1))<(((List.length (r2.1.1:(List (den Za)))):Nat):Int) then
  some (((List.getD (r2.1.1:(List (den Za))) (Int.toNat (IntKind.wrap .i64 (((List.length (r2.1.1:(List (den Za)))):Int) - 1))) (dft Za):(den Za)),()),[])
  else none:=by kernel_rfl
def Z5.res:List Sh:=[.d .bool]
@[reducible] def Z5.R:Type:=Xd [.d .bool]×Z0
def Z5 (n:Nat) (a0:(List (den Za))) (a1:(den Zb)) (a2:(den Zb)):Option Z5.R:=gc n 11 [.dat (.sl Za) a0 [],.dat Zb a1 [],.dat Zb a2 []] [.d .bool]
def Z5.l0 (n m0:Nat) (t0:(List (den Za))) (t1:(den Zb)) (t2:(den Zb)) (t6:Bool) (t15:Int) (t16:Int) (o0:(List (den Za))) (o1:(den Zb)) (o2:(den Zb)):Option Z5.R :=
  lpN n AS6 m0 (Jg 0 (Q9 (run (gc n) n) AS5 (Xi Z5.fn Z5.res) (Xi Z5.fn Z5.res)) (Xi Z5.fn Z5.res))
    [(0,.dat (.sl Za) t0 []),(1,.dat Zb t1 []),(2,.dat Zb t2 []),(3,.ptr 0 []),(4,.ptr 1 []),(5,.ptr 2 []),(6,.dat .bool t6 []),(7,.clo 29 [.ptr 0 []]),(15,.dat (.int .i64) t15 []),(16,.dat (.int .i64) t16 [])]
    [.box (.sl Za) o0 [],.box Zb o1 [],.box Zb o2 []]
def Z5.l1 (n m0:Nat) (t0_1:(List (den Za))) (t1_1:(den Zb)) (t2_1:(den Zb)) (t6_1:Bool) (t15_1:Int) (t16_1:Int) (t52_1:Int) (t53_1:Int) (o0_1:(List (den Za))) (o1_1:(den Zb)) (o2_1:(den Zb)):Option Z5.R :=
  lpN n ALn m0 (Jg 2 (Q9 (run (gc n) n) ALm (Xi Z5.fn Z5.res) (Xi Z5.fn Z5.res)) (Xi Z5.fn Z5.res))
    [(0,.dat (.sl Za) t0_1 []),(1,.dat Zb t1_1 []),(2,.dat Zb t2_1 []),(3,.ptr 0 []),(4,.ptr 1 []),(5,.ptr 2 []),(6,.dat .bool t6_1 []),(7,.clo 29 [.ptr 0 []]),(15,.dat (.int .i64) t15_1 []),(16,.dat (.int .i64) t16_1 []),(52,.dat (.int .i64) t52_1 []),(53,.dat (.int .i64) t53_1 [])]
    [.box (.sl Za) o0_1 [],.box Zb o1_1 [],.box Zb o2_1 []]
theorem Z5.l0_eq (n m0:Nat) (t0:(List (den Za))) (t1:(den Zb)) (t2:(den Zb)) (t6:Bool) (t15:Int) (t16:Int) (o0:(List (den Za))) (o1:(den Zb)) (o2:(den Zb)):Z5.l0 n (m0+1) t0 t1 t2 t6 t15 t16 o0 o1 o2 =
  bif (decide (t16<t15)) then
    if (0:Int)≤t16∧t16<(((List.length (o1.2.1:(List Int))):Nat):Int) then
    if (0:Int)≤t16∧t16<(((List.length (o2.2.1:(List Int))):Nat):Int) then
    bif (!(decide ((List.getD (o1.2.1:(List Int)) (Int.toNat t16) (0:Int):Int)=(List.getD (o2.2.1:(List Int)) (Int.toNat t16) (0:Int):Int)))) then
      Option.bind (Yq n 1 t16 o0) fun r1 =>
      bif (!(r1.1.1:Bool)) then
        some ((false,()),[])
      else
        Z5.l0 n m0 t0 t1 t2 t6 t15 (IntKind.wrap .i64 (t16+1)) o0 o1 o2
    else
      if (0:Int)≤t16∧t16<(((List.length (o1.2.2.1:(List Int))):Nat):Int) then
      if (0:Int)≤t16∧t16<(((List.length (o2.2.2.1:(List Int))):Nat):Int) then
      bif (!(decide ((List.getD (o1.2.2.1:(List Int)) (Int.toNat t16) (0:Int):Int)=(List.getD (o2.2.2.1:(List Int)) (Int.toNat t16) (0:Int):Int)))) then
        Option.bind (Yq n 1 t16 o0) fun r2 =>
        bif (!(r2.1.1:Bool)) then
          some ((false,()),[])
        else
          Z5.l0 n m0 t0 t1 t2 t6 t15 (IntKind.wrap .i64 (t16+1)) o0 o1 o2
      else
        Z5.l0 n m0 t0 t1 t2 t6 t15 (IntKind.wrap .i64 (t16+1)) o0 o1 o2
      else none
      else none
    else none
    else none
  else
    Z5.l1 n n t0 t1 t2 t6 t15 t16 ((List.length (o1.2.2.2.1:(List (den Za)))):Int) 0 o0 o1 o2:=by kernel_rfl
theorem Z5.l1_eq (n m0:Nat) (t0_1:(List (den Za))) (t1_1:(den Zb)) (t2_1:(den Zb)) (t6_1:Bool) (t15_1:Int) (t16_1:Int) (t52_1:Int) (t53_1:Int) (o0_1:(List (den Za))) (o1_1:(den Zb)) (o2_1:(den Zb)):Z5.l1 n (m0+1) t0_1 t1_1 t2_1 t6_1 t15_1 t16_1 t52_1 t53_1 o0_1 o1_1 o2_1 =
  bif (decide (t53_1<t52_1)) then
    Option.bind (Vg n o1_1 t53_1) fun r3 =>
    Option.bind (Vg n o2_1 t53_1) fun r4 =>
    if (0:Int)≤t53_1∧t53_1<(((List.length (o1_1.2.2.2.1:(List (den Za)))):Nat):Int) then
    if (0:Int)≤t53_1∧t53_1<(((List.length (o2_1.2.2.2.1:(List (den Za)))):Nat):Int) then
    bif (!(eqT Za (List.getD (o1_1.2.2.2.1:(List (den Za))) (Int.toNat t53_1) (dft Za):(den Za)) (List.getD (o2_1.2.2.2.1:(List (den Za))) (Int.toNat t53_1) (dft Za):(den Za)))) then
      Option.bind (Yq n (r3.1.1.1:Int) (r3.1.1.2.1:Int) o0_1) fun r5 =>
      bif (r5.1.1:Bool) then
        Option.bind (Yq n (r4.1.1.1:Int) (r4.1.1.2.1:Int) o0_1) fun r6 =>
        bif (!(r6.1.1:Bool)) then
          some ((false,()),[])
        else
          Z5.l1 n m0 t0_1 t1_1 t2_1 t6_1 t15_1 t16_1 t52_1 (IntKind.wrap .i64 (t53_1+1)) o0_1 o1_1 o2_1
      else
        some ((false,()),[])
    else
      Z5.l1 n m0 t0_1 t1_1 t2_1 t6_1 t15_1 t16_1 t52_1 (IntKind.wrap .i64 (t53_1+1)) o0_1 o1_1 o2_1
    else none
    else none
  else
    some ((true,()),[]):=by kernel_rfl
theorem Z5.eq (n:Nat) (a0:(List (den Za))) (a1:(den Zb)) (a2:(den Zb)):Z5 (n+1) a0 a1 a2 =
  Z5.l0 n n a0 a1 a2 false ((List.length (a1.2.1:(List Int))):Int) 0 a0 a1 a2:=by kernel_rfl
@[reducible] def X7.R:Type:=Xd [.d .bool]×Z0
def X7 (n:Nat):Option X7.R:=gc n 5 [] [.d .bool]
@[reducible] def Ye.R:Type:=Xd [.d .bool]×Z0
def Ye (n:Nat) (a0:(den Zb)):Option Ye.R:=gc n 21 [.dat Zb a0 []] [.d .bool]
theorem Ye.eq (n:Nat) (a0:(den Zb)):Ye (n+1) a0 =
  bif (decide (((List.length (a0.1.1:(List (List Int)))):Int)≤20)) then
    bif (decide (((List.length (a0.1.2.1:(List Int))):Int)≤20)) then
      bif (decide (((List.length (a0.1.2.2.1:(List Int))):Int)≤20)) then
        bif (decide (((List.length (a0.1.2.2.2.1:(List Int))):Int)≤40)) then
          bif (decide (((List.length (a0.1.2.2.2.2.1:(List Bool))):Int)≤40)) then
            bif (decide (((List.length (a0.2.1:(List Int))):Int)≤40)) then
              bif (decide (((List.length (a0.2.2.1:(List Int))):Int)≤40)) then
                some (((decide (((List.length (a0.2.2.2.1:(List (den Za)))):Int)≤40)),()),[])
              else
                some ((false,()),[])
            else
              some ((false,()),[])
          else
            some ((false,()),[])
        else
          some ((false,()),[])
      else
        some ((false,()),[])
    else
      some ((false,()),[])
  else
    some ((false,()),[]):=by kernel_rfl
@[reducible] def Xc.R:Type:=Xd [.d .bool]×Z0
def Xc (n:Nat) (a0:Int) (a1:Int):Option Xc.R:=gc n 37 [.dat (.int .i64) a0 [],.dat (.int .i64) a1 []] [.d .bool]
theorem Xc.eq (n:Nat) (a0:Int) (a1:Int):Xc (n+1) a0 a1 =
  bif (decide (0≤a0)) then
    some (((decide (a0<a1)),()),[])
  else
    some ((false,()),[]):=by kernel_rfl
@[reducible] def Ym.R:Type:=Xd [.d .bool]×Z0
def Ym (n:Nat) (a0:Int):Option Ym.R:=gc n 38 [.dat (.int .i64) a0 []] [.d .bool]
theorem Ym.eq (n:Nat) (a0:Int):Ym (n+1) a0 =
  bif (decide (0≤a0)) then
    some (((decide (a0≤1073741824)),()),[])
  else
    some ((false,()),[]):=by kernel_rfl
def Zc.res:List Sh:=[.d .bool]
@[reducible] def Zc.R:Type:=Xd [.d .bool]×Z0
def Zc (n:Nat) (a0:(den Xa)):Option Zc.R:=gc n 36 [.dat Xa a0 []] [.d .bool]
def Zc.l0 (n m0:Nat) (t0:(den Xa)) (t2:Bool) (t3:Int) (t4:Int) (o0:(den Xa)):Option Zc.R :=
  lpN n Nk m0 (Jg 0 (Q9 (run (gc n) n) V3 (Xi Zc.fn Zc.res) (Xi Zc.fn Zc.res)) (Xi Zc.fn Zc.res))
    [(0,.dat Xa t0 []),(1,.ptr 0 []),(2,.dat .bool t2 []),(3,.dat (.int .i64) t3 []),(4,.dat (.int .i64) t4 [])]
    [.box Xa o0 []]
def Zc.l1 (n m0 m1:Nat) (t0_1:(den Xa)) (t2_1:Bool) (t3_1:Int) (t4_1:Int) (t5_1:Int) (o0_1:(den Xa)):Option Zc.R :=
  lpN n AL3 m1 (Jg 2 (Q9 (run (gc n) n) AL2 (Q9 (run (gc n) n) Lm (Q9 (run (gc n) n) Ll (fun _ s h=>lpN n Nk m0 (Jg 0 (Q9 (run (gc n) n) V3 (Xi Zc.fn Zc.res) (Xi Zc.fn Zc.res)) (Xi Zc.fn Zc.res)) s h) (Jg 0 (Q9 (run (gc n) n) V3 (Xi Zc.fn Zc.res) (Xi Zc.fn Zc.res)) (Xi Zc.fn Zc.res))) (Jg 0 (Q9 (run (gc n) n) V3 (Xi Zc.fn Zc.res) (Xi Zc.fn Zc.res)) (Xi Zc.fn Zc.res))) (Jg 1 (Q9 (run (gc n) n) Lm (Q9 (run (gc n) n) Ll (fun _ s h=>lpN n Nk m0 (Jg 0 (Q9 (run (gc n) n) V3 (Xi Zc.fn Zc.res) (Xi Zc.fn Zc.res)) (Xi Zc.fn Zc.res)) s h) (Jg 0 (Q9 (run (gc n) n) V3 (Xi Zc.fn Zc.res) (Xi Zc.fn Zc.res)) (Xi Zc.fn Zc.res))) (Jg 0 (Q9 (run (gc n) n) V3 (Xi Zc.fn Zc.res) (Xi Zc.fn Zc.res)) (Xi Zc.fn Zc.res))) (Jg 0 (Q9 (run (gc n) n) V3 (Xi Zc.fn Zc.res) (Xi Zc.fn Zc.res)) (Xi Zc.fn Zc.res)))) (Jg 1 (Q9 (run (gc n) n) Lm (Q9 (run (gc n) n) Ll (fun _ s h=>lpN n Nk m0 (Jg 0 (Q9 (run (gc n) n) V3 (Xi Zc.fn Zc.res) (Xi Zc.fn Zc.res)) (Xi Zc.fn Zc.res)) s h) (Jg 0 (Q9 (run (gc n) n) V3 (Xi Zc.fn Zc.res) (Xi Zc.fn Zc.res)) (Xi Zc.fn Zc.res))) (Jg 0 (Q9 (run (gc n) n) V3 (Xi Zc.fn Zc.res) (Xi Zc.fn Zc.res)) (Xi Zc.fn Zc.res))) (Jg 0 (Q9 (run (gc n) n) V3 (Xi Zc.fn Zc.res) (Xi Zc.fn Zc.res)) (Xi Zc.fn Zc.res))))
    [(0,.dat Xa t0_1 []),(1,.ptr 0 []),(2,.dat .bool t2_1 []),(3,.dat (.int .i64) t3_1 []),(4,.dat (.int .i64) t4_1 []),(5,.dat (.int .i64) t5_1 [])]
    [.box Xa o0_1 []]
def Zc.l2 (n m0 m1:Nat) (t0_2:(den Xa)) (t2_2:Bool) (t3_2:Int) (t4_2:Int) (t5_2:Int) (t6_2:Int) (t7_2:Int) (o0_2:(den Xa)):Option Zc.R :=
  lpN n AL5 m1 (Jg 4 (Q9 (run (gc n) n) AL4 (Q9 (run (gc n) n) Lm (Q9 (run (gc n) n) Ll (fun _ s h=>lpN n Nk m0 (Jg 0 (Q9 (run (gc n) n) V3 (Xi Zc.fn Zc.res) (Xi Zc.fn Zc.res)) (Xi Zc.fn Zc.res)) s h) (Jg 0 (Q9 (run (gc n) n) V3 (Xi Zc.fn Zc.res) (Xi Zc.fn Zc.res)) (Xi Zc.fn Zc.res))) (Jg 0 (Q9 (run (gc n) n) V3 (Xi Zc.fn Zc.res) (Xi Zc.fn Zc.res)) (Xi Zc.fn Zc.res))) (Jg 1 (Q9 (run (gc n) n) Lm (Q9 (run (gc n) n) Ll (fun _ s h=>lpN n Nk m0 (Jg 0 (Q9 (run (gc n) n) V3 (Xi Zc.fn Zc.res) (Xi Zc.fn Zc.res)) (Xi Zc.fn Zc.res)) s h) (Jg 0 (Q9 (run (gc n) n) V3 (Xi Zc.fn Zc.res) (Xi Zc.fn Zc.res)) (Xi Zc.fn Zc.res))) (Jg 0 (Q9 (run (gc n) n) V3 (Xi Zc.fn Zc.res) (Xi Zc.fn Zc.res)) (Xi Zc.fn Zc.res))) (Jg 0 (Q9 (run (gc n) n) V3 (Xi Zc.fn Zc.res) (Xi Zc.fn Zc.res)) (Xi Zc.fn Zc.res)))) (Jg 1 (Q9 (run (gc n) n) Lm (Q9 (run (gc n) n) Ll (fun _ s h=>lpN n Nk m0 (Jg 0 (Q9 (run (gc n) n) V3 (Xi Zc.fn Zc.res) (Xi Zc.fn Zc.res)) (Xi Zc.fn Zc.res)) s h) (Jg 0 (Q9 (run (gc n) n) V3 (Xi Zc.fn Zc.res) (Xi Zc.fn Zc.res)) (Xi Zc.fn Zc.res))) (Jg 0 (Q9 (run (gc n) n) V3 (Xi Zc.fn Zc.res) (Xi Zc.fn Zc.res)) (Xi Zc.fn Zc.res))) (Jg 0 (Q9 (run (gc n) n) V3 (Xi Zc.fn Zc.res) (Xi Zc.fn Zc.res)) (Xi Zc.fn Zc.res))))
    [(0,.dat Xa t0_2 []),(1,.ptr 0 []),(2,.dat .bool t2_2 []),(3,.dat (.int .i64) t3_2 []),(4,.dat (.int .i64) t4_2 []),(5,.dat (.int .i64) t5_2 []),(6,.dat (.int .i64) t6_2 []),(7,.dat (.int .i64) t7_2 [])]
    [.box Xa o0_2 []]
def Zc.l3 (n m0:Nat) (t0_3:(den Xa)) (t2_3:Bool) (t3_3:Int) (t4_3:Int) (t8_3:Int) (o0_3:(den Xa)):Option Zc.R :=
  lpN n AL7 m0 (Jg 6 (Q9 (run (gc n) n) AL6 (Xi Zc.fn Zc.res) (Xi Zc.fn Zc.res)) (Xi Zc.fn Zc.res))
    [(0,.dat Xa t0_3 []),(1,.ptr 0 []),(2,.dat .bool t2_3 []),(3,.dat (.int .i64) t3_3 []),(4,.dat (.int .i64) t4_3 []),(8,.dat (.int .i64) t8_3 [])]
    [.box Xa o0_3 []]
def Zc.l4 (n m0:Nat) (t0_4:(den Xa)) (t2_4:Bool) (t3_4:Int) (t4_4:Int) (t8_4:Int) (t9_4:Int) (o0_4:(den Xa)):Option Zc.R :=
  lpN n AL9 m0 (Jg 8 (Q9 (run (gc n) n) AL8 (Xi Zc.fn Zc.res) (Xi Zc.fn Zc.res)) (Xi Zc.fn Zc.res))
    [(0,.dat Xa t0_4 []),(1,.ptr 0 []),(2,.dat .bool t2_4 []),(3,.dat (.int .i64) t3_4 []),(4,.dat (.int .i64) t4_4 []),(8,.dat (.int .i64) t8_4 []),(9,.dat (.int .i64) t9_4 [])]
    [.box Xa o0_4 []]
theorem Zc.l0_eq (n m0:Nat) (t0:(den Xa)) (t2:Bool) (t3:Int) (t4:Int) (o0:(den Xa)):Zc.l0 n (m0+1) t0 t2 t3 t4 o0 =
  bif (decide (t4<t3)) then
    Zc.l1 n m0 n t0 t2 t3 t4 0 o0
  else
    Zc.l3 n n t0 t2 t3 t4 0 o0:=by kernel_rfl
theorem Zc.l1_eq (n m0 m1:Nat) (t0_1:(den Xa)) (t2_1:Bool) (t3_1:Int) (t4_1:Int) (t5_1:Int) (o0_1:(den Xa)):Zc.l1 n m0 (m1+1) t0_1 t2_1 t3_1 t4_1 t5_1 o0_1 =
  bif (decide (t5_1<4)) then
    if (0:Int)≤t4_1∧t4_1<(((List.length (o0_1.1:(List (List Int)))):Nat):Int) then
    if (0:Int)≤t5_1∧t5_1<((4:Nat):Int) then
    bif (!(decide ((List.getD (List.getD (o0_1.1:(List (List Int))) (Int.toNat t4_1) (dft (.arr 4 (.int .i64))):(List Int)) (Int.toNat t5_1) (0:Int):Int)=(-1)))) then
      if (0:Int)≤t4_1∧t4_1<(((List.length (o0_1.1:(List (List Int)))):Nat):Int) then
      if (0:Int)≤t5_1∧t5_1<((4:Nat):Int) then
      Option.bind (Xc n (List.getD (List.getD (o0_1.1:(List (List Int))) (Int.toNat t4_1) (dft (.arr 4 (.int .i64))):(List Int)) (Int.toNat t5_1) (0:Int):Int) t3_1) fun r4 =>
      bif (!(r4.1.1:Bool)) then
        some ((false,()),[])
      else
        Zc.l1 n m0 m1 t0_1 t2_1 t3_1 t4_1 (IntKind.wrap .i64 (t5_1+1)) o0_1
      else none
      else none
    else
      Zc.l1 n m0 m1 t0_1 t2_1 t3_1 t4_1 (IntKind.wrap .i64 (t5_1+1)) o0_1
    else none
    else none
  else
    Zc.l2 n m0 n t0_1 t2_1 t3_1 t4_1 t5_1 0 0 o0_1:=by kernel_rfl
theorem Zc.l2_eq (n m0 m1:Nat) (t0_2:(den Xa)) (t2_2:Bool) (t3_2:Int) (t4_2:Int) (t5_2:Int) (t6_2:Int) (t7_2:Int) (o0_2:(den Xa)):Zc.l2 n m0 (m1+1) t0_2 t2_2 t3_2 t4_2 t5_2 t6_2 t7_2 o0_2 =
  bif (decide (t7_2<((List.length (o0_2.2.2.2.1:(List Int))):Int))) then
    if (0:Int)≤t7_2∧t7_2<(((List.length (o0_2.2.2.2.1:(List Int))):Nat):Int) then
    bif (decide ((List.getD (o0_2.2.2.2.1:(List Int)) (Int.toNat t7_2) (0:Int):Int)=t4_2)) then
      Zc.l2 n m0 m1 t0_2 t2_2 t3_2 t4_2 t5_2 (IntKind.wrap .i64 (t6_2+1)) (IntKind.wrap .i64 (t7_2+1)) o0_2
    else
      Zc.l2 n m0 m1 t0_2 t2_2 t3_2 t4_2 t5_2 t6_2 (IntKind.wrap .i64 (t7_2+1)) o0_2
    else none
  else
    bif (decide ((o0_2.2.2.2.2.2.1:Int)<t6_2)) then
      some ((false,()),[])
    else
      Zc.l0 n m0 t0_2 t2_2 t3_2 (IntKind.wrap .i64 (t4_2+1)) o0_2:=by kernel_rfl
theorem Zc.l3_eq (n m0:Nat) (t0_3:(den Xa)) (t2_3:Bool) (t3_3:Int) (t4_3:Int) (t8_3:Int) (o0_3:(den Xa)):Zc.l3 n (m0+1) t0_3 t2_3 t3_3 t4_3 t8_3 o0_3 =
  bif (decide (t8_3<((List.length (o0_3.2.1:(List Int))):Int))) then
    if (0:Int)≤t8_3∧t8_3<(((List.length (o0_3.2.1:(List Int))):Nat):Int) then
    Option.bind (Xc n (List.getD (o0_3.2.1:(List Int)) (Int.toNat t8_3) (0:Int):Int) t3_3) fun r5 =>
    bif (!(r5.1.1:Bool)) then
      some ((false,()),[])
    else
      if (0:Int)≤t8_3∧t8_3<(((List.length (o0_3.2.2.1:(List Int))):Nat):Int) then
      Option.bind (Ym n (List.getD (o0_3.2.2.1:(List Int)) (Int.toNat t8_3) (0:Int):Int)) fun r6 =>
      bif (!(r6.1.1:Bool)) then
        some ((false,()),[])
      else
        Zc.l3 n m0 t0_3 t2_3 t3_3 t4_3 (IntKind.wrap .i64 (t8_3+1)) o0_3
      else none
    else none
  else
    Zc.l4 n n t0_3 t2_3 t3_3 t4_3 t8_3 0 o0_3:=by kernel_rfl
theorem Zc.l4_eq (n m0:Nat) (t0_4:(den Xa)) (t2_4:Bool) (t3_4:Int) (t4_4:Int) (t8_4:Int) (t9_4:Int) (o0_4:(den Xa)):Zc.l4 n (m0+1) t0_4 t2_4 t3_4 t4_4 t8_4 t9_4 o0_4 =
  bif (decide (t9_4<((List.length (o0_4.2.2.2.1:(List Int))):Int))) then
    if (0:Int)≤t9_4∧t9_4<(((List.length (o0_4.2.2.2.1:(List Int))):Nat):Int) then
    Option.bind (Xc n (List.getD (o0_4.2.2.2.1:(List Int)) (Int.toNat t9_4) (0:Int):Int) t3_4) fun r7 =>
    bif (!(r7.1.1:Bool)) then
      some ((false,()),[])
    else
      Zc.l4 n m0 t0_4 t2_4 t3_4 t4_4 t8_4 (IntKind.wrap .i64 (t9_4+1)) o0_4
    else none
  else
    some ((true,()),[]):=by kernel_rfl
theorem Zc.eq (n:Nat) (a0:(den Xa)):Zc (n+1) a0 =
  bif (decide (((List.length (a0.1:(List (List Int)))):Int)<1)) then
    some ((false,()),[])
  else
    bif (decide (8<((List.length (a0.1:(List (List Int)))):Int))) then
      some ((false,()),[])
    else
      bif (decide (((List.length (a0.2.1:(List Int))):Int)<1)) then
        some ((false,()),[])
      else
        bif (decide (6<((List.length (a0.2.1:(List Int))):Int))) then
          some ((false,()),[])
        else
          bif (!(decide (((List.length (a0.2.2.1:(List Int))):Int)=((List.length (a0.2.1:(List Int))):Int)))) then
            some ((false,()),[])
          else
            bif (decide (16<((List.length (a0.2.2.2.1:(List Int))):Int))) then
              some ((false,()),[])
            else
              bif (!(decide (((List.length (a0.2.2.2.2.1:(List Bool))):Int)=((List.length (a0.2.2.2.1:(List Int))):Int)))) then
                some ((false,()),[])
              else
                Option.bind (Xc n (a0.2.2.2.2.2.1:Int) 65) fun r1 =>
                bif (!(r1.1.1:Bool)) then
                  some ((false,()),[])
                else
                  Option.bind (Xc n (a0.2.2.2.2.2.2.1:Int) 65) fun r2 =>
                  bif (!(r2.1.1:Bool)) then
                    some ((false,()),[])
                  else
                    Option.bind (Xc n (a0.2.2.2.2.2.2.2.1:Int) 65) fun r3 =>
                    bif (!(r3.1.1:Bool)) then
                      some ((false,()),[])
                    else
                      Zc.l0 n n a0 false ((List.length (a0.1:(List (List Int)))):Int) 0 a0:=by kernel_rfl
def Z1.res:List Sh:=[.d (.int .i64)]
@[reducible] def Z1.R:Type:=Xd [.d (.int .i64)]×Z0
def Z1 (n:Nat) (a0:(den Zb)) (a1:(den Za)):Option Z1.R:=gc n 39 [.dat Zb a0 [],.dat Za a1 []] [.d (.int .i64)]
def Z1.l0 (n m0:Nat) (t0:(den Zb)) (t1:(den Za)) (t4:Int) (t5:Int) (o0:(den Zb)) (o1:(den Za)):Option Z1.R :=
  lpN n ATe m0 (Jg 0 (Q9 (run (gc n) n) ATd (Xi Z1.fn Z1.res) (Xi Z1.fn Z1.res)) (Xi Z1.fn Z1.res))
    [(0,.dat Zb t0 []),(1,.dat Za t1 []),(2,.ptr 0 []),(3,.ptr 1 []),(4,.dat (.int .i64) t4 []),(5,.dat (.int .i64) t5 [])]
    [.box Zb o0 [],.box Za o1 []]
theorem Z1.l0_eq (n m0:Nat) (t0:(den Zb)) (t1:(den Za)) (t4:Int) (t5:Int) (o0:(den Zb)) (o1:(den Za)):Z1.l0 n (m0+1) t0 t1 t4 t5 o0 o1 =
  bif (decide ((o1.1:Int)=2)) then
    bif (decide (50<(IntKind.wrap .i64 (t5+1)))) then
      some ((99,()),[])
    else
      if (0:Int)≤(o1.2.1:Int)∧(o1.2.1:Int)<(((List.length (o0.2.2.2.1:(List (den Za)))):Nat):Int) then
      Z1.l0 n m0 t0 t1 t4 (IntKind.wrap .i64 (t5+1)) o0 (List.getD (o0.2.2.2.1:(List (den Za))) (Int.toNat (o1.2.1:Int)) (dft Za):(den Za))
      else none
  else
    some ((t5,()),[]):=by kernel_rfl
theorem Z1.eq (n:Nat) (a0:(den Zb)) (a1:(den Za)):Z1 (n+1) a0 a1 =
  Z1.l0 n n a0 a1 0 0 a0 a1:=by kernel_rfl
def Z3.res:List Sh:=[.d (.int .i64)]
@[reducible] def Z3.R:Type:=Xd [.d (.int .i64)]×Z0
def Z3 (n:Nat) (a0:(den Zb)) (a1:(den Za)):Option Z3.R:=gc n 40 [.dat Zb a0 [],.dat Za a1 []] [.d (.int .i64)]
def Z3.l0 (n m0:Nat) (t0:(den Zb)) (t1:(den Za)) (t4:Int) (t5:Int) (t6:Int) (o0:(den Zb)) (o1:(den Za)):Option Z3.R :=
  lpN n ATi m0 (Jg 0 (Q9 (run (gc n) n) ATh (Xi Z3.fn Z3.res) (Xi Z3.fn Z3.res)) (Xi Z3.fn Z3.res))
    [(0,.dat Zb t0 []),(1,.dat Za t1 []),(2,.ptr 0 []),(3,.ptr 1 []),(4,.dat (.int .i64) t4 []),(5,.dat (.int .i64) t5 []),(6,.dat (.int .i64) t6 [])]
    [.box Zb o0 [],.box Za o1 []]
theorem Z3.l0_eq (n m0:Nat) (t0:(den Zb)) (t1:(den Za)) (t4:Int) (t5:Int) (t6:Int) (o0:(den Zb)) (o1:(den Za)):Z3.l0 n (m0+1) t0 t1 t4 t5 t6 o0 o1 =
  bif (decide (t6<((List.length (o0.2.2.2.1:(List (den Za)))):Int))) then
    if (0:Int)≤t6∧t6<(((List.length (o0.2.2.2.1:(List (den Za)))):Nat):Int) then
    bif (eqT Za (List.getD (o0.2.2.2.1:(List (den Za))) (Int.toNat t6) (dft Za):(den Za)) o1) then
      Z3.l0 n m0 t0 t1 t4 (IntKind.wrap .i64 (t5+1)) (IntKind.wrap .i64 (t6+1)) o0 o1
    else
      Z3.l0 n m0 t0 t1 t4 t5 (IntKind.wrap .i64 (t6+1)) o0 o1
    else none
  else
    some ((t5,()),[]):=by kernel_rfl
theorem Z3.eq (n:Nat) (a0:(den Zb)) (a1:(den Za)):Z3 (n+1) a0 a1 =
  Z3.l0 n n a0 a1 0 0 0 a0 a1:=by kernel_rfl
@[reducible] def Yo.R:Type:=Xd [.d (.int .i64)]×Z0
def Yo (n:Nat) (a0:(den Zb)) (a1:(den Za)):Option Yo.R:=gc n 41 [.dat Zb a0 [],.dat Za a1 []] [.d (.int .i64)]
theorem Yo.eq (n:Nat) (a0:(den Zb)) (a1:(den Za)):Yo (n+1) a0 a1 =
  if (0:Int)≤(a1.1:Int)∧(a1.1:Int)<((3:Nat):Int) then
  some (((List.getD ([(a0.1.2.2.2.2.2.1:Int),(a0.1.2.2.2.2.2.2.1:Int),(a0.1.2.2.2.2.2.2.2.1:Int)]:List Int) (Int.toNat (a1.1:Int)) (0:Int):Int),()),[])
  else none:=by kernel_rfl
def Zg.res:List Sh:=[.d .bool]
@[reducible] def Zg.R:Type:=Xd [.d .bool]×Z0
def Zg (n:Nat) (a0:(den Zb)):Option Zg.R:=gc n 22 [.dat Zb a0 []] [.d .bool]
def Zg.l0 (n m0:Nat) (t0:(den Zb)) (t2:Bool) (t4:Int) (o0:(den Zb)) (o1:(den Xa)):Option Zg.R :=
  lpN n ALw m0 (Jg 0 (Q9 (run (gc n) n) ATb (Xi Zg.fn Zg.res) (Xi Zg.fn Zg.res)) (Xi Zg.fn Zg.res))
    [(0,.dat Zb t0 []),(1,.ptr 0 []),(2,.dat .bool t2 []),(3,.ptr 1 []),(4,.dat (.int .i64) t4 [])]
    [.box Zb o0 [],.box Xa o1 []]
def Zg.l1 (n m0:Nat) (t0_1:(den Zb)) (t2_1:Bool) (t4_1:Int) (t5_1:Int) (o0_1:(den Zb)) (o1_1:(den Xa)):Option Zg.R :=
  lpN n ALy m0 (Jg 2 (Q9 (run (gc n) n) ALx (Xi Zg.fn Zg.res) (Xi Zg.fn Zg.res)) (Xi Zg.fn Zg.res))
    [(0,.dat Zb t0_1 []),(1,.ptr 0 []),(2,.dat .bool t2_1 []),(3,.ptr 1 []),(4,.dat (.int .i64) t4_1 []),(5,.dat (.int .i64) t5_1 [])]
    [.box Zb o0_1 [],.box Xa o1_1 []]
def Zg.l2 (n m0:Nat) (t0_2:(den Zb)) (t2_2:Bool) (t4_2:Int) (t5_2:Int) (t8_2:Int) (o0_2:(den Zb)) (o1_2:(den Xa)):Option Zg.R :=
  lpN n AL0 m0 (Jg 4 (Q9 (run (gc n) n) ALz (Xi Zg.fn Zg.res) (Xi Zg.fn Zg.res)) (Xi Zg.fn Zg.res))
    [(0,.dat Zb t0_2 []),(1,.ptr 0 []),(2,.dat .bool t2_2 []),(3,.ptr 1 []),(4,.dat (.int .i64) t4_2 []),(5,.dat (.int .i64) t5_2 []),(8,.dat (.int .i64) t8_2 [])]
    [.box Zb o0_2 [],.box Xa o1_2 []]
theorem Zg.l0_eq (n m0:Nat) (t0:(den Zb)) (t2:Bool) (t4:Int) (o0:(den Zb)) (o1:(den Xa)):Zg.l0 n (m0+1) t0 t2 t4 o0 o1 =
  bif (decide (t4<((List.length (o0.2.1:(List Int))):Int))) then
    if (0:Int)≤t4∧t4<(((List.length (o0.2.1:(List Int))):Nat):Int) then
    Option.bind (Xc n (List.getD (o0.2.1:(List Int)) (Int.toNat t4) (0:Int):Int) ((List.length (o1.1:(List (List Int)))):Int)) fun r2 =>
    bif (!(r2.1.1:Bool)) then
      some ((false,()),[])
    else
      if (0:Int)≤t4∧t4<(((List.length (o0.2.2.1:(List Int))):Nat):Int) then
      Option.bind (Ym n (List.getD (o0.2.2.1:(List Int)) (Int.toNat t4) (0:Int):Int)) fun r3 =>
      bif (!(r3.1.1:Bool)) then
        some ((false,()),[])
      else
        Zg.l0 n m0 t0 t2 (IntKind.wrap .i64 (t4+1)) o0 o1
      else none
    else none
  else
    Zg.l1 n n t0 t2 t4 0 o0 o1:=by kernel_rfl
theorem Zg.l1_eq (n m0:Nat) (t0_1:(den Zb)) (t2_1:Bool) (t4_1:Int) (t5_1:Int) (o0_1:(den Zb)) (o1_1:(den Xa)):Zg.l1 n (m0+1) t0_1 t2_1 t4_1 t5_1 o0_1 o1_1 =
  bif (decide (t5_1<((List.length (o0_1.2.2.2.1:(List (den Za)))):Int))) then
    if (0:Int)≤t5_1∧t5_1<(((List.length (o0_1.2.2.2.1:(List (den Za)))):Nat):Int) then
    bif (decide (((List.getD (o0_1.2.2.2.1:(List (den Za))) (Int.toNat t5_1) (dft Za):(den Za)).1:Int)=0)) then
      Option.bind (Xc n ((List.getD (o0_1.2.2.2.1:(List (den Za))) (Int.toNat t5_1) (dft Za):(den Za)).2.1:Int) ((List.length (o1_1.1:(List (List Int)))):Int)) fun r4 =>
      bif (r4.1.1:Bool) then
        Zg.l1 n m0 t0_1 t2_1 t4_1 (IntKind.wrap .i64 (t5_1+1)) o0_1 o1_1
      else
        bif (decide (((List.getD (o0_1.2.2.2.1:(List (den Za))) (Int.toNat t5_1) (dft Za):(den Za)).1:Int)=1)) then
          Option.bind (Xc n ((List.getD (o0_1.2.2.2.1:(List (den Za))) (Int.toNat t5_1) (dft Za):(den Za)).2.1:Int) ((List.length (o1_1.2.1:(List Int))):Int)) fun r5 =>
          bif (r5.1.1:Bool) then
            Zg.l1 n m0 t0_1 t2_1 t4_1 (IntKind.wrap .i64 (t5_1+1)) o0_1 o1_1
          else
            bif (decide (((List.getD (o0_1.2.2.2.1:(List (den Za))) (Int.toNat t5_1) (dft Za):(den Za)).1:Int)=2)) then
              Option.bind (Xc n ((List.getD (o0_1.2.2.2.1:(List (den Za))) (Int.toNat t5_1) (dft Za):(den Za)).2.1:Int) ((List.length (o1_1.2.2.2.1:(List Int))):Int)) fun r6 =>
              bif (r6.1.1:Bool) then
                if (0:Int)≤((List.getD (o0_1.2.2.2.1:(List (den Za))) (Int.toNat t5_1) (dft Za):(den Za)).2.1:Int)∧((List.getD (o0_1.2.2.2.1:(List (den Za))) (Int.toNat t5_1) (dft Za):(den Za)).2.1:Int)<(((List.length (o1_1.2.2.2.2.1:(List Bool))):Nat):Int) then
                bif (!(List.getD (o1_1.2.2.2.2.1:(List Bool)) (Int.toNat ((List.getD (o0_1.2.2.2.1:(List (den Za))) (Int.toNat t5_1) (dft Za):(den Za)).2.1:Int)) false:Bool)) then
                  some ((false,()),[])
                else
                  Zg.l1 n m0 t0_1 t2_1 t4_1 (IntKind.wrap .i64 (t5_1+1)) o0_1 o1_1
                else none
              else
                some ((false,()),[])
            else
              some ((false,()),[])
        else
          bif (decide (((List.getD (o0_1.2.2.2.1:(List (den Za))) (Int.toNat t5_1) (dft Za):(den Za)).1:Int)=2)) then
            Option.bind (Xc n ((List.getD (o0_1.2.2.2.1:(List (den Za))) (Int.toNat t5_1) (dft Za):(den Za)).2.1:Int) ((List.length (o1_1.2.2.2.1:(List Int))):Int)) fun r7 =>
            bif (r7.1.1:Bool) then
              if (0:Int)≤((List.getD (o0_1.2.2.2.1:(List (den Za))) (Int.toNat t5_1) (dft Za):(den Za)).2.1:Int)∧((List.getD (o0_1.2.2.2.1:(List (den Za))) (Int.toNat t5_1) (dft Za):(den Za)).2.1:Int)<(((List.length (o1_1.2.2.2.2.1:(List Bool))):Nat):Int) then
              bif (!(List.getD (o1_1.2.2.2.2.1:(List Bool)) (Int.toNat ((List.getD (o0_1.2.2.2.1:(List (den Za))) (Int.toNat t5_1) (dft Za):(den Za)).2.1:Int)) false:Bool)) then
                some ((false,()),[])
              else
                Zg.l1 n m0 t0_1 t2_1 t4_1 (IntKind.wrap .i64 (t5_1+1)) o0_1 o1_1
              else none
            else
              some ((false,()),[])
          else
            some ((false,()),[])
    else
      bif (decide (((List.getD (o0_1.2.2.2.1:(List (den Za))) (Int.toNat t5_1) (dft Za):(den Za)).1:Int)=1)) then
        Option.bind (Xc n ((List.getD (o0_1.2.2.2.1:(List (den Za))) (Int.toNat t5_1) (dft Za):(den Za)).2.1:Int) ((List.length (o1_1.2.1:(List Int))):Int)) fun r8 =>
        bif (r8.1.1:Bool) then
          Zg.l1 n m0 t0_1 t2_1 t4_1 (IntKind.wrap .i64 (t5_1+1)) o0_1 o1_1
        else
          bif (decide (((List.getD (o0_1.2.2.2.1:(List (den Za))) (Int.toNat t5_1) (dft Za):(den Za)).1:Int)=2)) then
            Option.bind (Xc n ((List.getD (o0_1.2.2.2.1:(List (den Za))) (Int.toNat t5_1) (dft Za):(den Za)).2.1:Int) ((List.length (o1_1.2.2.2.1:(List Int))):Int)) fun r9 =>
            bif (r9.1.1:Bool) then
              if (0:Int)≤((List.getD (o0_1.2.2.2.1:(List (den Za))) (Int.toNat t5_1) (dft Za):(den Za)).2.1:Int)∧((List.getD (o0_1.2.2.2.1:(List (den Za))) (Int.toNat t5_1) (dft Za):(den Za)).2.1:Int)<(((List.length (o1_1.2.2.2.2.1:(List Bool))):Nat):Int) then
              bif (!(List.getD (o1_1.2.2.2.2.1:(List Bool)) (Int.toNat ((List.getD (o0_1.2.2.2.1:(List (den Za))) (Int.toNat t5_1) (dft Za):(den Za)).2.1:Int)) false:Bool)) then
                some ((false,()),[])
              else
                Zg.l1 n m0 t0_1 t2_1 t4_1 (IntKind.wrap .i64 (t5_1+1)) o0_1 o1_1
              else none
            else
              some ((false,()),[])
          else
            some ((false,()),[])
      else
        bif (decide (((List.getD (o0_1.2.2.2.1:(List (den Za))) (Int.toNat t5_1) (dft Za):(den Za)).1:Int)=2)) then
          Option.bind (Xc n ((List.getD (o0_1.2.2.2.1:(List (den Za))) (Int.toNat t5_1) (dft Za):(den Za)).2.1:Int) ((List.length (o1_1.2.2.2.1:(List Int))):Int)) fun r10 =>
          bif (r10.1.1:Bool) then
            if (0:Int)≤((List.getD (o0_1.2.2.2.1:(List (den Za))) (Int.toNat t5_1) (dft Za):(den Za)).2.1:Int)∧((List.getD (o0_1.2.2.2.1:(List (den Za))) (Int.toNat t5_1) (dft Za):(den Za)).2.1:Int)<(((List.length (o1_1.2.2.2.2.1:(List Bool))):Nat):Int) then
            bif (!(List.getD (o1_1.2.2.2.2.1:(List Bool)) (Int.toNat ((List.getD (o0_1.2.2.2.1:(List (den Za))) (Int.toNat t5_1) (dft Za):(den Za)).2.1:Int)) false:Bool)) then
              some ((false,()),[])
            else
              Zg.l1 n m0 t0_1 t2_1 t4_1 (IntKind.wrap .i64 (t5_1+1)) o0_1 o1_1
            else none
          else
            some ((false,()),[])
        else
          some ((false,()),[])
    else none
  else
    Zg.l2 n n t0_1 t2_1 t4_1 t5_1 0 o0_1 o1_1:=by kernel_rfl
theorem Zg.l2_eq (n m0:Nat) (t0_2:(den Zb)) (t2_2:Bool) (t4_2:Int) (t5_2:Int) (t8_2:Int) (o0_2:(den Zb)) (o1_2:(den Xa)):Zg.l2 n (m0+1) t0_2 t2_2 t4_2 t5_2 t8_2 o0_2 o1_2 =
  bif (decide (t8_2<((List.length (o0_2.2.2.2.1:(List (den Za)))):Int))) then
    if (0:Int)≤t8_2∧t8_2<(((List.length (o0_2.2.2.2.1:(List (den Za)))):Nat):Int) then
    Option.bind (Z1 n o0_2 (List.getD (o0_2.2.2.2.1:(List (den Za))) (Int.toNat t8_2) (dft Za):(den Za))) fun r11 =>
    bif (decide (4<(r11.1.1:Int))) then
      some ((false,()),[])
    else
      if (0:Int)≤t8_2∧t8_2<(((List.length (o0_2.2.2.2.1:(List (den Za)))):Nat):Int) then
      Option.bind (Z3 n o0_2 (List.getD (o0_2.2.2.2.1:(List (den Za))) (Int.toNat t8_2) (dft Za):(den Za))) fun r12 =>
      if (0:Int)≤t8_2∧t8_2<(((List.length (o0_2.2.2.2.1:(List (den Za)))):Nat):Int) then
      Option.bind (Yo n o0_2 (List.getD (o0_2.2.2.2.1:(List (den Za))) (Int.toNat t8_2) (dft Za):(den Za))) fun r13 =>
      bif (decide ((r13.1.1:Int)<(r12.1.1:Int))) then
        some ((false,()),[])
      else
        Zg.l2 n m0 t0_2 t2_2 t4_2 t5_2 (IntKind.wrap .i64 (t8_2+1)) o0_2 o1_2
      else none
      else none
    else none
  else
    some ((true,()),[]):=by kernel_rfl
theorem Zg.eq (n:Nat) (a0:(den Zb)):Zg (n+1) a0 =
  Option.bind (Zc n a0.1) fun r1 =>
  bif (!(r1.1.1:Bool)) then
    some ((false,()),[])
  else
    bif (!(decide (((List.length (a0.2.1:(List Int))):Int)=((List.length (a0.1.2.1:(List Int))):Int)))) then
      some ((false,()),[])
    else
      bif (!(decide (((List.length (a0.2.2.1:(List Int))):Int)=((List.length (a0.1.2.1:(List Int))):Int)))) then
        some ((false,()),[])
      else
        bif (!(decide (((List.length (a0.2.2.2.1:(List (den Za)))):Int)=((List.length (a0.1.2.2.2.1:(List Int))):Int)))) then
          some ((false,()),[])
        else
          Zg.l0 n n a0 false 0 a0 a0.1:=by kernel_rfl
@[reducible] def Yf.R:Type:=Xd [.d .bool]×Z0
def Yf (n:Nat) (a0:(den Zb)):Option Yf.R:=gc n 6 [.dat Zb a0 []] [.d .bool]
theorem Yf.eq (n:Nat) (a0:(den Zb)):Yf (n+1) a0 =
  Option.bind (Ye n a0) fun r1 =>
  bif (r1.1.1:Bool) then
    Option.bind (Zg n a0) fun r2 =>
    some (((r2.1.1:Bool),()),[])
  else
    some ((false,()),[]):=by kernel_rfl
@[reducible] def Yn.R:Type:=Xd [.d .bool]×Z0
def Yn (n:Nat) (a0:(den Z2)):Option Yn.R:=gc n 7 [.dat Z2 a0 []] [.d .bool]
theorem Yn.eq (n:Nat) (a0:(den Z2)):Yn (n+1) a0 =
  bif (decide (((List.length (a0.2.2.2.2.2.1:(List Int))):Int)≤40)) then
    some (((decide (((List.length (a0.2.2.2.2.2.2.2.1:(List Int))):Int)≤40)),()),[])
  else
    some ((false,()),[]):=by kernel_rfl
@[reducible] def Zf.R:Type:=Xd [.d .bool]×Z0
def Zf (n:Nat) (a0:Int) (a1:Bool):Option Zf.R:=gc n 23 [.dat (.int .i64) a0 [],.dat .bool a1 []] [.d .bool]
theorem Zf.eq (n:Nat) (a0:Int) (a1:Bool):Zf (n+1) a0 a1 =
  bif (!a1) then
    some (((decide (a0=0)),()),[])
  else
    bif (decide (0≤a0)) then
      some (((decide (a0≤1073741824)),()),[])
    else
      some ((false,()),[]):=by kernel_rfl
def Zh.res:List Sh:=[.d .bool]
@[reducible] def Zh.R:Type:=Xd [.d .bool]×Z0
def Zh (n:Nat) (a0:(List Int)) (a1:Bool):Option Zh.R:=gc n 24 [.dat (.sl (.int .i64)) a0 [],.dat .bool a1 []] [.d .bool]
def Zh.l0 (n m0:Nat) (t0:(List Int)) (t1:Bool) (t4:Bool) (t5:Int):Option Zh.R :=
  lpN n AL1 m0 (Jg 0 (Q9 (run (gc n) n) ATc (Xi Zh.fn Zh.res) (Xi Zh.fn Zh.res)) (Xi Zh.fn Zh.res))
    [(0,.dat (.sl (.int .i64)) t0 []),(1,.dat .bool t1 []),(4,.dat .bool t4 []),(5,.dat (.int .i64) t5 [])]
    []
theorem Zh.l0_eq (n m0:Nat) (t0:(List Int)) (t1:Bool) (t4:Bool) (t5:Int):Zh.l0 n (m0+1) t0 t1 t4 t5 =
  bif (decide (t5<((List.length t0):Int))) then
    if (0:Int)≤t5∧t5<(((List.length t0):Nat):Int) then
    Option.bind (Zf n (List.getD t0 (Int.toNat t5) (0:Int):Int) true) fun r1 =>
    bif (!(r1.1.1:Bool)) then
      some ((false,()),[])
    else
      Zh.l0 n m0 t0 t1 t4 (IntKind.wrap .i64 (t5+1))
    else none
  else
    some (((decide (((List.length t0):Int)≤16)),()),[]):=by kernel_rfl
theorem Zh.eq (n:Nat) (a0:(List Int)) (a1:Bool):Zh (n+1) a0 a1 =
  bif (!a1) then
    some (((decide (((List.length a0):Int)=0)),()),[])
  else
    Zh.l0 n n a0 a1 false 0:=by kernel_rfl
@[reducible] def Yd.R:Type:=Xd [.d .bool]×Z0
def Yd (n:Nat) (a0:(den Z2)):Option Yd.R:=gc n 8 [.dat Z2 a0 []] [.d .bool]
theorem Yd.eq (n:Nat) (a0:(den Z2)):Yd (n+1) a0 =
  bif (decide ((a0.1:Int)<1)) then
    some ((false,()),[])
  else
    bif (decide (10<(a0.1:Int))) then
      some ((false,()),[])
    else
      bif (decide ((a0.2.1:Int)<0)) then
        some ((false,()),[])
      else
        bif (decide (3<(a0.2.1:Int))) then
          some ((false,()),[])
        else
          bif (!(decide ((a0.2.1:Int)=0))) then
            bif (decide (2<(a0.1:Int))) then
              some ((false,()),[])
            else
              bif (decide (3≤(a0.1:Int))) then
                Option.bind (Zf n (a0.2.2.1:Int) (decide ((a0.1:Int)≤7))) fun r1 =>
                bif (r1.1.1:Bool) then
                  bif (decide ((a0.1:Int)=5)) then
                    Option.bind (Zf n (a0.2.2.2.1:Int) true) fun r2 =>
                    bif (r2.1.1:Bool) then
                      bif (decide ((a0.1:Int)=2)) then
                        Option.bind (Zf n (a0.2.2.2.2.1:Int) true) fun r3 =>
                        bif (r3.1.1:Bool) then
                          Option.bind (Zf n (a0.2.2.2.2.2.2.1:Int) (decide ((a0.1:Int)=8))) fun r4 =>
                          bif (r4.1.1:Bool) then
                            Option.bind (Zf n (a0.2.2.2.2.2.2.2.2.1:Int) (decide ((a0.1:Int)=8))) fun r5 =>
                            bif (r5.1.1:Bool) then
                              Option.bind (Zh n (a0.2.2.2.2.2.1:(List Int)) (decide ((a0.1:Int)=8))) fun r6 =>
                              bif (r6.1.1:Bool) then
                                Option.bind (Zh n (a0.2.2.2.2.2.2.2.1:(List Int)) (decide ((a0.1:Int)=8))) fun r7 =>
                                some (((r7.1.1:Bool),()),[])
                              else
                                some ((false,()),[])
                            else
                              some ((false,()),[])
                          else
                            some ((false,()),[])
                        else
                          some ((false,()),[])
                      else
                        bif (decide ((a0.1:Int)=7)) then
                          Option.bind (Zf n (a0.2.2.2.2.1:Int) true) fun r8 =>
                          bif (r8.1.1:Bool) then
                            Option.bind (Zf n (a0.2.2.2.2.2.2.1:Int) (decide ((a0.1:Int)=8))) fun r9 =>
                            bif (r9.1.1:Bool) then
                              Option.bind (Zf n (a0.2.2.2.2.2.2.2.2.1:Int) (decide ((a0.1:Int)=8))) fun r10 =>
                              bif (r10.1.1:Bool) then
                                Option.bind (Zh n (a0.2.2.2.2.2.1:(List Int)) (decide ((a0.1:Int)=8))) fun r11 =>
                                bif (r11.1.1:Bool) then
                                  Option.bind (Zh n (a0.2.2.2.2.2.2.2.1:(List Int)) (decide ((a0.1:Int)=8))) fun r12 =>
                                  some (((r12.1.1:Bool),()),[])
                                else
                                  some ((false,()),[])
                              else
                                some ((false,()),[])
                            else
                              some ((false,()),[])
                          else
                            some ((false,()),[])
                        else
                          Option.bind (Zf n (a0.2.2.2.2.1:Int) (decide ((a0.1:Int)=8))) fun r13 =>
                          bif (r13.1.1:Bool) then
                            Option.bind (Zf n (a0.2.2.2.2.2.2.1:Int) (decide ((a0.1:Int)=8))) fun r14 =>
                            bif (r14.1.1:Bool) then
                              Option.bind (Zf n (a0.2.2.2.2.2.2.2.2.1:Int) (decide ((a0.1:Int)=8))) fun r15 =>
                              bif (r15.1.1:Bool) then
                                Option.bind (Zh n (a0.2.2.2.2.2.1:(List Int)) (decide ((a0.1:Int)=8))) fun r16 =>
                                bif (r16.1.1:Bool) then
                                  Option.bind (Zh n (a0.2.2.2.2.2.2.2.1:(List Int)) (decide ((a0.1:Int)=8))) fun r17 =>
                                  some (((r17.1.1:Bool),()),[])
                                else
                                  some ((false,()),[])
                              else
                                some ((false,()),[])
                            else
                              some ((false,()),[])
                          else
                            some ((false,()),[])
                    else
                      some ((false,()),[])
                  else
                    Option.bind (Zf n (a0.2.2.2.1:Int) (decide ((a0.1:Int)=6))) fun r18 =>
                    bif (r18.1.1:Bool) then
                      bif (decide ((a0.1:Int)=2)) then
                        Option.bind (Zf n (a0.2.2.2.2.1:Int) true) fun r19 =>
                        bif (r19.1.1:Bool) then
                          Option.bind (Zf n (a0.2.2.2.2.2.2.1:Int) (decide ((a0.1:Int)=8))) fun r20 =>
                          bif (r20.1.1:Bool) then
                            Option.bind (Zf n (a0.2.2.2.2.2.2.2.2.1:Int) (decide ((a0.1:Int)=8))) fun r21 =>
                            bif (r21.1.1:Bool) then
                              Option.bind (Zh n (a0.2.2.2.2.2.1:(List Int)) (decide ((a0.1:Int)=8))) fun r22 =>
                              bif (r22.1.1:Bool) then
                                Option.bind (Zh n (a0.2.2.2.2.2.2.2.1:(List Int)) (decide ((a0.1:Int)=8))) fun r23 =>
                                some (((r23.1.1:Bool),()),[])
                              else
                                some ((false,()),[])
                            else
                              some ((false,()),[])
                          else
                            some ((false,()),[])
                        else
                          some ((false,()),[])
                      else
                        bif (decide ((a0.1:Int)=7)) then
                          Option.bind (Zf n (a0.2.2.2.2.1:Int) true) fun r24 =>
                          bif (r24.1.1:Bool) then
                            Option.bind (Zf n (a0.2.2.2.2.2.2.1:Int) (decide ((a0.1:Int)=8))) fun r25 =>
                            bif (r25.1.1:Bool) then
                              Option.bind (Zf n (a0.2.2.2.2.2.2.2.2.1:Int) (decide ((a0.1:Int)=8))) fun r26 =>
                              bif (r26.1.1:Bool) then
                                Option.bind (Zh n (a0.2.2.2.2.2.1:(List Int)) (decide ((a0.1:Int)=8))) fun r27 =>
                                bif (r27.1.1:Bool) then
                                  Option.bind (Zh n (a0.2.2.2.2.2.2.2.1:(List Int)) (decide ((a0.1:Int)=8))) fun r28 =>
                                  some (((r28.1.1:Bool),()),[])
                                else
                                  some ((false,()),[])
                              else
                                some ((false,()),[])
                            else
                              some ((false,()),[])
                          else
                            some ((false,()),[])
                        else
                          Option.bind (Zf n (a0.2.2.2.2.1:Int) (decide ((a0.1:Int)=8))) fun r29 =>
                          bif (r29.1.1:Bool) then
                            Option.bind (Zf n (a0.2.2.2.2.2.2.1:Int) (decide ((a0.1:Int)=8))) fun r30 =>
                            bif (r30.1.1:Bool) then
                              Option.bind (Zf n (a0.2.2.2.2.2.2.2.2.1:Int) (decide ((a0.1:Int)=8))) fun r31 =>
                              bif (r31.1.1:Bool) then
                                Option.bind (Zh n (a0.2.2.2.2.2.1:(List Int)) (decide ((a0.1:Int)=8))) fun r32 =>
                                bif (r32.1.1:Bool) then
                                  Option.bind (Zh n (a0.2.2.2.2.2.2.2.1:(List Int)) (decide ((a0.1:Int)=8))) fun r33 =>
                                  some (((r33.1.1:Bool),()),[])
                                else
                                  some ((false,()),[])
                              else
                                some ((false,()),[])
                            else
                              some ((false,()),[])
                          else
                            some ((false,()),[])
                    else
                      some ((false,()),[])
                else
                  some ((false,()),[])
              else
                Option.bind (Zf n (a0.2.2.1:Int) false) fun r34 =>
                bif (r34.1.1:Bool) then
                  bif (decide ((a0.1:Int)=5)) then
                    Option.bind (Zf n (a0.2.2.2.1:Int) true) fun r35 =>
                    bif (r35.1.1:Bool) then
                      bif (decide ((a0.1:Int)=2)) then
                        Option.bind (Zf n (a0.2.2.2.2.1:Int) true) fun r36 =>
                        bif (r36.1.1:Bool) then
                          Option.bind (Zf n (a0.2.2.2.2.2.2.1:Int) (decide ((a0.1:Int)=8))) fun r37 =>
                          bif (r37.1.1:Bool) then
                            Option.bind (Zf n (a0.2.2.2.2.2.2.2.2.1:Int) (decide ((a0.1:Int)=8))) fun r38 =>
                            bif (r38.1.1:Bool) then
                              Option.bind (Zh n (a0.2.2.2.2.2.1:(List Int)) (decide ((a0.1:Int)=8))) fun r39 =>
                              bif (r39.1.1:Bool) then
                                Option.bind (Zh n (a0.2.2.2.2.2.2.2.1:(List Int)) (decide ((a0.1:Int)=8))) fun r40 =>
                                some (((r40.1.1:Bool),()),[])
                              else
                                some ((false,()),[])
                            else
                              some ((false,()),[])
                          else
                            some ((false,()),[])
                        else
                          some ((false,()),[])
                      else
                        bif (decide ((a0.1:Int)=7)) then
                          Option.bind (Zf n (a0.2.2.2.2.1:Int) true) fun r41 =>
                          bif (r41.1.1:Bool) then
                            Option.bind (Zf n (a0.2.2.2.2.2.2.1:Int) (decide ((a0.1:Int)=8))) fun r42 =>
                            bif (r42.1.1:Bool) then
                              Option.bind (Zf n (a0.2.2.2.2.2.2.2.2.1:Int) (decide ((a0.1:Int)=8))) fun r43 =>
                              bif (r43.1.1:Bool) then
                                Option.bind (Zh n (a0.2.2.2.2.2.1:(List Int)) (decide ((a0.1:Int)=8))) fun r44 =>
                                bif (r44.1.1:Bool) then
                                  Option.bind (Zh n (a0.2.2.2.2.2.2.2.1:(List Int)) (decide ((a0.1:Int)=8))) fun r45 =>
                                  some (((r45.1.1:Bool),()),[])
                                else
                                  some ((false,()),[])
                              else
                                some ((false,()),[])
                            else
                              some ((false,()),[])
                          else
                            some ((false,()),[])
                        else
                          Option.bind (Zf n (a0.2.2.2.2.1:Int) (decide ((a0.1:Int)=8))) fun r46 =>
                          bif (r46.1.1:Bool) then
                            Option.bind (Zf n (a0.2.2.2.2.2.2.1:Int) (decide ((a0.1:Int)=8))) fun r47 =>
                            bif (r47.1.1:Bool) then
                              Option.bind (Zf n (a0.2.2.2.2.2.2.2.2.1:Int) (decide ((a0.1:Int)=8))) fun r48 =>
                              bif (r48.1.1:Bool) then
                                Option.bind (Zh n (a0.2.2.2.2.2.1:(List Int)) (decide ((a0.1:Int)=8))) fun r49 =>
                                bif (r49.1.1:Bool) then
                                  Option.bind (Zh n (a0.2.2.2.2.2.2.2.1:(List Int)) (decide ((a0.1:Int)=8))) fun r50 =>
                                  some (((r50.1.1:Bool),()),[])
                                else
                                  some ((false,()),[])
                              else
                                some ((false,()),[])
                            else
                              some ((false,()),[])
                          else
                            some ((false,()),[])
                    else
                      some ((false,()),[])
                  else
                    Option.bind (Zf n (a0.2.2.2.1:Int) (decide ((a0.1:Int)=6))) fun r51 =>
                    bif (r51.1.1:Bool) then
                      bif (decide ((a0.1:Int)=2)) then
                        Option.bind (Zf n (a0.2.2.2.2.1:Int) true) fun r52 =>
                        bif (r52.1.1:Bool) then
                          Option.bind (Zf n (a0.2.2.2.2.2.2.1:Int) (decide ((a0.1:Int)=8))) fun r53 =>
                          bif (r53.1.1:Bool) then
                            Option.bind (Zf n (a0.2.2.2.2.2.2.2.2.1:Int) (decide ((a0.1:Int)=8))) fun r54 =>
                            bif (r54.1.1:Bool) then
                              Option.bind (Zh n (a0.2.2.2.2.2.1:(List Int)) (decide ((a0.1:Int)=8))) fun r55 =>
                              bif (r55.1.1:Bool) then
                                Option.bind (Zh n (a0.2.2.2.2.2.2.2.1:(List Int)) (decide ((a0.1:Int)=8))) fun r56 =>
                                some (((r56.1.1:Bool),()),[])
                              else
                                some ((false,()),[])
                            else
                              some ((false,()),[])
                          else
                            some ((false,()),[])
                        else
                          some ((false,()),[])
                      else
                        bif (decide ((a0.1:Int)=7)) then
                          Option.bind (Zf n (a0.2.2.2.2.1:Int) true) fun r57 =>
                          bif (r57.1.1:Bool) then
                            Option.bind (Zf n (a0.2.2.2.2.2.2.1:Int) (decide ((a0.1:Int)=8))) fun r58 =>
                            bif (r58.1.1:Bool) then
                              Option.bind (Zf n (a0.2.2.2.2.2.2.2.2.1:Int) (decide ((a0.1:Int)=8))) fun r59 =>
                              bif (r59.1.1:Bool) then
                                Option.bind (Zh n (a0.2.2.2.2.2.1:(List Int)) (decide ((a0.1:Int)=8))) fun r60 =>
                                bif (r60.1.1:Bool) then
                                  Option.bind (Zh n (a0.2.2.2.2.2.2.2.1:(List Int)) (decide ((a0.1:Int)=8))) fun r61 =>
                                  some (((r61.1.1:Bool),()),[])
                                else
                                  some ((false,()),[])
                              else
                                some ((false,()),[])
                            else
                              some ((false,()),[])
                          else
                            some ((false,()),[])
                        else
                          Option.bind (Zf n (a0.2.2.2.2.1:Int) (decide ((a0.1:Int)=8))) fun r62 =>
                          bif (r62.1.1:Bool) then
                            Option.bind (Zf n (a0.2.2.2.2.2.2.1:Int) (decide ((a0.1:Int)=8))) fun r63 =>
                            bif (r63.1.1:Bool) then
                              Option.bind (Zf n (a0.2.2.2.2.2.2.2.2.1:Int) (decide ((a0.1:Int)=8))) fun r64 =>
                              bif (r64.1.1:Bool) then
                                Option.bind (Zh n (a0.2.2.2.2.2.1:(List Int)) (decide ((a0.1:Int)=8))) fun r65 =>
                                bif (r65.1.1:Bool) then
                                  Option.bind (Zh n (a0.2.2.2.2.2.2.2.1:(List Int)) (decide ((a0.1:Int)=8))) fun r66 =>
                                  some (((r66.1.1:Bool),()),[])
                                else
                                  some ((false,()),[])
                              else
                                some ((false,()),[])
                            else
                              some ((false,()),[])
                          else
                            some ((false,()),[])
                    else
                      some ((false,()),[])
                else
                  some ((false,()),[])
          else
            bif (decide (3≤(a0.1:Int))) then
              Option.bind (Zf n (a0.2.2.1:Int) (decide ((a0.1:Int)≤7))) fun r67 =>
              bif (r67.1.1:Bool) then
                bif (decide ((a0.1:Int)=5)) then
                  Option.bind (Zf n (a0.2.2.2.1:Int) true) fun r68 =>
                  bif (r68.1.1:Bool) then
                    bif (decide ((a0.1:Int)=2)) then
                      Option.bind (Zf n (a0.2.2.2.2.1:Int) true) fun r69 =>
                      bif (r69.1.1:Bool) then
                        Option.bind (Zf n (a0.2.2.2.2.2.2.1:Int) (decide ((a0.1:Int)=8))) fun r70 =>
                        bif (r70.1.1:Bool) then
                          Option.bind (Zf n (a0.2.2.2.2.2.2.2.2.1:Int) (decide ((a0.1:Int)=8))) fun r71 =>
                          bif (r71.1.1:Bool) then
                            Option.bind (Zh n (a0.2.2.2.2.2.1:(List Int)) (decide ((a0.1:Int)=8))) fun r72 =>
                            bif (r72.1.1:Bool) then
                              Option.bind (Zh n (a0.2.2.2.2.2.2.2.1:(List Int)) (decide ((a0.1:Int)=8))) fun r73 =>
                              some (((r73.1.1:Bool),()),[])
                            else
                              some ((false,()),[])
                          else
                            some ((false,()),[])
                        else
                          some ((false,()),[])
                      else
                        some ((false,()),[])
                    else
                      bif (decide ((a0.1:Int)=7)) then
                        Option.bind (Zf n (a0.2.2.2.2.1:Int) true) fun r74 =>
                        bif (r74.1.1:Bool) then
                          Option.bind (Zf n (a0.2.2.2.2.2.2.1:Int) (decide ((a0.1:Int)=8))) fun r75 =>
                          bif (r75.1.1:Bool) then
                            Option.bind (Zf n (a0.2.2.2.2.2.2.2.2.1:Int) (decide ((a0.1:Int)=8))) fun r76 =>
                            bif (r76.1.1:Bool) then
                              Option.bind (Zh n (a0.2.2.2.2.2.1:(List Int)) (decide ((a0.1:Int)=8))) fun r77 =>
                              bif (r77.1.1:Bool) then
                                Option.bind (Zh n (a0.2.2.2.2.2.2.2.1:(List Int)) (decide ((a0.1:Int)=8))) fun r78 =>
                                some (((r78.1.1:Bool),()),[])
                              else
                                some ((false,()),[])
                            else
                              some ((false,()),[])
                          else
                            some ((false,()),[])
                        else
                          some ((false,()),[])
                      else
                        Option.bind (Zf n (a0.2.2.2.2.1:Int) (decide ((a0.1:Int)=8))) fun r79 =>
                        bif (r79.1.1:Bool) then
                          Option.bind (Zf n (a0.2.2.2.2.2.2.1:Int) (decide ((a0.1:Int)=8))) fun r80 =>
                          bif (r80.1.1:Bool) then
                            Option.bind (Zf n (a0.2.2.2.2.2.2.2.2.1:Int) (decide ((a0.1:Int)=8))) fun r81 =>
                            bif (r81.1.1:Bool) then
                              Option.bind (Zh n (a0.2.2.2.2.2.1:(List Int)) (decide ((a0.1:Int)=8))) fun r82 =>
                              bif (r82.1.1:Bool) then
                                Option.bind (Zh n (a0.2.2.2.2.2.2.2.1:(List Int)) (decide ((a0.1:Int)=8))) fun r83 =>
                                some (((r83.1.1:Bool),()),[])
                              else
                                some ((false,()),[])
                            else
                              some ((false,()),[])
                          else
                            some ((false,()),[])
                        else
                          some ((false,()),[])
                  else
                    some ((false,()),[])
                else
                  Option.bind (Zf n (a0.2.2.2.1:Int) (decide ((a0.1:Int)=6))) fun r84 =>
                  bif (r84.1.1:Bool) then
                    bif (decide ((a0.1:Int)=2)) then
                      Option.bind (Zf n (a0.2.2.2.2.1:Int) true) fun r85 =>
                      bif (r85.1.1:Bool) then
                        Option.bind (Zf n (a0.2.2.2.2.2.2.1:Int) (decide ((a0.1:Int)=8))) fun r86 =>
                        bif (r86.1.1:Bool) then
                          Option.bind (Zf n (a0.2.2.2.2.2.2.2.2.1:Int) (decide ((a0.1:Int)=8))) fun r87 =>
                          bif (r87.1.1:Bool) then
                            Option.bind (Zh n (a0.2.2.2.2.2.1:(List Int)) (decide ((a0.1:Int)=8))) fun r88 =>
                            bif (r88.1.1:Bool) then
                              Option.bind (Zh n (a0.2.2.2.2.2.2.2.1:(List Int)) (decide ((a0.1:Int)=8))) fun r89 =>
                              some (((r89.1.1:Bool),()),[])
                            else
                              some ((false,()),[])
                          else
                            some ((false,()),[])
                        else
                          some ((false,()),[])
                      else
                        some ((false,()),[])
                    else
                      bif (decide ((a0.1:Int)=7)) then
                        Option.bind (Zf n (a0.2.2.2.2.1:Int) true) fun r90 =>
                        bif (r90.1.1:Bool) then
                          Option.bind (Zf n (a0.2.2.2.2.2.2.1:Int) (decide ((a0.1:Int)=8))) fun r91 =>
                          bif (r91.1.1:Bool) then
                            Option.bind (Zf n (a0.2.2.2.2.2.2.2.2.1:Int) (decide ((a0.1:Int)=8))) fun r92 =>
                            bif (r92.1.1:Bool) then
                              Option.bind (Zh n (a0.2.2.2.2.2.1:(List Int)) (decide ((a0.1:Int)=8))) fun r93 =>
                              bif (r93.1.1:Bool) then
                                Option.bind (Zh n (a0.2.2.2.2.2.2.2.1:(List Int)) (decide ((a0.1:Int)=8))) fun r94 =>
                                some (((r94.1.1:Bool),()),[])
                              else
                                some ((false,()),[])
                            else
                              some ((false,()),[])
                          else
                            some ((false,()),[])
                        else
                          some ((false,()),[])
                      else
                        Option.bind (Zf n (a0.2.2.2.2.1:Int) (decide ((a0.1:Int)=8))) fun r95 =>
                        bif (r95.1.1:Bool) then
                          Option.bind (Zf n (a0.2.2.2.2.2.2.1:Int) (decide ((a0.1:Int)=8))) fun r96 =>
                          bif (r96.1.1:Bool) then
                            Option.bind (Zf n (a0.2.2.2.2.2.2.2.2.1:Int) (decide ((a0.1:Int)=8))) fun r97 =>
                            bif (r97.1.1:Bool) then
                              Option.bind (Zh n (a0.2.2.2.2.2.1:(List Int)) (decide ((a0.1:Int)=8))) fun r98 =>
                              bif (r98.1.1:Bool) then
                                Option.bind (Zh n (a0.2.2.2.2.2.2.2.1:(List Int)) (decide ((a0.1:Int)=8))) fun r99 =>
                                some (((r99.1.1:Bool),()),[])
                              else
                                some ((false,()),[])
                            else
                              some ((false,()),[])
                          else
                            some ((false,()),[])
                        else
                          some ((false,()),[])
                  else
                    some ((false,()),[])
              else
                some ((false,()),[])
            else
              Option.bind (Zf n (a0.2.2.1:Int) false) fun r100 =>
              bif (r100.1.1:Bool) then
                bif (decide ((a0.1:Int)=5)) then
                  Option.bind (Zf n (a0.2.2.2.1:Int) true) fun r101 =>
                  bif (r101.1.1:Bool) then
                    bif (decide ((a0.1:Int)=2)) then
                      Option.bind (Zf n (a0.2.2.2.2.1:Int) true) fun r102 =>
                      bif (r102.1.1:Bool) then
                        Option.bind (Zf n (a0.2.2.2.2.2.2.1:Int) (decide ((a0.1:Int)=8))) fun r103 =>
                        bif (r103.1.1:Bool) then
                          Option.bind (Zf n (a0.2.2.2.2.2.2.2.2.1:Int) (decide ((a0.1:Int)=8))) fun r104 =>
                          bif (r104.1.1:Bool) then
                            Option.bind (Zh n (a0.2.2.2.2.2.1:(List Int)) (decide ((a0.1:Int)=8))) fun r105 =>
                            bif (r105.1.1:Bool) then
                              Option.bind (Zh n (a0.2.2.2.2.2.2.2.1:(List Int)) (decide ((a0.1:Int)=8))) fun r106 =>
                              some (((r106.1.1:Bool),()),[])
                            else
                              some ((false,()),[])
                          else
                            some ((false,()),[])
                        else
                          some ((false,()),[])
                      else
                        some ((false,()),[])
                    else
                      bif (decide ((a0.1:Int)=7)) then
                        Option.bind (Zf n (a0.2.2.2.2.1:Int) true) fun r107 =>
                        bif (r107.1.1:Bool) then
                          Option.bind (Zf n (a0.2.2.2.2.2.2.1:Int) (decide ((a0.1:Int)=8))) fun r108 =>
                          bif (r108.1.1:Bool) then
                            Option.bind (Zf n (a0.2.2.2.2.2.2.2.2.1:Int) (decide ((a0.1:Int)=8))) fun r109 =>
                            bif (r109.1.1:Bool) then
                              Option.bind (Zh n (a0.2.2.2.2.2.1:(List Int)) (decide ((a0.1:Int)=8))) fun r110 =>
                              bif (r110.1.1:Bool) then
                                Option.bind (Zh n (a0.2.2.2.2.2.2.2.1:(List Int)) (decide ((a0.1:Int)=8))) fun r111 =>
                                some (((r111.1.1:Bool),()),[])
                              else
                                some ((false,()),[])
                            else
                              some ((false,()),[])
                          else
                            some ((false,()),[])
                        else
                          some ((false,()),[])
                      else
                        Option.bind (Zf n (a0.2.2.2.2.1:Int) (decide ((a0.1:Int)=8))) fun r112 =>
                        bif (r112.1.1:Bool) then
                          Option.bind (Zf n (a0.2.2.2.2.2.2.1:Int) (decide ((a0.1:Int)=8))) fun r113 =>
                          bif (r113.1.1:Bool) then
                            Option.bind (Zf n (a0.2.2.2.2.2.2.2.2.1:Int) (decide ((a0.1:Int)=8))) fun r114 =>
                            bif (r114.1.1:Bool) then
                              Option.bind (Zh n (a0.2.2.2.2.2.1:(List Int)) (decide ((a0.1:Int)=8))) fun r115 =>
                              bif (r115.1.1:Bool) then
                                Option.bind (Zh n (a0.2.2.2.2.2.2.2.1:(List Int)) (decide ((a0.1:Int)=8))) fun r116 =>
                                some (((r116.1.1:Bool),()),[])
                              else
                                some ((false,()),[])
                            else
                              some ((false,()),[])
                          else
                            some ((false,()),[])
                        else
                          some ((false,()),[])
                  else
                    some ((false,()),[])
                else
                  Option.bind (Zf n (a0.2.2.2.1:Int) (decide ((a0.1:Int)=6))) fun r117 =>
                  bif (r117.1.1:Bool) then
                    bif (decide ((a0.1:Int)=2)) then
                      Option.bind (Zf n (a0.2.2.2.2.1:Int) true) fun r118 =>
                      bif (r118.1.1:Bool) then
                        Option.bind (Zf n (a0.2.2.2.2.2.2.1:Int) (decide ((a0.1:Int)=8))) fun r119 =>
                        bif (r119.1.1:Bool) then
                          Option.bind (Zf n (a0.2.2.2.2.2.2.2.2.1:Int) (decide ((a0.1:Int)=8))) fun r120 =>
                          bif (r120.1.1:Bool) then
                            Option.bind (Zh n (a0.2.2.2.2.2.1:(List Int)) (decide ((a0.1:Int)=8))) fun r121 =>
                            bif (r121.1.1:Bool) then
                              Option.bind (Zh n (a0.2.2.2.2.2.2.2.1:(List Int)) (decide ((a0.1:Int)=8))) fun r122 =>
                              some (((r122.1.1:Bool),()),[])
                            else
                              some ((false,()),[])
                          else
                            some ((false,()),[])
                        else
                          some ((false,()),[])
                      else
                        some ((false,()),[])
                    else
                      bif (decide ((a0.1:Int)=7)) then
                        Option.bind (Zf n (a0.2.2.2.2.1:Int) true) fun r123 =>
                        bif (r123.1.1:Bool) then
                          Option.bind (Zf n (a0.2.2.2.2.2.2.1:Int) (decide ((a0.1:Int)=8))) fun r124 =>
                          bif (r124.1.1:Bool) then
                            Option.bind (Zf n (a0.2.2.2.2.2.2.2.2.1:Int) (decide ((a0.1:Int)=8))) fun r125 =>
                            bif (r125.1.1:Bool) then
                              Option.bind (Zh n (a0.2.2.2.2.2.1:(List Int)) (decide ((a0.1:Int)=8))) fun r126 =>
                              bif (r126.1.1:Bool) then
                                Option.bind (Zh n (a0.2.2.2.2.2.2.2.1:(List Int)) (decide ((a0.1:Int)=8))) fun r127 =>
                                some (((r127.1.1:Bool),()),[])
                              else
                                some ((false,()),[])
                            else
                              some ((false,()),[])
                          else
                            some ((false,()),[])
                        else
                          some ((false,()),[])
                      else
                        Option.bind (Zf n (a0.2.2.2.2.1:Int) (decide ((a0.1:Int)=8))) fun r128 =>
                        bif (r128.1.1:Bool) then
                          Option.bind (Zf n (a0.2.2.2.2.2.2.1:Int) (decide ((a0.1:Int)=8))) fun r129 =>
                          bif (r129.1.1:Bool) then
                            Option.bind (Zf n (a0.2.2.2.2.2.2.2.2.1:Int) (decide ((a0.1:Int)=8))) fun r130 =>
                            bif (r130.1.1:Bool) then
                              Option.bind (Zh n (a0.2.2.2.2.2.1:(List Int)) (decide ((a0.1:Int)=8))) fun r131 =>
                              bif (r131.1.1:Bool) then
                                Option.bind (Zh n (a0.2.2.2.2.2.2.2.1:(List Int)) (decide ((a0.1:Int)=8))) fun r132 =>
                                some (((r132.1.1:Bool),()),[])
                              else
                                some ((false,()),[])
                            else
                              some ((false,()),[])
                          else
                            some ((false,()),[])
                        else
                          some ((false,()),[])
                  else
                    some ((false,()),[])
              else
                some ((false,()),[]):=by kernel_rfl
@[reducible] def K8.R:Type:=Xd [.d .str]×Z0
def K8 (n:Nat) (a0:(List ByteArray)) (a1:Int):Option K8.R:=gc n 77 [.dat (.sl .str) a0 [],.dat (.int .i64) a1 []] [.d .str]
theorem K8.eq (n:Nat) (a0:(List ByteArray)) (a1:Int):K8 (n+1) a0 a1 =
  bif (decide (a1<0)) then
    some (((⟨#[]⟩:ByteArray),()),[])
  else
    bif (decide (((List.length a0):Int)≤a1)) then
      some (((⟨#[]⟩:ByteArray),()),[])
    else
      if (0:Int)≤a1∧a1<(((List.length a0):Nat):Int) then
      some (((List.getD a0 (Int.toNat a1) (dft .str):ByteArray),()),[])
      else none:=by kernel_rfl
@[reducible] def Ho.R:Type:=Xd [.d .str]×Z0
def Ho (n:Nat) (a0:Int):Option Ho.R:=gc n 44 [.dat (.int .i64) a0 []] [.d .str]
theorem Ho.eq (n:Nat) (a0:Int):Ho (n+1) a0 =
  Option.bind (K8 n (I3:(List ByteArray)) a0) fun r1 =>
  some (((r1.1.1:ByteArray),()),[]):=by kernel_rfl
@[reducible] def Qo.R:Type:=Xd [.d Z2]×Z0
def Qo (n:Nat) (a0:(den Z2)):Option Qo.R:=gc n 46 [.dat Z2 a0 []] [.d Z2]
theorem Qo.eq (n:Nat) (a0:(den Z2)):Qo (n+1) a0 =
  bif (decide ((a0.1:Int)=1)) then
    some ((((a0.1:Int),(a0.2.1:Int),0,0,0,([]:List Int),0,([]:List Int),0,()),()),[])
  else
    bif (decide ((a0.1:Int)=2)) then
      some ((((a0.1:Int),(a0.2.1:Int),0,0,(a0.2.2.2.2.1:Int),([]:List Int),0,([]:List Int),0,()),()),[])
    else
      bif (decide ((a0.1:Int)=3)) then
        bif (decide ((a0.1:Int)=3)) then
          some ((((a0.1:Int),0,(a0.2.2.1:Int),0,0,([]:List Int),0,([]:List Int),0,()),()),[])
        else
          bif (decide ((a0.1:Int)=5)) then
            bif (decide ((a0.1:Int)=5)) then
              some ((((a0.1:Int),0,(a0.2.2.1:Int),(a0.2.2.2.1:Int),0,([]:List Int),0,([]:List Int),0,()),()),[])
            else
              bif (decide ((a0.1:Int)=7)) then
                some ((((a0.1:Int),0,(a0.2.2.1:Int),0,(a0.2.2.2.2.1:Int),([]:List Int),0,([]:List Int),0,()),()),[])
              else
                bif (decide ((a0.1:Int)=8)) then
                  some ((((a0.1:Int),0,0,0,(a0.2.2.2.2.1:Int),(a0.2.2.2.2.2.1:(List Int)),(a0.2.2.2.2.2.2.1:Int),(a0.2.2.2.2.2.2.2.1:(List Int)),(a0.2.2.2.2.2.2.2.2.1:Int),()),()),[])
                else
                  some ((((a0.1:Int),0,0,0,0,([]:List Int),0,([]:List Int),0,()),()),[])
          else
            bif (decide ((a0.1:Int)=6)) then
              some ((((a0.1:Int),0,(a0.2.2.1:Int),(a0.2.2.2.1:Int),0,([]:List Int),0,([]:List Int),0,()),()),[])
            else
              bif (decide ((a0.1:Int)=7)) then
                some ((((a0.1:Int),0,(a0.2.2.1:Int),0,(a0.2.2.2.2.1:Int),([]:List Int),0,([]:List Int),0,()),()),[])
              else
                bif (decide ((a0.1:Int)=8)) then
                  some ((((a0.1:Int),0,0,0,(a0.2.2.2.2.1:Int),(a0.2.2.2.2.2.1:(List Int)),(a0.2.2.2.2.2.2.1:Int),(a0.2.2.2.2.2.2.2.1:(List Int)),(a0.2.2.2.2.2.2.2.2.1:Int),()),()),[])
                else
                  some ((((a0.1:Int),0,0,0,0,([]:List Int),0,([]:List Int),0,()),()),[])
      else
        bif (decide ((a0.1:Int)=4)) then
          some ((((a0.1:Int),0,(a0.2.2.1:Int),0,0,([]:List Int),0,([]:List Int),0,()),()),[])
        else
          bif (decide ((a0.1:Int)=5)) then
            bif (decide ((a0.1:Int)=5)) then
              some ((((a0.1:Int),0,(a0.2.2.1:Int),(a0.2.2.2.1:Int),0,([]:List Int),0,([]:List Int),0,()),()),[])
            else
              bif (decide ((a0.1:Int)=7)) then
                some ((((a0.1:Int),0,(a0.2.2.1:Int),0,(a0.2.2.2.2.1:Int),([]:List Int),0,([]:List Int),0,()),()),[])
              else
                bif (decide ((a0.1:Int)=8)) then
                  some ((((a0.1:Int),0,0,0,(a0.2.2.2.2.1:Int),(a0.2.2.2.2.2.1:(List Int)),(a0.2.2.2.2.2.2.1:Int),(a0.2.2.2.2.2.2.2.1:(List Int)),(a0.2.2.2.2.2.2.2.2.1:Int),()),()),[])
                else
                  some ((((a0.1:Int),0,0,0,0,([]:List Int),0,([]:List Int),0,()),()),[])
          else
            bif (decide ((a0.1:Int)=6)) then
              some ((((a0.1:Int),0,(a0.2.2.1:Int),(a0.2.2.2.1:Int),0,([]:List Int),0,([]:List Int),0,()),()),[])
            else
              bif (decide ((a0.1:Int)=7)) then
                some ((((a0.1:Int),0,(a0.2.2.1:Int),0,(a0.2.2.2.2.1:Int),([]:List Int),0,([]:List Int),0,()),()),[])
              else
                bif (decide ((a0.1:Int)=8)) then
                  some ((((a0.1:Int),0,0,0,(a0.2.2.2.2.1:Int),(a0.2.2.2.2.2.1:(List Int)),(a0.2.2.2.2.2.2.1:Int),(a0.2.2.2.2.2.2.2.1:(List Int)),(a0.2.2.2.2.2.2.2.2.1:Int),()),()),[])
                else
                  some ((((a0.1:Int),0,0,0,0,([]:List Int),0,([]:List Int),0,()),()),[]):=by kernel_rfl
@[reducible] def U1.R:Type:=Xd [.d Uw]×Z0
def U1 (n:Nat) (a0:(den Z2)):Option U1.R:=gc n 78 [.dat Z2 a0 []] [.d Uw]
theorem U1.eq (n:Nat) (a0:(den Z2)):U1 (n+1) a0 =
  some ((((a0.1:Int),(a0.2.1:Int),(a0.2.2.1:Int),(a0.2.2.2.1:Int),(a0.2.2.2.2.1:Int),(a0.2.2.2.2.2.2.1:Int),(a0.2.2.2.2.2.2.2.2.1:Int),()),()),[]):=by kernel_rfl
def Zr.res:List Sh:=[.d .bool]
@[reducible] def Zr.R:Type:=Xd [.d .bool]×Z0
def Zr (n:Nat) (a0:(List Int)) (a1:(List Int)):Option Zr.R:=gc n 79 [.dat (.sl (.int .i64)) a0 [],.dat (.sl (.int .i64)) a1 []] [.d .bool]
def Zr.l0 (n m0:Nat) (t0:(List Int)) (t1:(List Int)) (t4:Bool) (t12:Int) (t13:Int):Option Zr.R :=
  lpN n AMe m0 (Jg 0 (Q9 (run (gc n) n) ATl (Xi Zr.fn Zr.res) (Xi Zr.fn Zr.res)) (Xi Zr.fn Zr.res))
    [(0,.dat (.sl (.int .i64)) t0 []),(1,.dat (.sl (.int .i64)) t1 []),(4,.dat .bool t4 []),(12,.dat (.int .i64) t12 []),(13,.dat (.int .i64) t13 [])]
    []
theorem Zr.l0_eq (n m0:Nat) (t0:(List Int)) (t1:(List Int)) (t4:Bool) (t12:Int) (t13:Int):Zr.l0 n (m0+1) t0 t1 t4 t12 t13 =
  bif (decide (t13<t12)) then
    if (0:Int)≤t13∧t13<(((List.length t0):Nat):Int) then
    if (0:Int)≤t13∧t13<(((List.length t1):Nat):Int) then
    bif (!(decide ((List.getD t0 (Int.toNat t13) (0:Int):Int)=(List.getD t1 (Int.toNat t13) (0:Int):Int)))) then
      some ((false,()),[])
    else
      Zr.l0 n m0 t0 t1 t4 t12 (IntKind.wrap .i64 (t13+1))
    else none
    else none
  else
    some ((true,()),[]):=by kernel_rfl
theorem Zr.eq (n:Nat) (a0:(List Int)) (a1:(List Int)):Zr (n+1) a0 a1 =
  bif (!(decide (((List.length a0):Int)=((List.length a1):Int)))) then
    some ((false,()),[])
  else
    Zr.l0 n n a0 a1 false ((List.length a0):Int) 0:=by kernel_rfl
@[reducible] def Hp.R:Type:=Xd [.d .bool]×Z0
def Hp (n:Nat) (a0:(den Z2)) (a1:(den Z2)):Option Hp.R:=gc n 45 [.dat Z2 a0 [],.dat Z2 a1 []] [.d .bool]
theorem Hp.eq (n:Nat) (a0:(den Z2)) (a1:(den Z2)):Hp (n+1) a0 a1 =
  Option.bind (U1 n a0) fun r1 =>
  Option.bind (U1 n a1) fun r2 =>
  bif (eqT Uw r1.1.1 r2.1.1) then
    Option.bind (Zr n (a0.2.2.2.2.2.1:(List Int)) (a1.2.2.2.2.2.1:(List Int))) fun r3 =>
    bif (r3.1.1:Bool) then
      Option.bind (Zr n (a0.2.2.2.2.2.2.2.1:(List Int)) (a1.2.2.2.2.2.2.2.1:(List Int))) fun r4 =>
      some (((r4.1.1:Bool),()),[])
    else
      some ((false,()),[])
  else
    some ((false,()),[]):=by kernel_rfl
@[reducible] def G3.R:Type:=Xd [.d .str]×Z0
def G3 (n:Nat) (a0:Int):Option G3.R:=gc n 47 [.dat (.int .i64) a0 []] [.d .str]
theorem G3.eq (n:Nat) (a0:Int):G3 (n+1) a0 =
  Option.bind (K8 n (I4:(List ByteArray)) a0) fun r1 =>
  some (((r1.1.1:ByteArray),()),[]):=by kernel_rfl
@[reducible] def Kx.R:Type:=Xd [.d .bool]×Z0
def Kx (n:Nat) (a0:Int):Option Kx.R:=gc n 48 [.dat (.int .i64) a0 []] [.d .bool]
theorem Kx.eq (n:Nat) (a0:Int):Kx (n+1) a0 =
  bif (decide (0≤a0)) then
    some (((decide (a0≤1073741824)),()),[])
  else
    some ((false,()),[]):=by kernel_rfl
@[reducible] def Ko.R:Type:=Xd [.d .bool]×Z0
def Ko (n:Nat) (a0:Int):Option Ko.R:=gc n 81 [.dat (.int .i64) a0 []] [.d .bool]
theorem Ko.eq (n:Nat) (a0:Int):Ko (n+1) a0 =
  Option.bind (Kx n a0) fun r1 =>
  some (((!(r1.1.1:Bool)),()),[]):=by kernel_rfl
def Zw.res:List Sh:=[.d (.int .i64)]
@[reducible] def Zw.R:Type:=Xd [.d (.int .i64)]×Z0
def Zw (n:Nat) (a0:(List Int)):Option Zw.R:=gc n 135 [.dat (.sl (.int .i64)) a0 [],.clo 81 []] [.d (.int .i64)]
def Zw.l0 (n m0:Nat) (t0:(List Int)) (t4:Int) (t7:Int) (t8:Int):Option Zw.R :=
  lpN n ACp m0 (Jg 0 (Q9 (run (gc n) n) ACo (Xi Zj.fn Zw.res) (Xi Zj.fn Zw.res)) (Xi Zj.fn Zw.res))
    [(0,.dat (.sl (.int .i64)) t0 []),(1,.clo 81 []),(4,.dat (.int .i64) t4 []),(7,.dat (.int .i64) t7 []),(8,.dat (.int .i64) t8 [])]
    []
theorem Zw.l0_eq (n m0:Nat) (t0:(List Int)) (t4:Int) (t7:Int) (t8:Int):Zw.l0 n (m0+1) t0 t4 t7 t8 =
  bif (decide (t8<t7)) then
    if (0:Int)≤t8∧t8<(((List.length t0):Nat):Int) then
    Option.bind (Ko n (List.getD t0 (Int.toNat t8) (0:Int):Int)) fun r1 =>
    bif (r1.1.1:Bool) then
      some ((t8,()),[])
    else
      Zw.l0 n m0 t0 t4 t7 (IntKind.wrap .i64 (t8+1))
    else none
  else
    some (((-1),()),[]):=by kernel_rfl
theorem Zw.eq (n:Nat) (a0:(List Int)):Zw (n+1) a0 =
  Zw.l0 n n a0 0 ((List.length a0):Int) 0:=by kernel_rfl
@[reducible] def X3.R:Type:=Xd [.d .bool]×Z0
def X3 (n:Nat) (a0:(List Int)):Option X3.R:=gc n 80 [.dat (.sl (.int .i64)) a0 [],.clo 81 []] [.d .bool]
theorem X3.eq (n:Nat) (a0:(List Int)):X3 (n+1) a0 =
  Option.bind (Zw n a0) fun r1 =>
  some (((decide (0≤(r1.1.1:Int))),()),[]):=by kernel_rfl
@[reducible] def Gh.R:Type:=Xd [.d .bool]×Z0
def Gh (n:Nat) (a0:(List Int)):Option Gh.R:=gc n 49 [.dat (.sl (.int .i64)) a0 []] [.d .bool]
theorem Gh.eq (n:Nat) (a0:(List Int)):Gh (n+1) a0 =
  bif (decide (((List.length a0):Int)≤16)) then
    Option.bind (X3 n a0) fun r1 =>
    some (((!(r1.1.1:Bool)),()),[])
  else
    some ((false,()),[]):=by kernel_rfl
@[reducible] def Hg.R:Type:=Xd [.d .bool]×Z0
def Hg (n:Nat) (a0:(den Z2)):Option Hg.R:=gc n 27 [.dat Z2 a0 []] [.d .bool]
theorem Hg.eq (n:Nat) (a0:(den Z2)):Hg (n+1) a0 =
  Option.bind (Ho n (a0.1:Int)) fun r1 =>
  bif (!(eqT .str (r1.1.1:ByteArray) (⟨#[]⟩:ByteArray))) then
    Option.bind (Qo n a0) fun r2 =>
    Option.bind (Hp n a0 r2.1.1) fun r3 =>
    bif (r3.1.1:Bool) then
      Option.bind (G3 n (a0.2.1:Int)) fun r4 =>
      bif (!(eqT .str (r4.1.1:ByteArray) (⟨#[]⟩:ByteArray))) then
        Option.bind (Kx n (a0.2.2.1:Int)) fun r5 =>
        bif (r5.1.1:Bool) then
          Option.bind (Kx n (a0.2.2.2.1:Int)) fun r6 =>
          bif (r6.1.1:Bool) then
            Option.bind (Kx n (a0.2.2.2.2.1:Int)) fun r7 =>
            bif (r7.1.1:Bool) then
              Option.bind (Kx n (a0.2.2.2.2.2.2.1:Int)) fun r8 =>
              bif (r8.1.1:Bool) then
                Option.bind (Kx n (a0.2.2.2.2.2.2.2.2.1:Int)) fun r9 =>
                bif (r9.1.1:Bool) then
                  Option.bind (Gh n (a0.2.2.2.2.2.1:(List Int))) fun r10 =>
                  bif (r10.1.1:Bool) then
                    Option.bind (Gh n (a0.2.2.2.2.2.2.2.1:(List Int))) fun r11 =>
                    some (((r11.1.1:Bool),()),[])
                  else
                    some ((false,()),[])
                else
                  some ((false,()),[])
              else
                some ((false,()),[])
            else
              some ((false,()),[])
          else
            some ((false,()),[])
        else
          some ((false,()),[])
      else
        some ((false,()),[])
    else
      some ((false,()),[])
  else
    some ((false,()),[]):=by kernel_rfl
@[reducible] def Tx.R:Type:=Xd [.fmap [1,2,3,4,5,6,7,8,9,10] [.clo 82 [.refv (.clo 51 [])],.clo 82 [.refv (.clo 53 [])],.clo 87 [.refv (.clo 56 [])],.clo 87 [.refv (.clo 58 [])],.clo 87 [.refv (.clo 60 [])],.clo 87 [.refv (.clo 62 [])],.clo 87 [.refv (.clo 64 [])],.clo 87 [.refv (.clo 66 [])],.clo 119 [.refv (.clo 68 [])],.clo 119 [.refv (.clo 69 [])]]]×Z0
def Tx (n:Nat):Option Tx.R:=gc n 28 [] [.fmap [1,2,3,4,5,6,7,8,9,10] [.clo 82 [.refv (.clo 51 [])],.clo 82 [.refv (.clo 53 [])],.clo 87 [.refv (.clo 56 [])],.clo 87 [.refv (.clo 58 [])],.clo 87 [.refv (.clo 60 [])],.clo 87 [.refv (.clo 62 [])],.clo 87 [.refv (.clo 64 [])],.clo 87 [.refv (.clo 66 [])],.clo 119 [.refv (.clo 68 [])],.clo 119 [.refv (.clo 69 [])]]]
def X0.res:List Sh:=[.d (.sl V8)]
@[reducible] def X0.R:Type:=Xd [.d (.sl V8)]×Z0
def X0 (n:Nat) (a0:(den Zb)) (a1:(den Za)):Option X0.R:=gc n 121 [.dat Zb a0 [],.dat Za a1 []] [.d (.sl V8)]
def X0.l0 (n m0:Nat) (t0:(den Zb)) (t1:(den Za)) (t4:(List (den V8))) (t9:(List (den Za))) (t10:Int) (t11:Int) (o0:(den Zb)) (o1:(den Za)) (o5:(List (den V8))):Option X0.R :=
  lpN n ALr m0 (Jg 0 (Q9 (run (gc n) n) ALq (Xi X0.fn X0.res) (Xi X0.fn X0.res)) (Xi X0.fn X0.res))
    [(0,.dat Zb t0 []),(1,.dat Za t1 []),(2,.ptr 0 []),(3,.ptr 1 []),(4,.dat (.sl V8) t4 []),(5,.dat (.sl V8) ([]:List (den V8)) [([],some 5)]),(9,.dat (.sl Za) t9 []),(10,.dat (.int .i64) t10 []),(11,.dat (.int .i64) t11 [])]
    [.box Zb o0 [],.box Za o1 [],.none,.none,.none,.arr V8 o5]
theorem X0.l0_eq (n m0:Nat) (t0:(den Zb)) (t1:(den Za)) (t4:(List (den V8))) (t9:(List (den Za))) (t10:Int) (t11:Int) (o0:(den Zb)) (o1:(den Za)) (o5:(List (den V8))):X0.l0 n (m0+1) t0 t1 t4 t9 t10 t11 o0 o1 o5 =
  bif (decide (t11<t10)) then
    if (0:Int)≤t11∧t11<(((List.length t9):Nat):Int) then
    Option.bind (Vg n o0 t11) fun r1 =>
    bif (eqT Za r1.1.1 o1) then
      if (List.length o5)+1≤1048576 then
      X0.l0 n m0 t0 t1 t4 t9 t10 (IntKind.wrap .i64 (t11+1)) o0 o1 (o5 ++ ([(t11,(List.getD t9 (Int.toNat t11) (dft Za):(den Za)),())]:List (den V8)))
      else none
    else
      X0.l0 n m0 t0 t1 t4 t9 t10 (IntKind.wrap .i64 (t11+1)) o0 o1 o5
    else none
  else
    some ((o5,()),[(0,[])]):=by kernel_rfl
theorem X0.eq (n:Nat) (a0:(den Zb)) (a1:(den Za)):X0 (n+1) a0 a1 =
  X0.l0 n n a0 a1 ([]:List (den V8)) (a0.2.2.2.1:(List (den Za))) ((List.length (a0.2.2.2.1:(List (den Za)))):Int) 0 a0 a1 ([]:List (den V8)):=by kernel_rfl
@[reducible] def Ks.R:Type:=Xd [.d Xm]×Z0
def Ks (n:Nat) (a0:(den Zb)) (a1:Int):Option Ks.R:=gc n 69 [.dat Zb a0 [],.dat (.int .i64) a1 []] [.d Xm]
theorem Ks.eq (n:Nat) (a0:(den Zb)) (a1:Int):Ks (n+1) a0 a1 =
  if (0:Int)≤a1∧a1<(((List.length (a0.2.2.1:(List Int))):Nat):Int) then
  Option.bind (X0 n a0 (1,a1,())) fun r1 =>
  some (((0,10,0,([]:List Int),(r1.1.1:(List (den V8))),(List.getD (a0.2.2.1:(List Int)) (Int.toNat a1) (0:Int):Int),()),()),[])
  else none:=by kernel_rfl
@[reducible] def Qe.R:Type:=Xd [.d Zb,.d Xm]×Z0
def Qe (n:Nat) (a0:(den Zb)) (a1:Int) (a2:(den Z2)):Option Qe.R:=gc n 119 [.dat Zb a0 [],.dat (.int .i64) a1 [],.dat Z2 a2 [],.refv (.clo 69 [])] [.d Zb,.d Xm]
theorem Qe.eq (n:Nat) (a0:(den Zb)) (a1:Int) (a2:(den Z2)):Qe (n+1) a0 a1 a2 =
  Option.bind (Ks n a0 a1) fun r1 =>
  some ((a0,r1.1.1,()),[]):=by kernel_rfl
def Xg.res:List Sh:=[.d (.sl (.int .i64))]
@[reducible] def Xg.R:Type:=Xd [.d (.sl (.int .i64))]×Z0
def Xg (n:Nat) (a0:(den Zb)) (a1:Int):Option Xg.R:=gc n 120 [.dat Zb a0 [],.dat (.int .i64) a1 []] [.d (.sl (.int .i64))]
def Xg.l0 (n m0:Nat) (t0:(den Zb)) (t1:Int) (t4:(List Int)) (t9:Int) (t10:Int) (o0:(den Zb)) (o3:(List Int)):Option Xg.R :=
  lpN n ALp m0 (Jg 0 (Q9 (run (gc n) n) ALo (Xi Xg.fn Xg.res) (Xi Xg.fn Xg.res)) (Xi Xg.fn Xg.res))
    [(0,.dat Zb t0 []),(1,.dat (.int .i64) t1 []),(2,.ptr 0 []),(4,.dat (.sl (.int .i64)) t4 []),(5,.dat (.sl (.int .i64)) ([]:List Int) [([],some 3)]),(9,.dat (.int .i64) t9 []),(10,.dat (.int .i64) t10 [])]
    [.box Zb o0 [],.none,.none,.arr (.int .i64) o3]
theorem Xg.l0_eq (n m0:Nat) (t0:(den Zb)) (t1:Int) (t4:(List Int)) (t9:Int) (t10:Int) (o0:(den Zb)) (o3:(List Int)):Xg.l0 n (m0+1) t0 t1 t4 t9 t10 o0 o3 =
  bif (decide (t10<t9)) then
    if (0:Int)≤t10∧t10<(((List.length (o0.2.1:(List Int))):Nat):Int) then
    bif (decide ((List.getD (o0.2.1:(List Int)) (Int.toNat t10) (0:Int):Int)=t1)) then
      if (List.length o3)+1≤1048576 then
      Xg.l0 n m0 t0 t1 t4 t9 (IntKind.wrap .i64 (t10+1)) o0 (o3 ++ ([t10]:List Int))
      else none
    else
      Xg.l0 n m0 t0 t1 t4 t9 (IntKind.wrap .i64 (t10+1)) o0 o3
    else none
  else
    some ((o3,()),[(0,[])]):=by kernel_rfl
theorem Xg.eq (n:Nat) (a0:(den Zb)) (a1:Int):Xg (n+1) a0 a1 =
  Xg.l0 n n a0 a1 ([]:List Int) ((List.length (a0.2.1:(List Int))):Int) 0 a0 ([]:List Int):=by kernel_rfl
@[reducible] def V0.R:Type:=Xd [.d Xm]×Z0
def V0 (n:Nat) (a0:(den Zb)) (a1:Int):Option V0.R:=gc n 68 [.dat Zb a0 [],.dat (.int .i64) a1 []] [.d Xm]
theorem V0.eq (n:Nat) (a0:(den Zb)) (a1:Int):V0 (n+1) a0 a1 =
  if (0:Int)≤a1∧a1<(((List.length (a0.2.1:(List Int))):Nat):Int) then
  Option.bind (Xg n a0 (List.getD (a0.2.1:(List Int)) (Int.toNat a1) (0:Int):Int)) fun r1 =>
  Option.bind (X0 n a0 (0,(List.getD (a0.2.1:(List Int)) (Int.toNat a1) (0:Int):Int),())) fun r2 =>
  some (((0,9,(List.getD (a0.2.1:(List Int)) (Int.toNat a1) (0:Int):Int),(r1.1.1:(List Int)),(r2.1.1:(List (den V8))),0,()),()),[])
  else none:=by kernel_rfl
@[reducible] def J9.R:Type:=Xd [.d Zb,.d Xm]×Z0
def J9 (n:Nat) (a0:(den Zb)) (a1:Int) (a2:(den Z2)):Option J9.R:=gc n 119 [.dat Zb a0 [],.dat (.int .i64) a1 [],.dat Z2 a2 [],.refv (.clo 68 [])] [.d Zb,.d Xm]
theorem J9.eq (n:Nat) (a0:(den Zb)) (a1:Int) (a2:(den Z2)):J9 (n+1) a0 a1 a2 =
  Option.bind (V0 n a0 a1) fun r1 =>
  some ((a0,r1.1.1,()),[]):=by kernel_rfl
@[reducible] def V4.R:Type:=Xd [.d (.sl (.int .i64))]×Z0
def V4 (n:Nat) (a0:(List (List Int))):Option V4.R:=gc n 112 [.dat (.sl (.sl (.int .i64))) a0 []] [.d (.sl (.int .i64))]
@[reducible] def Qg.R:Type:=Xd [.d .bool]×Z0
def Qg (n:Nat) (a0:(den Zb)) (a1:Int):Option Qg.R:=gc n 110 [.dat Zb a0 [],.dat (.int .i64) a1 []] [.d .bool]
theorem Qg.eq (n:Nat) (a0:(den Zb)) (a1:Int):Qg (n+1) a0 a1 =
  bif (decide (0≤a1)) then
    some (((decide (a1<((List.length (a0.2.1:(List Int))):Int))),()),[])
  else
    some ((false,()),[]):=by kernel_rfl
@[reducible] def Ha.R:Type:=Xd [.d .bool]×Z0
def Ha (n:Nat) (a0:(den Zb)) (a1:Int):Option Ha.R:=gc n 109 [.dat Zb a0 [],.dat (.int .i64) a1 []] [.d .bool]
theorem Ha.eq (n:Nat) (a0:(den Zb)) (a1:Int):Ha (n+1) a0 a1 =
  bif (decide (0≤a1)) then
    some (((decide (a1<((List.length (a0.2.2.2.1:(List (den Za)))):Int))),()),[])
  else
    some ((false,()),[]):=by kernel_rfl
@[reducible] def Qf.R:Type:=Xd [.d .bool]×Z0
def Qf (n:Nat) (a0:Int) (a1:(den Zb)):Option Qf.R:=gc n 115 [.dat (.int .i64) a0 [],.ref Zb a1] [.d .bool]
theorem Qf.eq (n:Nat) (a0:Int) (a1:(den Zb)):Qf (n+1) a0 a1 =
  Option.bind (Ha n a1 a0) fun r1 =>
  some (((!(r1.1.1:Bool)),()),[]):=by kernel_rfl
def Zj.res:List Sh:=[.d (.int .i64)]
@[reducible] def Zj.R:Type:=Xd [.d (.int .i64)]×Z0
def Zj (n:Nat) (a0:(List Int)) (a1:(den Zb)):Option Zj.R:=gc n 135 [.dat (.sl (.int .i64)) a0 [],.clo 115 [.ref Zb a1]] [.d (.int .i64)]
def Zj.l0 (n m0:Nat) (t0:(List Int)) (t1:(den Zb)) (t4:Int) (t7:Int) (t8:Int):Option Zj.R :=
  lpN n ACp m0 (Jg 0 (Q9 (run (gc n) n) ACo (Xi Zj.fn Zj.res) (Xi Zj.fn Zj.res)) (Xi Zj.fn Zj.res))
    [(0,.dat (.sl (.int .i64)) t0 []),(1,.clo 115 [.ref Zb t1]),(4,.dat (.int .i64) t4 []),(7,.dat (.int .i64) t7 []),(8,.dat (.int .i64) t8 [])]
    []
theorem Zj.l0_eq (n m0:Nat) (t0:(List Int)) (t1:(den Zb)) (t4:Int) (t7:Int) (t8:Int):Zj.l0 n (m0+1) t0 t1 t4 t7 t8 =
  bif (decide (t8<t7)) then
    if (0:Int)≤t8∧t8<(((List.length t0):Nat):Int) then
    Option.bind (Qf n (List.getD t0 (Int.toNat t8) (0:Int):Int) t1) fun r1 =>
    bif (r1.1.1:Bool) then
      some ((t8,()),[])
    else
      Zj.l0 n m0 t0 t1 t4 t7 (IntKind.wrap .i64 (t8+1))
    else none
  else
    some (((-1),()),[]):=by kernel_rfl
theorem Zj.eq (n:Nat) (a0:(List Int)) (a1:(den Zb)):Zj (n+1) a0 a1 =
  Zj.l0 n n a0 a1 0 ((List.length a0):Int) 0:=by kernel_rfl
@[reducible] def Xe.R:Type:=Xd [.d .bool]×Z0
def Xe (n:Nat) (a0:(List Int)) (a1:(den Zb)):Option Xe.R:=gc n 80 [.dat (.sl (.int .i64)) a0 [],.clo 115 [.ref Zb a1]] [.d .bool]
theorem Xe.eq (n:Nat) (a0:(List Int)) (a1:(den Zb)):Xe (n+1) a0 a1 =
  Option.bind (Zj n a0 a1) fun r1 =>
  some (((decide (0≤(r1.1.1:Int))),()),[]):=by kernel_rfl
def Xu.res:List Sh:=[.d .bool]
@[reducible] def Xu.R:Type:=Xd [.d .bool]×Z0
def Xu (n:Nat) (a0:(List Int)):Option Xu.R:=gc n 116 [.dat (.sl (.int .i64)) a0 []] [.d .bool]
def Xu.l0 (n m0:Nat) (t0:(List Int)) (t2:Bool) (t7:(List Int)) (t8:Int) (t9:Int) (o0:(List (Int×Bool))):Option Xu.R :=
  lpN n ALl m0 (Jg 0 (Q9 (run (gc n) n) ALk (Xi Xu.fn Xu.res) (Xi Xu.fn Xu.res)) (Xi Xu.fn Xu.res))
    [(0,.dat (.sl (.int .i64)) t0 []),(2,.dat .bool t2 []),(3,.ptr 0 []),(7,.dat (.sl (.int .i64)) t7 []),(8,.dat (.int .i64) t8 []),(9,.dat (.int .i64) t9 [])]
    [.map (.int .i64) .bool o0]
theorem Xu.l0_eq (n m0:Nat) (t0:(List Int)) (t2:Bool) (t7:(List Int)) (t8:Int) (t9:Int) (o0:(List (Int×Bool))):Xu.l0 n (m0+1) t0 t2 t7 t8 t9 o0 =
  bif (decide (t9<t8)) then
    if (0:Int)≤t9∧t9<(((List.length t7):Nat):Int) then
    bif ((Option.getD (Yy (.int .i64) .bool (List.getD t7 (Int.toNat t9) (0:Int):Int) o0) false):Bool) then
      some ((true,()),[])
    else
      Xu.l0 n m0 t0 t2 t7 t8 (IntKind.wrap .i64 (t9+1)) (Hy (.int .i64) .bool (List.getD t7 (Int.toNat t9) (0:Int):Int) true o0)
    else none
  else
    some ((false,()),[]):=by kernel_rfl
theorem Xu.eq (n:Nat) (a0:(List Int)):Xu (n+1) a0 =
  Xu.l0 n n a0 false a0 ((List.length a0):Int) 0 []:=by kernel_rfl
@[reducible] def Y0.R:Type:=Xd [.d Za]×Z0
def Y0 (n:Nat) (a0:Int):Option Y0.R:=gc n 111 [.dat (.int .i64) a0 []] [.d Za]
theorem Y0.eq (n:Nat) (a0:Int):Y0 (n+1) a0 =
  some (((1,a0,()),()),[]):=by kernel_rfl
@[reducible] def Yt.R:Type:=Xd [.d .bool]×Z0
def Yt (n:Nat) (a0:Int) (a1:(den Zb)) (a2:Int):Option Yt.R:=gc n 114 [.dat (.int .i64) a0 [],.ref Zb a1,.ref (.int .i64) a2] [.d .bool]
theorem Yt.eq (n:Nat) (a0:Int) (a1:(den Zb)) (a2:Int):Yt (n+1) a0 a1 a2 =
  if (0:Int)≤a0∧a0<(((List.length (a1.2.2.2.1:(List (den Za)))):Nat):Int) then
  Option.bind (Y0 n a2) fun r1 =>
  some (((!(eqT Za (List.getD (a1.2.2.2.1:(List (den Za))) (Int.toNat a0) (dft Za):(den Za)) r1.1.1)),()),[])
  else none:=by kernel_rfl
def Zv.res:List Sh:=[.d (.int .i64)]
@[reducible] def Zv.R:Type:=Xd [.d (.int .i64)]×Z0
def Zv (n:Nat) (a0:(List Int)) (a1:(den Zb)) (a2:Int):Option Zv.R:=gc n 135 [.dat (.sl (.int .i64)) a0 [],.clo 114 [.ref Zb a1,.ref (.int .i64) a2]] [.d (.int .i64)]
def Zv.l0 (n m0:Nat) (t0:(List Int)) (t1:(den Zb)) (t1':Int) (t4:Int) (t7:Int) (t8:Int):Option Zv.R :=
  lpN n ACp m0 (Jg 0 (Q9 (run (gc n) n) ACo (Xi Zj.fn Zv.res) (Xi Zj.fn Zv.res)) (Xi Zj.fn Zv.res))
    [(0,.dat (.sl (.int .i64)) t0 []),(1,.clo 114 [.ref Zb t1,.ref (.int .i64) t1']),(4,.dat (.int .i64) t4 []),(7,.dat (.int .i64) t7 []),(8,.dat (.int .i64) t8 [])]
    []
theorem Zv.l0_eq (n m0:Nat) (t0:(List Int)) (t1:(den Zb)) (t1':Int) (t4:Int) (t7:Int) (t8:Int):Zv.l0 n (m0+1) t0 t1 t1' t4 t7 t8 =
  bif (decide (t8<t7)) then
    if (0:Int)≤t8∧t8<(((List.length t0):Nat):Int) then
    Option.bind (Yt n (List.getD t0 (Int.toNat t8) (0:Int):Int) t1 t1') fun r1 =>
    bif (r1.1.1:Bool) then
      some ((t8,()),[])
    else
      Zv.l0 n m0 t0 t1 t1' t4 t7 (IntKind.wrap .i64 (t8+1))
    else none
  else
    some (((-1),()),[]):=by kernel_rfl
theorem Zv.eq (n:Nat) (a0:(List Int)) (a1:(den Zb)) (a2:Int):Zv (n+1) a0 a1 a2 =
  Zv.l0 n n a0 a1 a2 0 ((List.length a0):Int) 0:=by kernel_rfl
@[reducible] def X2.R:Type:=Xd [.d .bool]×Z0
def X2 (n:Nat) (a0:(List Int)) (a1:(den Zb)) (a2:Int):Option X2.R:=gc n 80 [.dat (.sl (.int .i64)) a0 [],.clo 114 [.ref Zb a1,.ref (.int .i64) a2]] [.d .bool]
theorem X2.eq (n:Nat) (a0:(List Int)) (a1:(den Zb)) (a2:Int):X2 (n+1) a0 a1 a2 =
  Option.bind (Zv n a0 a1 a2) fun r1 =>
  some (((decide (0≤(r1.1.1:Int))),()),[]):=by kernel_rfl
@[reducible] def Y6.R:Type:=Xd [.d .bool]×Z0
def Y6 (n:Nat) (a0:(List Int)) (a1:Int) (a2:(den Zb)):Option Y6.R:=gc n 113 [.dat (.sl (.int .i64)) a0 [],.dat (.int .i64) a1 [],.ref Zb a2] [.d .bool]
theorem Y6.eq (n:Nat) (a0:(List Int)) (a1:Int) (a2:(den Zb)):Y6 (n+1) a0 a1 a2 =
  Option.bind (X2 n a0 a2 a1) fun r1 =>
  some (((r1.1.1:Bool),()),[]):=by kernel_rfl
def Y5.res:List Sh:=[.d (.sl (.int .i64))]
@[reducible] def Y5.R:Type:=Xd [.d (.sl (.int .i64))]×Z0
def Y5 (n:Nat) (a0:(den Zb)) (a1:(den Za)):Option Y5.R:=gc n 137 [.dat Zb a0 [],.dat Za a1 []] [.d (.sl (.int .i64))]
def Y5.l0 (n m0:Nat) (t0:(den Zb)) (t1:(den Za)) (t4:(List Int)) (t9:(List (den Za))) (t10:Int) (t11:Int) (o0:(den Zb)) (o1:(den Za)) (o5:(List Int)):Option Y5.R :=
  lpN n ALv m0 (Jg 0 (Q9 (run (gc n) n) ALu (Xi Y5.fn Y5.res) (Xi Y5.fn Y5.res)) (Xi Y5.fn Y5.res))
    [(0,.dat Zb t0 []),(1,.dat Za t1 []),(2,.ptr 0 []),(3,.ptr 1 []),(4,.dat (.sl (.int .i64)) t4 []),(5,.dat (.sl (.int .i64)) ([]:List Int) [([],some 5)]),(9,.dat (.sl Za) t9 []),(10,.dat (.int .i64) t10 []),(11,.dat (.int .i64) t11 [])]
    [.box Zb o0 [],.box Za o1 [],.none,.none,.none,.arr (.int .i64) o5]
theorem Y5.l0_eq (n m0:Nat) (t0:(den Zb)) (t1:(den Za)) (t4:(List Int)) (t9:(List (den Za))) (t10:Int) (t11:Int) (o0:(den Zb)) (o1:(den Za)) (o5:(List Int)):Y5.l0 n (m0+1) t0 t1 t4 t9 t10 t11 o0 o1 o5 =
  bif (decide (t11<t10)) then
    if (0:Int)≤t11∧t11<(((List.length t9):Nat):Int) then
    bif (eqT Za o1 (List.getD t9 (Int.toNat t11) (dft Za):(den Za))) then
      if (List.length o5)+1≤1048576 then
      Y5.l0 n m0 t0 t1 t4 t9 t10 (IntKind.wrap .i64 (t11+1)) o0 o1 (o5 ++ ([t11]:List Int))
      else none
    else
      Y5.l0 n m0 t0 t1 t4 t9 t10 (IntKind.wrap .i64 (t11+1)) o0 o1 o5
    else none
  else
    some ((o5,()),[(0,[])]):=by kernel_rfl
theorem Y5.eq (n:Nat) (a0:(den Zb)) (a1:(den Za)):Y5 (n+1) a0 a1 =
  Y5.l0 n n a0 a1 ([]:List Int) (a0.2.2.2.1:(List (den Za))) ((List.length (a0.2.2.2.1:(List (den Za)))):Int) 0 a0 a1 ([]:List Int):=by kernel_rfl
@[reducible] def Je.R:Type:=Xd [.d (.int .i64)]×Z0
def Je (n:Nat) (a0:(den Zb)) (a1:(den Za)):Option Je.R:=gc n 102 [.dat Zb a0 [],.dat Za a1 []] [.d (.int .i64)]
theorem Je.eq (n:Nat) (a0:(den Zb)) (a1:(den Za)):Je (n+1) a0 a1 =
  if (0:Int)≤(a1.1:Int)∧(a1.1:Int)<((3:Nat):Int) then
  Option.bind (Y5 n a0 a1) fun r1 =>
  some (((IntKind.wrap .i64 ((List.getD ([(a0.1.2.2.2.2.2.1:Int),(a0.1.2.2.2.2.2.2.1:Int),(a0.1.2.2.2.2.2.2.2.1:Int)]:List Int) (Int.toNat (a1.1:Int)) (0:Int):Int) - ((List.length (r1.1.1:(List Int))):Int))),()),[])
  else none:=by kernel_rfl
@[reducible] def Gi.R:Type:=Xd [.d .bool]×Z0
def Gi (n:Nat) (a0:Int):Option Gi.R:=gc n 139 [.dat (.int .i64) a0 []] [.d .bool]
theorem Gi.eq (n:Nat) (a0:Int):Gi (n+1) a0 =
  bif (decide (0≤a0)) then
    some (((decide (a0≤1073741824)),()),[])
  else
    some ((false,()),[]):=by kernel_rfl
@[reducible] def Kp.R:Type:=Xd [.d (.int .i64),.d (.int .i64),.d (.int .i64)]×Z0
def Kp (n:Nat) (a0:Int) (a1:Int) (a2:Int) (a3:Int):Option Kp.R:=gc n 117 [.dat (.int .i64) a0 [],.dat (.int .i64) a1 [],.dat (.int .i64) a2 [],.dat (.int .i64) a3 []] [.d (.int .i64),.d (.int .i64),.d (.int .i64)]
theorem Kp.eq (n:Nat) (a0:Int) (a1:Int) (a2:Int) (a3:Int):Kp (n+1) a0 a1 a2 a3 =
  bif (decide (a2<0)) then
    some ((a0,a1,1,()),[])
  else
    bif (decide (a3<0)) then
      some ((a0,a1,1,()),[])
    else
      bif (decide (a0<a2)) then
        some ((a0,a1,10,()),[])
      else
        bif (decide (a1<a3)) then
          some ((a0,a1,10,()),[])
        else
          Option.bind (Gi n (IntKind.wrap .i64 ((IntKind.wrap .i64 (a0 - a2))+a3))) fun r1 =>
          bif (!(r1.1.1:Bool)) then
            some ((a0,a1,11,()),[])
          else
            Option.bind (Gi n (IntKind.wrap .i64 ((IntKind.wrap .i64 (a1 - a3))+a2))) fun r2 =>
            bif (!(r2.1.1:Bool)) then
              some ((a0,a1,11,()),[])
            else
              some (((IntKind.wrap .i64 ((IntKind.wrap .i64 (a0 - a2))+a3)),(IntKind.wrap .i64 ((IntKind.wrap .i64 (a1 - a3))+a2)),0,()),[]):=by kernel_rfl
@[reducible] def J8.R:Type:=Xd [.d (.sl (.int .i64))]×Z0
def J8 (n:Nat) (a0:(List Int)):Option J8.R:=gc n 140 [.dat (.sl (.int .i64)) a0 []] [.d (.sl (.int .i64))]
@[reducible] def Y4.R:Type:=Xd [.d (.sl Za)]×Z0
def Y4 (n:Nat) (a0:(List (den Za))):Option Y4.R:=gc n 141 [.dat (.sl Za) a0 []] [.d (.sl Za)]
@[reducible] def Jp.R:Type:=Xd [.d Zb]×Z0
def Jp (n:Nat) (a0:(den Zb)):Option Jp.R:=gc n 118 [.dat Zb a0 []] [.d Zb]
theorem Jp.eq (n:Nat) (a0:(den Zb)):Jp (n+1) a0 =
  Option.bind (J8 n (a0.2.1:(List Int))) fun r1 =>
  bif (Zq r1.2 [((0,[]),2)]) then
    Option.bind (J8 n (a0.2.2.1:(List Int))) fun r2 =>
    bif (Zq r2.2 [((0,[]),3)]) then
      Option.bind (Y4 n (a0.2.2.2.1:(List (den Za)))) fun r3 =>
      bif (Zq r3.2 [((0,[]),4)]) then
        some (((a0.1,(r1.1.1:(List Int)),(r2.1.1:(List Int)),(r3.1.1:(List (den Za))),()),()),[(0,[1]),(0,[2]),(0,[3])])
      else
        none
    else
      none
  else
    none:=by kernel_rfl
def Z6.res:List Sh:=[.d Zb,.d (.int .i64)]
@[reducible] def Z6.R:Type:=Xd [.d Zb,.d (.int .i64)]×Z0
def Z6 (n:Nat) (a0:(den Zb)) (a1:Int) (a2:(den Z2)):Option Z6.R:=gc n 66 [.dat Zb a0 [],.dat (.int .i64) a1 [],.dat Z2 a2 []] [.d Zb,.d (.int .i64)]
def Z6.l0 (n m0:Nat) (t0:(den Zb)) (t1:Int) (t2:(den Z2)) (t7:Int) (t8:Int) (t9:(List Int)) (t11:Int) (t12:Int) (t13:Int) (t14:Int) (t135:(List Int)) (t136:Int) (t137:Int) (o0:(den Zb)) (o1:(den Z2)) (o2:(den Zb)) (o3:(List (List Int))) (o4:(den Zb)) (o5:(List Int)) (o6:(List (den Za))):Option Z6.R :=
  lpN n AMb m0 (Jg 1 (Q9 (run (gc n) n) AMa (Xi Z6.fn Z6.res) (Xi Z6.fn Z6.res)) (Xi Z6.fn Z6.res))
    [(0,.dat Zb t0 []),(1,.dat (.int .i64) t1 []),(2,.dat Z2 t2 []),(3,.ptr 0 []),(5,.ptr 1 []),(6,.ptr 2 []),(7,.dat (.int .i64) t7 []),(8,.dat (.int .i64) t8 []),(9,.dat (.sl (.int .i64)) t9 []),(10,.clo 113 [.ptr 0 []]),(11,.dat (.int .i64) t11 []),(12,.dat (.int .i64) t12 []),(13,.dat (.int .i64) t13 []),(14,.dat (.int .i64) t14 []),(15,.ptr 4 []),(135,.dat (.sl (.int .i64)) t135 []),(136,.dat (.int .i64) t136 []),(137,.dat (.int .i64) t137 [])]
    [.box Zb o0 [],.box Z2 o1 [],.box Zb o2 [],.frz (.sl (.int .i64)) o3,.box Zb o4 [([2],some 5),([3],some 6)],.arr (.int .i64) o5,.arr Za o6]
def Z6.l1 (n m0:Nat) (t0_1:(den Zb)) (t1_1:Int) (t2_1:(den Z2)) (t7_1:Int) (t8_1:Int) (t9_1:(List Int)) (t11_1:Int) (t12_1:Int) (t13_1:Int) (t14_1:Int) (t135_1:(List Int)) (t136_1:Int) (t137_1:Int) (t149_1:(List Int)) (t150_1:Int) (t151_1:Int) (o0_1:(den Zb)) (o1_1:(den Z2)) (o2_1:(den Zb)) (o3_1:(List (List Int))) (o4_1:(den Zb)) (o5_1:(List Int)) (o6_1:(List (den Za))):Option Z6.R :=
  lpN n AMd m0 (Jg 3 (Q9 (run (gc n) n) AMc (Xi Z6.fn Z6.res) (Xi Z6.fn Z6.res)) (Xi Z6.fn Z6.res))
    [(0,.dat Zb t0_1 []),(1,.dat (.int .i64) t1_1 []),(2,.dat Z2 t2_1 []),(3,.ptr 0 []),(5,.ptr 1 []),(6,.ptr 2 []),(7,.dat (.int .i64) t7_1 []),(8,.dat (.int .i64) t8_1 []),(9,.dat (.sl (.int .i64)) t9_1 []),(10,.clo 113 [.ptr 0 []]),(11,.dat (.int .i64) t11_1 []),(12,.dat (.int .i64) t12_1 []),(13,.dat (.int .i64) t13_1 []),(14,.dat (.int .i64) t14_1 []),(15,.ptr 4 []),(135,.dat (.sl (.int .i64)) t135_1 []),(136,.dat (.int .i64) t136_1 []),(137,.dat (.int .i64) t137_1 []),(149,.dat (.sl (.int .i64)) t149_1 []),(150,.dat (.int .i64) t150_1 []),(151,.dat (.int .i64) t151_1 [])]
    [.box Zb o0_1 [],.box Z2 o1_1 [],.box Zb o2_1 [],.frz (.sl (.int .i64)) o3_1,.box Zb o4_1 [([2],some 5),([3],some 6)],.arr (.int .i64) o5_1,.arr Za o6_1]
theorem Z6.l0_eq (n m0:Nat) (t0:(den Zb)) (t1:Int) (t2:(den Z2)) (t7:Int) (t8:Int) (t9:(List Int)) (t11:Int) (t12:Int) (t13:Int) (t14:Int) (t135:(List Int)) (t136:Int) (t137:Int) (o0:(den Zb)) (o1:(den Z2)) (o2:(den Zb)) (o3:(List (List Int))) (o4:(den Zb)) (o5:(List Int)) (o6:(List (den Za))):Z6.l0 n (m0+1) t0 t1 t2 t7 t8 t9 t11 t12 t13 t14 t135 t136 t137 o0 o1 o2 o3 o4 o5 o6 =
  bif (decide (t137<t136)) then
    if (0:Int)≤t137∧t137<(((List.length t135):Nat):Int) then
    Option.bind (Y0 n t8) fun r13 =>
    if (0:Int)≤(List.getD t135 (Int.toNat t137) (0:Int):Int)∧(List.getD t135 (Int.toNat t137) (0:Int):Int)<(((List.length o6):Nat):Int) then
    Z6.l0 n m0 t0 t1 t2 t7 t8 t9 t11 t12 t13 t14 t135 t136 (IntKind.wrap .i64 (t137+1)) o0 o1 o2 o3 o4 o5 (List.set o6 (Int.toNat (List.getD t135 (Int.toNat t137) (0:Int):Int)) r13.1.1:(List (den Za)))
    else none
    else none
  else
    Z6.l1 n n t0 t1 t2 t7 t8 t9 t11 t12 t13 t14 t135 t136 t137 (o1.2.2.2.2.2.2.2.1:(List Int)) ((List.length (o1.2.2.2.2.2.2.2.1:(List Int))):Int) 0 o0 o1 o2 o3 o4 o5 o6:=by kernel_rfl
theorem Z6.l1_eq (n m0:Nat) (t0_1:(den Zb)) (t1_1:Int) (t2_1:(den Z2)) (t7_1:Int) (t8_1:Int) (t9_1:(List Int)) (t11_1:Int) (t12_1:Int) (t13_1:Int) (t14_1:Int) (t135_1:(List Int)) (t136_1:Int) (t137_1:Int) (t149_1:(List Int)) (t150_1:Int) (t151_1:Int) (o0_1:(den Zb)) (o1_1:(den Z2)) (o2_1:(den Zb)) (o3_1:(List (List Int))) (o4_1:(den Zb)) (o5_1:(List Int)) (o6_1:(List (den Za))):Z6.l1 n (m0+1) t0_1 t1_1 t2_1 t7_1 t8_1 t9_1 t11_1 t12_1 t13_1 t14_1 t135_1 t136_1 t137_1 t149_1 t150_1 t151_1 o0_1 o1_1 o2_1 o3_1 o4_1 o5_1 o6_1 =
  bif (decide (t151_1<t150_1)) then
    if (0:Int)≤t151_1∧t151_1<(((List.length t149_1):Nat):Int) then
    Option.bind (Y0 n t1_1) fun r14 =>
    if (0:Int)≤(List.getD t149_1 (Int.toNat t151_1) (0:Int):Int)∧(List.getD t149_1 (Int.toNat t151_1) (0:Int):Int)<(((List.length o6_1):Nat):Int) then
    Z6.l1 n m0 t0_1 t1_1 t2_1 t7_1 t8_1 t9_1 t11_1 t12_1 t13_1 t14_1 t135_1 t136_1 t137_1 t149_1 t150_1 (IntKind.wrap .i64 (t151_1+1)) o0_1 o1_1 o2_1 o3_1 o4_1 o5_1 (List.set o6_1 (Int.toNat (List.getD t149_1 (Int.toNat t151_1) (0:Int):Int)) r14.1.1:(List (den Za)))
    else none
    else none
  else
    some (((o4_1.1,(o4_1.2.1:(List Int)),o5_1,o6_1,()),0,()),[(0,[2]),(0,[3])]):=by kernel_rfl
theorem Z6.eq (n:Nat) (a0:(den Zb)) (a1:Int) (a2:(den Z2)):Z6 (n+1) a0 a1 a2 =
  Option.bind (V4 n ([(a2.2.2.2.2.2.1:(List Int)),(a2.2.2.2.2.2.2.2.1:(List Int))]:List (List Int))) fun r1 =>
  Option.bind (Qg n a0 (a2.2.2.2.2.1:Int)) fun r2 =>
  bif (!(r2.1.1:Bool)) then
    some ((a0,3,()),[])
  else
    Option.bind (Xe n (r1.1.1:(List Int)) a0) fun r3 =>
    bif (r3.1.1:Bool) then
      some ((a0,3,()),[])
    else
      bif (decide ((a2.2.2.2.2.1:Int)=a1)) then
        some ((a0,12,()),[])
      else
        if (0:Int)≤(a2.2.2.2.2.1:Int)∧(a2.2.2.2.2.1:Int)<(((List.length (a0.2.1:(List Int))):Nat):Int) then
        if (0:Int)≤a1∧a1<(((List.length (a0.2.1:(List Int))):Nat):Int) then
        bif (!(decide ((List.getD (a0.2.1:(List Int)) (Int.toNat (a2.2.2.2.2.1:Int)) (0:Int):Int)=(List.getD (a0.2.1:(List Int)) (Int.toNat a1) (0:Int):Int)))) then
          some ((a0,5,()),[])
        else
          Option.bind (Xu n (r1.1.1:(List Int))) fun r4 =>
          bif (r4.1.1:Bool) then
            some ((a0,13,()),[])
          else
            Option.bind (Y6 n (a2.2.2.2.2.2.1:(List Int)) a1 a0) fun r5 =>
            bif (r5.1.1:Bool) then
              some ((a0,5,()),[])
            else
              Option.bind (Y6 n (a2.2.2.2.2.2.2.2.1:(List Int)) (a2.2.2.2.2.1:Int) a0) fun r6 =>
              bif (r6.1.1:Bool) then
                some ((a0,5,()),[])
              else
                Option.bind (Y0 n a1) fun r7 =>
                Option.bind (Je n a0 r7.1.1) fun r8 =>
                bif (decide ((r8.1.1:Int)<(IntKind.wrap .i64 (((List.length (a2.2.2.2.2.2.2.2.1:(List Int))):Int) - ((List.length (a2.2.2.2.2.2.1:(List Int))):Int))))) then
                  some ((a0,9,()),[])
                else
                  Option.bind (Y0 n (a2.2.2.2.2.1:Int)) fun r9 =>
                  Option.bind (Je n a0 r9.1.1) fun r10 =>
                  bif (decide ((r10.1.1:Int)<(IntKind.wrap .i64 (0 - (IntKind.wrap .i64 (((List.length (a2.2.2.2.2.2.2.2.1:(List Int))):Int) - ((List.length (a2.2.2.2.2.2.1:(List Int))):Int))))))) then
                    some ((a0,9,()),[])
                  else
                    if (0:Int)≤a1∧a1<(((List.length (a0.2.2.1:(List Int))):Nat):Int) then
                    if (0:Int)≤(a2.2.2.2.2.1:Int)∧(a2.2.2.2.2.1:Int)<(((List.length (a0.2.2.1:(List Int))):Nat):Int) then
                    Option.bind (Kp n (List.getD (a0.2.2.1:(List Int)) (Int.toNat a1) (0:Int):Int) (List.getD (a0.2.2.1:(List Int)) (Int.toNat (a2.2.2.2.2.1:Int)) (0:Int):Int) (a2.2.2.2.2.2.2.1:Int) (a2.2.2.2.2.2.2.2.2.1:Int)) fun r11 =>
                    bif (!(decide ((r11.1.2.2.1:Int)=0))) then
                      some ((a0,(r11.1.2.2.1:Int),()),[])
                    else
                      Option.bind (Jp n a0) fun r12 =>
                      bif (Zq r12.2 [((0,[2]),5),((0,[3]),6)]) then
                        if (0:Int)≤a1∧a1<(((List.length (r12.1.1.2.2.1:(List Int))):Nat):Int) then
                        if (0:Int)≤(a2.2.2.2.2.1:Int)∧(a2.2.2.2.2.1:Int)<(((List.length (List.set (r12.1.1.2.2.1:(List Int)) (Int.toNat a1) (r11.1.1:Int):(List Int))):Nat):Int) then
                        Z6.l0 n n a0 a1 a2 0 (a2.2.2.2.2.1:Int) (r1.1.1:(List Int)) (IntKind.wrap .i64 (((List.length (a2.2.2.2.2.2.2.2.1:(List Int))):Int) - ((List.length (a2.2.2.2.2.2.1:(List Int))):Int))) (r11.1.1:Int) (r11.1.2.1:Int) (r11.1.2.2.1:Int) (a2.2.2.2.2.2.1:(List Int)) ((List.length (a2.2.2.2.2.2.1:(List Int))):Int) 0 a0 a2 ((([]:List (List Int)),([]:List Int),([]:List Int),([]:List Int),([]:List Bool),0,0,0,()),([]:List Int),([]:List Int),([]:List (den Za)),()) ([(a2.2.2.2.2.2.1:(List Int)),(a2.2.2.2.2.2.2.2.1:(List Int))]:List (List Int)) (r12.1.1.1,(r12.1.1.2.1:(List Int)),([]:List Int),([]:List (den Za)),()) (List.set (List.set (r12.1.1.2.2.1:(List Int)) (Int.toNat a1) (r11.1.1:Int):(List Int)) (Int.toNat (a2.2.2.2.2.1:Int)) (r11.1.2.1:Int):(List Int)) (r12.1.1.2.2.2.1:(List (den Za)))
                        else none
                        else none
                      else
                        none
                    else none
                    else none
        else none
        else none:=by kernel_rfl
@[reducible] def Yp.R:Type:=Xd [.d Xm]×Z0
def Yp (n:Nat) (a0:Int) (a1:Int) (a2:Int):Option Yp.R:=gc n 83 [.dat (.int .i64) a0 [],.dat (.int .i64) a1 [],.dat (.int .i64) a2 []] [.d Xm]
theorem Yp.eq (n:Nat) (a0:Int) (a1:Int) (a2:Int):Yp (n+1) a0 a1 a2 =
  bif (!(decide (a2=0))) then
    some (((a2,0,0,([]:List Int),([]:List (den V8)),0,()),()),[])
  else
    some (((0,a0,a1,([]:List Int),([]:List (den V8)),0,()),()),[]):=by kernel_rfl
@[reducible] def Qz.R:Type:=Xd [.d Zb,.d Xm]×Z0
def Qz (n:Nat) (a0:(den Zb)) (a1:Int) (a2:(den Z2)):Option Qz.R:=gc n 87 [.dat Zb a0 [],.dat (.int .i64) a1 [],.dat Z2 a2 [],.refv (.clo 66 [])] [.d Zb,.d Xm]
theorem Qz.eq (n:Nat) (a0:(den Zb)) (a1:Int) (a2:(den Z2)):Qz (n+1) a0 a1 a2 =
  Option.bind (Z6 n a0 a1 a2) fun r1 =>
  Option.bind (Yp n (a2.1:Int) 0 (r1.1.2.1:Int)) fun r2 =>
  some ((r1.1.1,r2.1.1,()),[]):=by kernel_rfl
@[reducible] def Hi.R:Type:=Xd [.d Zb]×Z0
def Hi (n:Nat) (a0:(den Zb)) (a1:Int) (a2:(den Za)):Option Hi.R:=gc n 103 [.dat Zb a0 [],.dat (.int .i64) a1 [],.dat Za a2 []] [.d Zb]
theorem Hi.eq (n:Nat) (a0:(den Zb)) (a1:Int) (a2:(den Za)):Hi (n+1) a0 a1 a2 =
  Option.bind (Jp n a0) fun r1 =>
  bif (Zq r1.2 [((0,[3]),4)]) then
    if (0:Int)≤a1∧a1<(((List.length (r1.1.1.2.2.2.1:(List (den Za)))):Nat):Int) then
    some (((r1.1.1.1,(r1.1.1.2.1:(List Int)),(r1.1.1.2.2.1:(List Int)),(List.set (r1.1.1.2.2.2.1:(List (den Za))) (Int.toNat a1) a2:(List (den Za))),()),()),[(0,[3])])
    else none
  else
    none:=by kernel_rfl
@[reducible] def Vz.R:Type:=Xd [.d Zb,.d (.int .i64)]×Z0
def Vz (n:Nat) (a0:(den Zb)) (a1:Int) (a2:Int) (a3:Int):Option Vz.R:=gc n 65 [.dat Zb a0 [],.dat (.int .i64) a1 [],.dat (.int .i64) a2 [],.dat (.int .i64) a3 []] [.d Zb,.d (.int .i64)]
theorem Vz.eq (n:Nat) (a0:(den Zb)) (a1:Int) (a2:Int) (a3:Int):Vz (n+1) a0 a1 a2 a3 =
  Option.bind (Ha n a0 a2) fun r1 =>
  bif (!(r1.1.1:Bool)) then
    some ((a0,3,()),[])
  else
    Option.bind (Qg n a0 a3) fun r2 =>
    bif (!(r2.1.1:Bool)) then
      some ((a0,3,()),[])
    else
      bif (decide (a3=a1)) then
        some ((a0,12,()),[])
      else
        if (0:Int)≤a3∧a3<(((List.length (a0.2.1:(List Int))):Nat):Int) then
        if (0:Int)≤a1∧a1<(((List.length (a0.2.1:(List Int))):Nat):Int) then
        bif (!(decide ((List.getD (a0.2.1:(List Int)) (Int.toNat a3) (0:Int):Int)=(List.getD (a0.2.1:(List Int)) (Int.toNat a1) (0:Int):Int)))) then
          some ((a0,5,()),[])
        else
          if (0:Int)≤a2∧a2<(((List.length (a0.2.2.2.1:(List (den Za)))):Nat):Int) then
          Option.bind (Y0 n a1) fun r3 =>
          bif (!(eqT Za (List.getD (a0.2.2.2.1:(List (den Za))) (Int.toNat a2) (dft Za):(den Za)) r3.1.1)) then
            some ((a0,5,()),[])
          else
            Option.bind (Y0 n a3) fun r4 =>
            Option.bind (Je n a0 r4.1.1) fun r5 =>
            bif (decide ((r5.1.1:Int)<1)) then
              some ((a0,9,()),[])
            else
              Option.bind (Y0 n a3) fun r6 =>
              Option.bind (Hi n a0 a2 r6.1.1) fun r7 =>
              some ((r7.1.1,0,()),[])
          else none
        else none
        else none:=by kernel_rfl
@[reducible] def Qx.R:Type:=Xd [.d Zb,.d (.int .i64)]×Z0
def Qx (n:Nat) (a0:(den Zb)) (a1:Int) (a2:(den Z2)):Option Qx.R:=gc n 64 [.dat Zb a0 [],.dat (.int .i64) a1 [],.dat Z2 a2 []] [.d Zb,.d (.int .i64)]
theorem Qx.eq (n:Nat) (a0:(den Zb)) (a1:Int) (a2:(den Z2)):Qx (n+1) a0 a1 a2 =
  Option.bind (Vz n a0 a1 (a2.2.2.1:Int) (a2.2.2.2.2.1:Int)) fun r1 =>
  some ((r1.1.1,(r1.1.2.1:Int),()),[]):=by kernel_rfl
@[reducible] def Vt.R:Type:=Xd [.d Zb,.d Xm]×Z0
def Vt (n:Nat) (a0:(den Zb)) (a1:Int) (a2:(den Z2)):Option Vt.R:=gc n 87 [.dat Zb a0 [],.dat (.int .i64) a1 [],.dat Z2 a2 [],.refv (.clo 64 [])] [.d Zb,.d Xm]
theorem Vt.eq (n:Nat) (a0:(den Zb)) (a1:Int) (a2:(den Z2)):Vt (n+1) a0 a1 a2 =
  Option.bind (Qx n a0 a1 a2) fun r1 =>
  Option.bind (Yp n (a2.1:Int) 0 (r1.1.2.1:Int)) fun r2 =>
  some ((r1.1.1,r2.1.1,()),[]):=by kernel_rfl
@[reducible] def Q7.R:Type:=Xd [.d .bool]×Z0
def Q7 (n:Nat) (a0:(den Zb)) (a1:Int):Option Q7.R:=gc n 92 [.dat Zb a0 [],.dat (.int .i64) a1 []] [.d .bool]
theorem Q7.eq (n:Nat) (a0:(den Zb)) (a1:Int):Q7 (n+1) a0 a1 =
  bif (decide (a1<0)) then
    some ((true,()),[])
  else
    some (((decide (((List.length (a0.2.2.2.1:(List (den Za)))):Int)≤a1)),()),[]):=by kernel_rfl
@[reducible] def Ys.R:Type:=Xd [.d .bool]×Z0
def Ys (n:Nat) (a0:(den Zb)) (a1:Int) (a2:Int):Option Ys.R:=gc n 104 [.ref Zb a0,.ref (.int .i64) a1,.ref (.int .i64) a2] [.d .bool]
theorem Ys.eq (n:Nat) (a0:(den Zb)) (a1:Int) (a2:Int):Ys (n+1) a0 a1 a2 =
  Option.bind (Q7 n a0 a1) fun r1 =>
  bif (r1.1.1:Bool) then
    some ((true,()),[])
  else
    Option.bind (Q7 n a0 a2) fun r2 =>
    some (((r2.1.1:Bool),()),[]):=by kernel_rfl
@[reducible] def Va.R:Type:=Xd [.d .bool]×Z0
def Va (n:Nat) (a0:(den Zb)) (a1:Int) (a2:Int):Option Va.R:=gc n 94 [.dat Zb a0 [],.dat (.int .i64) a1 [],.dat (.int .i64) a2 []] [.d .bool]
theorem Va.eq (n:Nat) (a0:(den Zb)) (a1:Int) (a2:Int):Va (n+1) a0 a1 a2 =
  Option.bind (Vg n a0 a2) fun r1 =>
  if (0:Int)≤a1∧a1<(((List.length (a0.2.1:(List Int))):Nat):Int) then
  bif (eqT Za r1.1.1 (0,(List.getD (a0.2.1:(List Int)) (Int.toNat a1) (0:Int):Int),())) then
    some ((true,()),[])
  else
    some (((eqT Za r1.1.1 (1,a1,())),()),[])
  else none:=by kernel_rfl
@[reducible] def Q0.R:Type:=Xd [.d .bool]×Z0
def Q0 (n:Nat) (a0:(den Zb)) (a1:Int) (a2:Int):Option Q0.R:=gc n 105 [.ref Zb a0,.ref (.int .i64) a1,.ref (.int .i64) a2] [.d .bool]
theorem Q0.eq (n:Nat) (a0:(den Zb)) (a1:Int) (a2:Int):Q0 (n+1) a0 a1 a2 =
  Option.bind (Va n a0 a1 a2) fun r1 =>
  some (((!(r1.1.1:Bool)),()),[]):=by kernel_rfl
@[reducible] def Q2.R:Type:=Xd [.d .bool]×Z0
def Q2 (n:Nat) (a0:(den Zb)) (a1:Int):Option Q2.R:=gc n 106 [.ref Zb a0,.ref (.int .i64) a1] [.d .bool]
theorem Q2.eq (n:Nat) (a0:(den Zb)) (a1:Int):Q2 (n+1) a0 a1 =
  if (0:Int)≤a1∧a1<(((List.length (a0.1.2.2.2.2.1:(List Bool))):Nat):Int) then
  some (((!(List.getD (a0.1.2.2.2.2.1:(List Bool)) (Int.toNat a1) false:Bool)),()),[])
  else none:=by kernel_rfl
@[reducible] def Q3.R:Type:=Xd [.d .bool]×Z0
def Q3 (n:Nat) (a0:(den Zb)) (a1:Int) (a2:(den Za)):Option Q3.R:=gc n 107 [.ref Zb a0,.ref (.int .i64) a1,.ref Za a2] [.d .bool]
theorem Q3.eq (n:Nat) (a0:(den Zb)) (a1:Int) (a2:(den Za)):Q3 (n+1) a0 a1 a2 =
  if (0:Int)≤a1∧a1<(((List.length (a0.2.2.2.1:(List (den Za)))):Nat):Int) then
  some (((!(eqT Za (List.getD (a0.2.2.2.1:(List (den Za))) (Int.toNat a1) (dft Za):(den Za)) a2)),()),[])
  else none:=by kernel_rfl
@[reducible] def Q4.R:Type:=Xd [.d .bool]×Z0
def Q4 (n:Nat) (a0:(den Zb)) (a1:(den Za)):Option Q4.R:=gc n 108 [.ref Zb a0,.ref Za a1] [.d .bool]
theorem Q4.eq (n:Nat) (a0:(den Zb)) (a1:(den Za)):Q4 (n+1) a0 a1 =
  Option.bind (Je n a0 a1) fun r1 =>
  some (((decide ((r1.1.1:Int)<1)),()),[]):=by kernel_rfl
@[reducible] def Qn.R:Type:=Xd [.d (.int .i64)]×Z0
def Qn (n:Nat) (a0:(den Zb)) (a1:Int) (a2:Int) (a3:Int) (a4:(den Zb)) (a5:Int) (a6:Int) (a7:Int) (a8:(den Zb)) (a9:Int) (a10:Int) (a11:(den Zb)) (a12:Int) (a13:(den Za)) (a14:Int) (a15:(den Zb)) (a16:(den Za)) (a17:Int):Option Qn.R:=gc n 90 [.slv [.agv [.clo 104 [.ref Zb a0,.ref (.int .i64) a1,.ref (.int .i64) a2],.dat (.int .i64) a3 []],.agv [.clo 105 [.ref Zb a4,.ref (.int .i64) a5,.ref (.int .i64) a6],.dat (.int .i64) a7 []],.agv [.clo 106 [.ref Zb a8,.ref (.int .i64) a9],.dat (.int .i64) a10 []],.agv [.clo 107 [.ref Zb a11,.ref (.int .i64) a12,.ref Za a13],.dat (.int .i64) a14 []],.agv [.clo 108 [.ref Zb a15,.ref Za a16],.dat (.int .i64) a17 []]]] [.d (.int .i64)]
theorem Qn.eq (n:Nat) (a0:(den Zb)) (a1:Int) (a2:Int) (a3:Int) (a4:(den Zb)) (a5:Int) (a6:Int) (a7:Int) (a8:(den Zb)) (a9:Int) (a10:Int) (a11:(den Zb)) (a12:Int) (a13:(den Za)) (a14:Int) (a15:(den Zb)) (a16:(den Za)) (a17:Int):Qn (n+14) a0 a1 a2 a3 a4 a5 a6 a7 a8 a9 a10 a11 a12 a13 a14 a15 a16 a17 =
  Option.bind (Ys (n+13) a0 a1 a2) fun r1 =>
  bif (r1.1.1:Bool) then
    some ((a3,()),[])
  else
    Option.bind (Q0 (n+13) a4 a5 a6) fun r2 =>
    bif (r2.1.1:Bool) then
      some ((a7,()),[])
    else
      Option.bind (Q2 (n+13) a8 a9) fun r3 =>
      bif (r3.1.1:Bool) then
        some ((a10,()),[])
      else
        Option.bind (Q3 (n+13) a11 a12 a13) fun r4 =>
        bif (r4.1.1:Bool) then
          some ((a14,()),[])
        else
          Option.bind (Q4 (n+13) a15 a16) fun r5 =>
          bif (r5.1.1:Bool) then
            some ((a17,()),[])
          else
            some ((0,()),[]):=by kernel_rfl
@[reducible] def Vy.R:Type:=Xd [.d Zb,.d (.int .i64)]×Z0
def Vy (n:Nat) (a0:(den Zb)) (a1:Int) (a2:Int) (a3:Int):Option Vy.R:=gc n 63 [.dat Zb a0 [],.dat (.int .i64) a1 [],.dat (.int .i64) a2 [],.dat (.int .i64) a3 []] [.d Zb,.d (.int .i64)]
theorem Vy.eq (n:Nat) (a0:(den Zb)) (a1:Int) (a2:Int) (a3:Int):Vy (n+1) a0 a1 a2 a3 =
  Option.bind (Qn n a0 a2 a3 3 a0 a1 a3 5 a0 a3 6 a0 a2 (2,a3,()) 5 a0 (1,a1,()) 9) fun r1 =>
  bif (!(decide ((r1.1.1:Int)=0))) then
    some ((a0,(r1.1.1:Int),()),[])
  else
    Option.bind (Hi n a0 a2 (1,a1,())) fun r2 =>
    some ((r2.1.1,0,()),[]):=by kernel_rfl
@[reducible] def Qw.R:Type:=Xd [.d Zb,.d (.int .i64)]×Z0
def Qw (n:Nat) (a0:(den Zb)) (a1:Int) (a2:(den Z2)):Option Qw.R:=gc n 62 [.dat Zb a0 [],.dat (.int .i64) a1 [],.dat Z2 a2 []] [.d Zb,.d (.int .i64)]
theorem Qw.eq (n:Nat) (a0:(den Zb)) (a1:Int) (a2:(den Z2)):Qw (n+1) a0 a1 a2 =
  Option.bind (Vy n a0 a1 (a2.2.2.1:Int) (a2.2.2.2.1:Int)) fun r1 =>
  some ((r1.1.1,(r1.1.2.1:Int),()),[]):=by kernel_rfl
@[reducible] def Vu.R:Type:=Xd [.d Zb,.d Xm]×Z0
def Vu (n:Nat) (a0:(den Zb)) (a1:Int) (a2:(den Z2)):Option Vu.R:=gc n 87 [.dat Zb a0 [],.dat (.int .i64) a1 [],.dat Z2 a2 [],.refv (.clo 62 [])] [.d Zb,.d Xm]
theorem Vu.eq (n:Nat) (a0:(den Zb)) (a1:Int) (a2:(den Z2)):Vu (n+1) a0 a1 a2 =
  Option.bind (Qw n a0 a1 a2) fun r1 =>
  Option.bind (Yp n (a2.1:Int) 0 (r1.1.2.1:Int)) fun r2 =>
  some ((r1.1.1,r2.1.1,()),[]):=by kernel_rfl
@[reducible] def Y8.R:Type:=Xd [.d .bool]×Z0
def Y8 (n:Nat) (a0:(den Zb)) (a1:Int) (a2:Int):Option Y8.R:=gc n 91 [.ref Zb a0,.ref (.int .i64) a1,.ref (.int .i64) a2] [.d .bool]
theorem Y8.eq (n:Nat) (a0:(den Zb)) (a1:Int) (a2:Int):Y8 (n+1) a0 a1 a2 =
  Option.bind (Q7 n a0 a1) fun r1 =>
  bif (r1.1.1:Bool) then
    some ((true,()),[])
  else
    Option.bind (Q7 n a0 a2) fun r2 =>
    some (((r2.1.1:Bool),()),[]):=by kernel_rfl
@[reducible] def Jr.R:Type:=Xd [.d .bool]×Z0
def Jr (n:Nat) (a0:(den Zb)) (a1:Int) (a2:(den Za)) (a3:Int) (a4:Int):Option Jr.R:=gc n 93 [.ref Zb a0,.ref (.int .i64) a1,.ref Za a2,.ref (.int .i64) a3,.ref (.int .i64) a4] [.d .bool]
theorem Jr.eq (n:Nat) (a0:(den Zb)) (a1:Int) (a2:(den Za)) (a3:Int) (a4:Int):Jr (n+1) a0 a1 a2 a3 a4 =
  if (0:Int)≤a1∧a1<(((List.length (a0.2.2.2.1:(List (den Za)))):Nat):Int) then
  bif (!(eqT Za (List.getD (a0.2.2.2.1:(List (den Za))) (Int.toNat a1) (dft Za):(den Za)) a2)) then
    some ((true,()),[])
  else
    Option.bind (Va n a0 a3 a4) fun r1 =>
    some (((!(r1.1.1:Bool)),()),[])
  else none:=by kernel_rfl
@[reducible] def Js.R:Type:=Xd [.d .bool]×Z0
def Js (n:Nat) (a0:(den Zb)) (a1:Int):Option Js.R:=gc n 95 [.ref Zb a0,.ref (.int .i64) a1] [.d .bool]
theorem Js.eq (n:Nat) (a0:(den Zb)) (a1:Int):Js (n+1) a0 a1 =
  if (0:Int)≤a1∧a1<(((List.length (a0.1.2.2.2.2.1:(List Bool))):Nat):Int) then
  some (((!(List.getD (a0.1.2.2.2.2.1:(List Bool)) (Int.toNat a1) false:Bool)),()),[])
  else none:=by kernel_rfl
@[reducible] def Ww.R:Type:=Xd [.d .bool]×Z0
def Ww (n:Nat) (a0:(den Zb)) (a1:Int) (a2:Int):Option Ww.R:=gc n 97 [.dat Zb a0 [],.dat (.int .i64) a1 [],.dat (.int .i64) a2 []] [.d .bool]
@[reducible] def Jt.R:Type:=Xd [.d .bool]×Z0
def Jt (n:Nat) (a0:(den Zb)) (a1:Int) (a2:Int):Option Jt.R:=gc n 96 [.ref Zb a0,.ref (.int .i64) a1,.ref (.int .i64) a2] [.d .bool]
theorem Jt.eq (n:Nat) (a0:(den Zb)) (a1:Int) (a2:Int):Jt (n+1) a0 a1 a2 =
  Option.bind (Ww n a0 a1 a2) fun r1 =>
  some (((r1.1.1:Bool),()),[]):=by kernel_rfl
@[reducible] def Jo.R:Type:=Xd [.d (.int .i64)]×Z0
def Jo (n:Nat) (a0:(den Zb)) (a1:Int):Option Jo.R:=gc n 99 [.dat Zb a0 [],.dat (.int .i64) a1 []] [.d (.int .i64)]
theorem Jo.eq (n:Nat) (a0:(den Zb)) (a1:Int):Jo (n+1) a0 a1 =
  Option.bind (Gq n a0 a1) fun r1 =>
  Option.bind (Qp n r1.1.1.1 (r1.1.1.2.1:Int)) fun r2 =>
  some (((IntKind.wrap .i64 (((List.length (r2.1.1:(List (den Za)))):Int) - 1)),()),[]):=by kernel_rfl
def Xq.res:List Sh:=[.d (.int .i64)]
@[reducible] def Xq.R:Type:=Xd [.d (.int .i64)]×Z0
def Xq (n:Nat) (a0:(den Zb)) (a1:Int):Option Xq.R:=gc n 100 [.dat Zb a0 [],.dat (.int .i64) a1 []] [.d (.int .i64)]
def Xq.l0 (n m0:Nat) (t0:(den Zb)) (t1:Int) (t4:Int) (t5:Int) (t9:Int) (t10:Int) (o0:(den Zb)):Option Xq.R :=
  lpN n ALj m0 (Jg 0 (Q9 (run (gc n) n) ALi (Xi Xq.fn Xq.res) (Xi Xq.fn Xq.res)) (Xi Xq.fn Xq.res))
    [(0,.dat Zb t0 []),(1,.dat (.int .i64) t1 []),(2,.ptr 0 []),(4,.dat (.int .i64) t4 []),(5,.dat (.int .i64) t5 []),(9,.dat (.int .i64) t9 []),(10,.dat (.int .i64) t10 [])]
    [.box Zb o0 []]
theorem Xq.l0_eq (n m0:Nat) (t0:(den Zb)) (t1:Int) (t4:Int) (t5:Int) (t9:Int) (t10:Int) (o0:(den Zb)):Xq.l0 n (m0+1) t0 t1 t4 t5 t9 t10 o0 =
  bif (decide (t10<t9)) then
    Option.bind (Ww n o0 t10 t1) fun r1 =>
    bif (r1.1.1:Bool) then
      Option.bind (Jo n o0 t10) fun r2 =>
      Option.bind (Jo n o0 t1) fun r3 =>
      Xq.l0 n m0 t0 t1 t4 (if t5<(IntKind.wrap .i64 ((r2.1.1:Int) - (r3.1.1:Int))) then (IntKind.wrap .i64 ((r2.1.1:Int) - (r3.1.1:Int))) else t5) t9 (IntKind.wrap .i64 (t10+1)) o0
    else
      Xq.l0 n m0 t0 t1 t4 t5 t9 (IntKind.wrap .i64 (t10+1)) o0
  else
    some ((t5,()),[]):=by kernel_rfl
theorem Xq.eq (n:Nat) (a0:(den Zb)) (a1:Int):Xq (n+1) a0 a1 =
  Xq.l0 n n a0 a1 0 0 ((List.length (a0.2.2.2.1:(List (den Za)))):Int) 0 a0:=by kernel_rfl
@[reducible] def Ju.R:Type:=Xd [.d .bool]×Z0
def Ju (n:Nat) (a0:(den Zb)) (a1:Int) (a2:Int):Option Ju.R:=gc n 98 [.ref Zb a0,.ref (.int .i64) a1,.ref (.int .i64) a2] [.d .bool]
theorem Ju.eq (n:Nat) (a0:(den Zb)) (a1:Int) (a2:Int):Ju (n+1) a0 a1 a2 =
  Option.bind (Jo n a0 a1) fun r1 =>
  Option.bind (Xq n a0 a2) fun r2 =>
  some (((decide (4<(IntKind.wrap .i64 ((IntKind.wrap .i64 ((r1.1.1:Int)+1))+(r2.1.1:Int))))),()),[]):=by kernel_rfl
@[reducible] def Jv.R:Type:=Xd [.d .bool]×Z0
def Jv (n:Nat) (a0:(den Zb)) (a1:(den Za)):Option Jv.R:=gc n 101 [.ref Zb a0,.ref Za a1] [.d .bool]
theorem Jv.eq (n:Nat) (a0:(den Zb)) (a1:(den Za)):Jv (n+1) a0 a1 =
  Option.bind (Je n a0 a1) fun r1 =>
  some (((decide ((r1.1.1:Int)<1)),()),[]):=by kernel_rfl
@[reducible] def Qc.R:Type:=Xd [.d (.int .i64)]×Z0
def Qc (n:Nat) (a0:(den Zb)) (a1:Int) (a2:Int) (a3:Int) (a4:(den Zb)) (a5:Int) (a6:(den Za)) (a7:Int) (a8:Int) (a9:Int) (a10:(den Zb)) (a11:Int) (a12:Int) (a13:(den Zb)) (a14:Int) (a15:Int) (a16:Int) (a17:(den Zb)) (a18:Int) (a19:Int) (a20:Int) (a21:(den Zb)) (a22:(den Za)) (a23:Int):Option Qc.R:=gc n 90 [.slv [.agv [.clo 91 [.ref Zb a0,.ref (.int .i64) a1,.ref (.int .i64) a2],.dat (.int .i64) a3 []],.agv [.clo 93 [.ref Zb a4,.ref (.int .i64) a5,.ref Za a6,.ref (.int .i64) a7,.ref (.int .i64) a8],.dat (.int .i64) a9 []],.agv [.clo 95 [.ref Zb a10,.ref (.int .i64) a11],.dat (.int .i64) a12 []],.agv [.clo 96 [.ref Zb a13,.ref (.int .i64) a14,.ref (.int .i64) a15],.dat (.int .i64) a16 []],.agv [.clo 98 [.ref Zb a17,.ref (.int .i64) a18,.ref (.int .i64) a19],.dat (.int .i64) a20 []],.agv [.clo 101 [.ref Zb a21,.ref Za a22],.dat (.int .i64) a23 []]]] [.d (.int .i64)]
theorem Qc.eq (n:Nat) (a0:(den Zb)) (a1:Int) (a2:Int) (a3:Int) (a4:(den Zb)) (a5:Int) (a6:(den Za)) (a7:Int) (a8:Int) (a9:Int) (a10:(den Zb)) (a11:Int) (a12:Int) (a13:(den Zb)) (a14:Int) (a15:Int) (a16:Int) (a17:(den Zb)) (a18:Int) (a19:Int) (a20:Int) (a21:(den Zb)) (a22:(den Za)) (a23:Int):Qc (n+14) a0 a1 a2 a3 a4 a5 a6 a7 a8 a9 a10 a11 a12 a13 a14 a15 a16 a17 a18 a19 a20 a21 a22 a23 =
  Option.bind (Y8 (n+13) a0 a1 a2) fun r1 =>
  bif (r1.1.1:Bool) then
    some ((a3,()),[])
  else
    Option.bind (Jr (n+13) a4 a5 a6 a7 a8) fun r2 =>
    bif (r2.1.1:Bool) then
      some ((a9,()),[])
    else
      Option.bind (Js (n+13) a10 a11) fun r3 =>
      bif (r3.1.1:Bool) then
        some ((a12,()),[])
      else
        Option.bind (Jt (n+13) a13 a14 a15) fun r4 =>
        bif (r4.1.1:Bool) then
          some ((a16,()),[])
        else
          Option.bind (Ju (n+13) a17 a18 a19) fun r5 =>
          bif (r5.1.1:Bool) then
            some ((a20,()),[])
          else
            Option.bind (Jv (n+13) a21 a22) fun r6 =>
            bif (r6.1.1:Bool) then
              some ((a23,()),[])
            else
              some ((0,()),[]):=by kernel_rfl
@[reducible] def Km.R:Type:=Xd [.d Zb,.d (.int .i64)]×Z0
def Km (n:Nat) (a0:(den Zb)) (a1:Int) (a2:Int) (a3:Int):Option Km.R:=gc n 61 [.dat Zb a0 [],.dat (.int .i64) a1 [],.dat (.int .i64) a2 [],.dat (.int .i64) a3 []] [.d Zb,.d (.int .i64)]
theorem Km.eq (n:Nat) (a0:(den Zb)) (a1:Int) (a2:Int) (a3:Int):Km (n+1) a0 a1 a2 a3 =
  Option.bind (Qc n a0 a2 a3 3 a0 a2 (1,a1,()) a1 a3 5 a0 a3 6 a0 a3 a2 7 a0 a3 a2 8 a0 (2,a3,()) 9) fun r1 =>
  bif (!(decide ((r1.1.1:Int)=0))) then
    some ((a0,(r1.1.1:Int),()),[])
  else
    Option.bind (Hi n a0 a2 (2,a3,())) fun r2 =>
    some ((r2.1.1,0,()),[]):=by kernel_rfl
@[reducible] def Qv.R:Type:=Xd [.d Zb,.d (.int .i64)]×Z0
def Qv (n:Nat) (a0:(den Zb)) (a1:Int) (a2:(den Z2)):Option Qv.R:=gc n 60 [.dat Zb a0 [],.dat (.int .i64) a1 [],.dat Z2 a2 []] [.d Zb,.d (.int .i64)]
theorem Qv.eq (n:Nat) (a0:(den Zb)) (a1:Int) (a2:(den Z2)):Qv (n+1) a0 a1 a2 =
  Option.bind (Km n a0 a1 (a2.2.2.1:Int) (a2.2.2.2.1:Int)) fun r1 =>
  some ((r1.1.1,(r1.1.2.1:Int),()),[]):=by kernel_rfl
@[reducible] def Vv.R:Type:=Xd [.d Zb,.d Xm]×Z0
def Vv (n:Nat) (a0:(den Zb)) (a1:Int) (a2:(den Z2)):Option Vv.R:=gc n 87 [.dat Zb a0 [],.dat (.int .i64) a1 [],.dat Z2 a2 [],.refv (.clo 60 [])] [.d Zb,.d Xm]
theorem Vv.eq (n:Nat) (a0:(den Zb)) (a1:Int) (a2:(den Z2)):Vv (n+1) a0 a1 a2 =
  Option.bind (Qv n a0 a1 a2) fun r1 =>
  Option.bind (Yp n (a2.1:Int) 0 (r1.1.2.1:Int)) fun r2 =>
  some ((r1.1.1,r2.1.1,()),[]):=by kernel_rfl
@[reducible] def Jc.R:Type:=Xd [.d Za,.d Za]×Z0
def Jc (n:Nat) (a0:(den Zb)) (a1:Int):Option Jc.R:=gc n 88 [.dat Zb a0 [],.dat (.int .i64) a1 []] [.d Za,.d Za]
theorem Jc.eq (n:Nat) (a0:(den Zb)) (a1:Int):Jc (n+1) a0 a1 =
  if (0:Int)≤a1∧a1<(((List.length (a0.2.1:(List Int))):Nat):Int) then
  some (((0,(List.getD (a0.2.1:(List Int)) (Int.toNat a1) (0:Int):Int),()),(1,a1,()),()),[])
  else none:=by kernel_rfl
@[reducible] def Ka.R:Type:=Xd [.d Zb,.d (.int .i64)]×Z0
def Ka (n:Nat) (a0:(den Zb)) (a1:Int) (a2:(den Za)) (a3:(den Za)):Option Ka.R:=gc n 89 [.dat Zb a0 [],.dat (.int .i64) a1 [],.dat Za a2 [],.dat Za a3 []] [.d Zb,.d (.int .i64)]
theorem Ka.eq (n:Nat) (a0:(den Zb)) (a1:Int) (a2:(den Za)) (a3:(den Za)):Ka (n+1) a0 a1 a2 a3 =
  bif (decide (a1<0)) then
    some ((a0,3,()),[])
  else
    bif (decide (((List.length (a0.2.2.2.1:(List (den Za)))):Int)≤a1)) then
      some ((a0,3,()),[])
    else
      if (0:Int)≤a1∧a1<(((List.length (a0.2.2.2.1:(List (den Za)))):Nat):Int) then
      bif (!(eqT Za (List.getD (a0.2.2.2.1:(List (den Za))) (Int.toNat a1) (dft Za):(den Za)) a2)) then
        some ((a0,5,()),[])
      else
        Option.bind (Je n a0 a3) fun r1 =>
        bif (decide ((r1.1.1:Int)<1)) then
          some ((a0,9,()),[])
        else
          Option.bind (Hi n a0 a1 a3) fun r2 =>
          some ((r2.1.1,0,()),[])
      else none:=by kernel_rfl
@[reducible] def Kr.R:Type:=Xd [.d Zb,.d (.int .i64)]×Z0
def Kr (n:Nat) (a0:(den Zb)) (a1:Int) (a2:Int):Option Kr.R:=gc n 59 [.dat Zb a0 [],.dat (.int .i64) a1 [],.dat (.int .i64) a2 []] [.d Zb,.d (.int .i64)]
theorem Kr.eq (n:Nat) (a0:(den Zb)) (a1:Int) (a2:Int):Kr (n+1) a0 a1 a2 =
  Option.bind (Jc n a0 a1) fun r1 =>
  Option.bind (Ka n a0 a2 r1.1.2.1 r1.1.1) fun r2 =>
  some ((r2.1.1,(r2.1.2.1:Int),()),[]):=by kernel_rfl
@[reducible] def Qu.R:Type:=Xd [.d Zb,.d (.int .i64)]×Z0
def Qu (n:Nat) (a0:(den Zb)) (a1:Int) (a2:(den Z2)):Option Qu.R:=gc n 58 [.dat Zb a0 [],.dat (.int .i64) a1 [],.dat Z2 a2 []] [.d Zb,.d (.int .i64)]
theorem Qu.eq (n:Nat) (a0:(den Zb)) (a1:Int) (a2:(den Z2)):Qu (n+1) a0 a1 a2 =
  Option.bind (Kr n a0 a1 (a2.2.2.1:Int)) fun r1 =>
  some ((r1.1.1,(r1.1.2.1:Int),()),[]):=by kernel_rfl
@[reducible] def Vw.R:Type:=Xd [.d Zb,.d Xm]×Z0
def Vw (n:Nat) (a0:(den Zb)) (a1:Int) (a2:(den Z2)):Option Vw.R:=gc n 87 [.dat Zb a0 [],.dat (.int .i64) a1 [],.dat Z2 a2 [],.refv (.clo 58 [])] [.d Zb,.d Xm]
theorem Vw.eq (n:Nat) (a0:(den Zb)) (a1:Int) (a2:(den Z2)):Vw (n+1) a0 a1 a2 =
  Option.bind (Qu n a0 a1 a2) fun r1 =>
  Option.bind (Yp n (a2.1:Int) 0 (r1.1.2.1:Int)) fun r2 =>
  some ((r1.1.1,r2.1.1,()),[]):=by kernel_rfl
@[reducible] def Hq.R:Type:=Xd [.d Zb,.d (.int .i64)]×Z0
def Hq (n:Nat) (a0:(den Zb)) (a1:Int) (a2:Int):Option Hq.R:=gc n 57 [.dat Zb a0 [],.dat (.int .i64) a1 [],.dat (.int .i64) a2 []] [.d Zb,.d (.int .i64)]
theorem Hq.eq (n:Nat) (a0:(den Zb)) (a1:Int) (a2:Int):Hq (n+1) a0 a1 a2 =
  Option.bind (Jc n a0 a1) fun r1 =>
  Option.bind (Ka n a0 a2 r1.1.1 r1.1.2.1) fun r2 =>
  some ((r2.1.1,(r2.1.2.1:Int),()),[]):=by kernel_rfl
@[reducible] def Qt.R:Type:=Xd [.d Zb,.d (.int .i64)]×Z0
def Qt (n:Nat) (a0:(den Zb)) (a1:Int) (a2:(den Z2)):Option Qt.R:=gc n 56 [.dat Zb a0 [],.dat (.int .i64) a1 [],.dat Z2 a2 []] [.d Zb,.d (.int .i64)]
theorem Qt.eq (n:Nat) (a0:(den Zb)) (a1:Int) (a2:(den Z2)):Qt (n+1) a0 a1 a2 =
  Option.bind (Hq n a0 a1 (a2.2.2.1:Int)) fun r1 =>
  some ((r1.1.1,(r1.1.2.1:Int),()),[]):=by kernel_rfl
@[reducible] def Vx.R:Type:=Xd [.d Zb,.d Xm]×Z0
def Vx (n:Nat) (a0:(den Zb)) (a1:Int) (a2:(den Z2)):Option Vx.R:=gc n 87 [.dat Zb a0 [],.dat (.int .i64) a1 [],.dat Z2 a2 [],.refv (.clo 56 [])] [.d Zb,.d Xm]
theorem Vx.eq (n:Nat) (a0:(den Zb)) (a1:Int) (a2:(den Z2)):Vx (n+1) a0 a1 a2 =
  Option.bind (Qt n a0 a1 a2) fun r1 =>
  Option.bind (Yp n (a2.1:Int) 0 (r1.1.2.1:Int)) fun r2 =>
  some ((r1.1.1,r2.1.1,()),[]):=by kernel_rfl
@[reducible] def Hw.R:Type:=Xd [.clo 136 [.refv (.clo 86 [.ref (.int .i64),.ref Zb,.ref (.int .i64)]),.ref Zb,.ref (.int .i64)]]×Z0
def Hw (n:Nat) (a0:(den Zb)) (a1:Int) (a2:Int) (a3:(den Zb)) (a4:Int):Option Hw.R:=gc n 84 [.dat Zb a0 [],.dat (.int .i64) a1 [],.clo 86 [.ref (.int .i64) a2,.ref Zb a3,.ref (.int .i64) a4]] [.clo 136 [.refv (.clo 86 [.ref (.int .i64),.ref Zb,.ref (.int .i64)]),.ref Zb,.ref (.int .i64)]]
theorem Hw.eq (n:Nat) (a0:(den Zb)) (a1:Int) (a2:Int) (a3:(den Zb)) (a4:Int):Hw (n+1) a0 a1 a2 a3 a4 =
  some ((((a2,a3,a4,()),a0,a1,()),()),[]):=by kernel_rfl
@[reducible] def Jw.R:Type:=Xd [.d (.int .i64)]×Z0
def Jw (n:Nat) (a0:Int) (a1:(den Zb)) (a2:Int):Option Jw.R:=gc n 86 [.ref (.int .i64) a0,.ref Zb a1,.ref (.int .i64) a2] [.d (.int .i64)]
theorem Jw.eq (n:Nat) (a0:Int) (a1:(den Zb)) (a2:Int):Jw (n+1) a0 a1 a2 =
  bif (decide (a0<0)) then
    some ((3,()),[])
  else
    bif (decide (((List.length (a1.2.1:(List Int))):Int)≤a0)) then
      some ((3,()),[])
    else
      bif (decide (a0=a2)) then
        some ((12,()),[])
      else
        if (0:Int)≤a0∧a0<(((List.length (a1.2.1:(List Int))):Nat):Int) then
        if (0:Int)≤a2∧a2<(((List.length (a1.2.1:(List Int))):Nat):Int) then
        bif (!(decide ((List.getD (a1.2.1:(List Int)) (Int.toNat a0) (0:Int):Int)=(List.getD (a1.2.1:(List Int)) (Int.toNat a2) (0:Int):Int)))) then
          some ((5,()),[])
        else
          some ((0,()),[])
        else none
        else none:=by kernel_rfl
@[reducible] def Kw.R:Type:=Xd [.d Zb,.d (.int .i64),.d (.int .i64)]×Z0
def Kw (n:Nat) (a0:Int) (a1:Int) (a2:(den Zb)) (a3:Int) (a4:(den Zb)) (a5:Int):Option Kw.R:=gc n 136 [.dat (.int .i64) a0 [],.refv (.clo 86 [.ref (.int .i64) a1,.ref Zb a2,.ref (.int .i64) a3]),.ref Zb a4,.ref (.int .i64) a5] [.d Zb,.d (.int .i64),.d (.int .i64)]
theorem Kw.eq (n:Nat) (a0:Int) (a1:Int) (a2:(den Zb)) (a3:Int) (a4:(den Zb)) (a5:Int):Kw (n+1) a0 a1 a2 a3 a4 a5 =
  Option.bind (Jw n a1 a2 a3) fun r1 =>
  bif (!(decide ((r1.1.1:Int)=0))) then
    some ((a4,0,(r1.1.1:Int),()),[])
  else
    if (0:Int)≤a0∧a0<(((List.length (a4.2.1:(List Int))):Nat):Int) then
    Option.bind (Jq n a4 (List.getD (a4.2.1:(List Int)) (Int.toNat a0) (0:Int):Int) a5) fun r2 =>
    bif (!(r2.1.2.1:Bool)) then
      some ((a4,0,4,()),[])
    else
      Option.bind (Jp n a4) fun r3 =>
      bif (Zq r3.2 [((0,[1]),2)]) then
        if (0:Int)≤a0∧a0<(((List.length (r3.1.1.2.1:(List Int))):Nat):Int) then
        some (((r3.1.1.1,(List.set (r3.1.1.2.1:(List Int)) (Int.toNat a0) (r2.1.1:Int):(List Int)),(r3.1.1.2.2.1:(List Int)),(r3.1.1.2.2.2.1:(List (den Za))),()),(r2.1.1:Int),0,()),[(0,[1])])
        else none
      else
        none
    else none:=by kernel_rfl
@[reducible] def Kv.R:Type:=Xd [.d Zb,.d (.int .i64),.d (.int .i64)]×Z0
def Kv (n:Nat) (a0:(den Zb)) (a1:Int) (a2:Int) (a3:Int):Option Kv.R:=gc n 54 [.dat Zb a0 [],.dat (.int .i64) a1 [],.dat (.int .i64) a2 [],.dat (.int .i64) a3 []] [.d Zb,.d (.int .i64),.d (.int .i64)]
theorem Kv.eq (n:Nat) (a0:(den Zb)) (a1:Int) (a2:Int) (a3:Int):Kv (n+1) a0 a1 a2 a3 =
  Option.bind (Hw n a0 a3 a2 a0 a1) fun r1 =>
  Option.bind (Kw n a2 (r1.1.1.1.1:Int) r1.1.1.1.2.1 (r1.1.1.1.2.2.1:Int) r1.1.1.2.1 (r1.1.1.2.2.1:Int)) fun r2 =>
  some ((r2.1.1,(r2.1.2.1:Int),(r2.1.2.2.1:Int),()),[]):=by kernel_rfl
@[reducible] def Qs.R:Type:=Xd [.d Zb,.d (.int .i64),.d (.int .i64)]×Z0
def Qs (n:Nat) (a0:(den Zb)) (a1:Int) (a2:(den Z2)):Option Qs.R:=gc n 53 [.dat Zb a0 [],.dat (.int .i64) a1 [],.dat Z2 a2 []] [.d Zb,.d (.int .i64),.d (.int .i64)]
theorem Qs.eq (n:Nat) (a0:(den Zb)) (a1:Int) (a2:(den Z2)):Qs (n+1) a0 a1 a2 =
  Option.bind (Kv n a0 a1 (a2.2.2.2.2.1:Int) (a2.2.1:Int)) fun r1 =>
  some ((r1.1.1,(r1.1.2.1:Int),(r1.1.2.2.1:Int),()),[]):=by kernel_rfl
@[reducible] def Qy.R:Type:=Xd [.d Zb,.d Xm]×Z0
def Qy (n:Nat) (a0:(den Zb)) (a1:Int) (a2:(den Z2)):Option Qy.R:=gc n 82 [.dat Zb a0 [],.dat (.int .i64) a1 [],.dat Z2 a2 [],.refv (.clo 53 [])] [.d Zb,.d Xm]
theorem Qy.eq (n:Nat) (a0:(den Zb)) (a1:Int) (a2:(den Z2)):Qy (n+1) a0 a1 a2 =
  Option.bind (Qs n a0 a1 a2) fun r1 =>
  Option.bind (Yp n (a2.1:Int) (r1.1.2.1:Int) (r1.1.2.2.1:Int)) fun r2 =>
  some ((r1.1.1,r2.1.1,()),[]):=by kernel_rfl
@[reducible] def Kf.R:Type:=Xd [.clo 136 [.refv (.clo 85 []),.ref Zb,.ref (.int .i64)]]×Z0
def Kf (n:Nat) (a0:(den Zb)) (a1:Int):Option Kf.R:=gc n 84 [.dat Zb a0 [],.dat (.int .i64) a1 [],.clo 85 []] [.clo 136 [.refv (.clo 85 []),.ref Zb,.ref (.int .i64)]]
theorem Kf.eq (n:Nat) (a0:(den Zb)) (a1:Int):Kf (n+1) a0 a1 =
  some ((((()),a0,a1,()),()),[]):=by kernel_rfl
@[reducible] def Vm.R:Type:=Xd [.d (.int .i64)]×Z0
def Vm (n:Nat):Option Vm.R:=gc n 85 [] [.d (.int .i64)]
theorem Vm.eq (n:Nat):Vm (n+1) =
  some ((0,()),[]):=by kernel_rfl
@[reducible] def Q6.R:Type:=Xd [.d Zb,.d (.int .i64),.d (.int .i64)]×Z0
def Q6 (n:Nat) (a0:Int) (a1:(den Zb)) (a2:Int):Option Q6.R:=gc n 136 [.dat (.int .i64) a0 [],.refv (.clo 85 []),.ref Zb a1,.ref (.int .i64) a2] [.d Zb,.d (.int .i64),.d (.int .i64)]
theorem Q6.eq (n:Nat) (a0:Int) (a1:(den Zb)) (a2:Int):Q6 (n+1) a0 a1 a2 =
  Option.bind (Vm n) fun r1 =>
  bif (!(decide ((r1.1.1:Int)=0))) then
    some ((a1,0,(r1.1.1:Int),()),[])
  else
    if (0:Int)≤a0∧a0<(((List.length (a1.2.1:(List Int))):Nat):Int) then
    Option.bind (Jq n a1 (List.getD (a1.2.1:(List Int)) (Int.toNat a0) (0:Int):Int) a2) fun r2 =>
    bif (!(r2.1.2.1:Bool)) then
      some ((a1,0,4,()),[])
    else
      Option.bind (Jp n a1) fun r3 =>
      bif (Zq r3.2 [((0,[1]),2)]) then
        if (0:Int)≤a0∧a0<(((List.length (r3.1.1.2.1:(List Int))):Nat):Int) then
        some (((r3.1.1.1,(List.set (r3.1.1.2.1:(List Int)) (Int.toNat a0) (r2.1.1:Int):(List Int)),(r3.1.1.2.2.1:(List Int)),(r3.1.1.2.2.2.1:(List (den Za))),()),(r2.1.1:Int),0,()),[(0,[1])])
        else none
      else
        none
    else none:=by kernel_rfl
@[reducible] def Ku.R:Type:=Xd [.d Zb,.d (.int .i64),.d (.int .i64)]×Z0
def Ku (n:Nat) (a0:(den Zb)) (a1:Int) (a2:Int):Option Ku.R:=gc n 52 [.dat Zb a0 [],.dat (.int .i64) a1 [],.dat (.int .i64) a2 []] [.d Zb,.d (.int .i64),.d (.int .i64)]
theorem Ku.eq (n:Nat) (a0:(den Zb)) (a1:Int) (a2:Int):Ku (n+1) a0 a1 a2 =
  Option.bind (Kf n a0 a2) fun r1 =>
  Option.bind (Q6 n a1 r1.1.1.2.1 (r1.1.1.2.2.1:Int)) fun r2 =>
  some ((r2.1.1,(r2.1.2.1:Int),(r2.1.2.2.1:Int),()),[]):=by kernel_rfl
@[reducible] def Qr.R:Type:=Xd [.d Zb,.d (.int .i64),.d (.int .i64)]×Z0
def Qr (n:Nat) (a0:(den Zb)) (a1:Int) (a2:(den Z2)):Option Qr.R:=gc n 51 [.dat Zb a0 [],.dat (.int .i64) a1 [],.dat Z2 a2 []] [.d Zb,.d (.int .i64),.d (.int .i64)]
theorem Qr.eq (n:Nat) (a0:(den Zb)) (a1:Int) (a2:(den Z2)):Qr (n+1) a0 a1 a2 =
  Option.bind (Ku n a0 a1 (a2.2.1:Int)) fun r1 =>
  some ((r1.1.1,(r1.1.2.1:Int),(r1.1.2.2.1:Int),()),[]):=by kernel_rfl
@[reducible] def Vs.R:Type:=Xd [.d Zb,.d Xm]×Z0
def Vs (n:Nat) (a0:(den Zb)) (a1:Int) (a2:(den Z2)):Option Vs.R:=gc n 82 [.dat Zb a0 [],.dat (.int .i64) a1 [],.dat Z2 a2 [],.refv (.clo 51 [])] [.d Zb,.d Xm]
theorem Vs.eq (n:Nat) (a0:(den Zb)) (a1:Int) (a2:(den Z2)):Vs (n+1) a0 a1 a2 =
  Option.bind (Qr n a0 a1 a2) fun r1 =>
  Option.bind (Yp n (a2.1:Int) (r1.1.2.1:Int) (r1.1.2.2.1:Int)) fun r2 =>
  some ((r1.1.1,r2.1.1,()),[]):=by kernel_rfl
@[reducible] def J1.R:Type:=Xd [.d Zb,.d Xm]×Z0
def J1 (n:Nat) (a0:(den Zb)) (a1:Int) (a2:(den Z2)):Option J1.R:=gc n 10 [.dat Zb a0 [],.dat (.int .i64) a1 [],.dat Z2 a2 []] [.d Zb,.d Xm]
theorem J1.eq (n:Nat) (a0:(den Zb)) (a1:Int) (a2:(den Z2)):J1 (n+1) a0 a1 a2 =
  Option.bind (Hg n a2) fun r1 =>
  bif (!(r1.1.1:Bool)) then
    some ((a0,(2,0,0,([]:List Int),([]:List (den V8)),0,()),()),[])
  else
    Option.bind (Tx n) fun r2 =>
    bif (decide ((a2.1:Int)=1)) then
      Option.bind (Vs n a0 a1 a2) fun r12 =>
      some ((r12.1.1,r12.1.2.1,()),[])
    else
      bif (decide ((a2.1:Int)=2)) then
        Option.bind (Qy n a0 a1 a2) fun r11 =>
        some ((r11.1.1,r11.1.2.1,()),[])
      else
        bif (decide ((a2.1:Int)=3)) then
          Option.bind (Vx n a0 a1 a2) fun r10 =>
          some ((r10.1.1,r10.1.2.1,()),[])
        else
          bif (decide ((a2.1:Int)=4)) then
            Option.bind (Vw n a0 a1 a2) fun r9 =>
            some ((r9.1.1,r9.1.2.1,()),[])
          else
            bif (decide ((a2.1:Int)=5)) then
              Option.bind (Vv n a0 a1 a2) fun r8 =>
              some ((r8.1.1,r8.1.2.1,()),[])
            else
              bif (decide ((a2.1:Int)=6)) then
                Option.bind (Vu n a0 a1 a2) fun r7 =>
                some ((r7.1.1,r7.1.2.1,()),[])
              else
                bif (decide ((a2.1:Int)=7)) then
                  Option.bind (Vt n a0 a1 a2) fun r6 =>
                  some ((r6.1.1,r6.1.2.1,()),[])
                else
                  bif (decide ((a2.1:Int)=8)) then
                    Option.bind (Qz n a0 a1 a2) fun r5 =>
                    some ((r5.1.1,r5.1.2.1,()),[])
                  else
                    bif (decide ((a2.1:Int)=9)) then
                      Option.bind (J9 n a0 a1 a2) fun r4 =>
                      some ((r4.1.1,r4.1.2.1,()),[])
                    else
                      bif (decide ((a2.1:Int)=10)) then
                        Option.bind (Qe n a0 a1 a2) fun r3 =>
                        some ((r3.1.1,r3.1.2.1,()),[])
                      else
                        none:=by kernel_rfl
def Zz.res:List Sh:=[.d .bool]
@[reducible] def Zz.R:Type:=Xd [.d .bool]×Z0
def Zz (n:Nat) (a0:(List (den Za))) (a1:Int) (a2:Int):Option Zz.R:=gc n 13 [.dat (.sl Za) a0 [],.dat (.int .i64) a1 [],.dat (.int .i64) a2 []] [.d .bool]
def Zz.l0 (n m0:Nat) (t0:(List (den Za))) (t1:Int) (t2:Int) (t6:Bool) (t7:Int):Option Zz.R :=
  lpN n ATa m0 (Jg 0 (Q9 (run (gc n) n) AS9 (Xi Zz.fn Zz.res) (Xi Zz.fn Zz.res)) (Xi Zz.fn Zz.res))
    [(0,.dat (.sl Za) t0 []),(1,.dat (.int .i64) t1 []),(2,.dat (.int .i64) t2 []),(6,.dat .bool t6 []),(7,.dat (.int .i64) t7 [])]
    []
theorem Zz.l0_eq (n m0:Nat) (t0:(List (den Za))) (t1:Int) (t2:Int) (t6:Bool) (t7:Int):Zz.l0 n (m0+1) t0 t1 t2 t6 t7 =
  bif (decide (t7<((List.length t0):Int))) then
    if (0:Int)≤t7∧t7<(((List.length t0):Nat):Int) then
    bif (decide (((List.getD t0 (Int.toNat t7) (dft Za):(den Za)).1:Int)=t1)) then
      if (0:Int)≤t7∧t7<(((List.length t0):Nat):Int) then
      bif (decide (((List.getD t0 (Int.toNat t7) (dft Za):(den Za)).2.1:Int)=t2)) then
        some ((true,()),[])
      else
        Zz.l0 n m0 t0 t1 t2 t6 (IntKind.wrap .i64 (t7+1))
      else none
    else
      Zz.l0 n m0 t0 t1 t2 t6 (IntKind.wrap .i64 (t7+1))
    else none
  else
    some ((false,()),[]):=by kernel_rfl
theorem Zz.eq (n:Nat) (a0:(List (den Za))) (a1:Int) (a2:Int):Zz (n+1) a0 a1 a2 =
  Zz.l0 n n a0 a1 a2 false 0:=by kernel_rfl
@[reducible] def X6.R:Type:=Xd [.d Za]×Z0
def X6 (n:Nat) (a0:(den Zb)) (a1:Int):Option X6.R:=gc n 32 [.dat Zb a0 [],.dat (.int .i64) a1 []] [.d Za]
theorem X6.eq (n:Nat) (a0:(den Zb)) (a1:Int):X6 (n+1) a0 a1 =
  if (0:Int)≤a1∧a1<(((List.length (a0.2.2.2.1:(List (den Za)))):Nat):Int) then
  bif (!(decide (((List.getD (a0.2.2.2.1:(List (den Za))) (Int.toNat a1) (dft Za):(den Za)).1:Int)=2))) then
    some (((List.getD (a0.2.2.2.1:(List (den Za))) (Int.toNat a1) (dft Za):(den Za)),()),[])
  else
    Option.bind (X6 n a0 ((List.getD (a0.2.2.2.1:(List (den Za))) (Int.toNat a1) (dft Za):(den Za)).2.1:Int)) fun r1 =>
    some ((r1.1.1,()),[])
  else none:=by kernel_rfl
def Zk.res:List Sh:=[.d .bool]
@[reducible] def Zk.R:Type:=Xd [.d .bool]×Z0
def Zk (n:Nat) (a0:(List (den Za))) (a1:(den Zb)) (a2:(den Zb)):Option Zk.R:=gc n 12 [.dat (.sl Za) a0 [],.dat Zb a1 [],.dat Zb a2 []] [.d .bool]
def Zk.l0 (n m0:Nat) (t0:(List (den Za))) (t1:(den Zb)) (t2:(den Zb)) (t6:Bool) (t7:Int) (o0:(den Zb)) (o1:(den Zb)):Option Zk.R :=
  lpN n AS8 m0 (Jg 0 (Q9 (run (gc n) n) AS7 (Xi Zk.fn Zk.res) (Xi Zk.fn Zk.res)) (Xi Zk.fn Zk.res))
    [(0,.dat (.sl Za) t0 []),(1,.dat Zb t1 []),(2,.dat Zb t2 []),(4,.ptr 0 []),(5,.ptr 1 []),(6,.dat .bool t6 []),(7,.dat (.int .i64) t7 [])]
    [.box Zb o0 [],.box Zb o1 []]
def Zk.l1 (n m0:Nat) (t0_1:(List (den Za))) (t1_1:(den Zb)) (t2_1:(den Zb)) (t6_1:Bool) (t7_1:Int) (t9_1:Int) (o0_1:(den Zb)) (o1_1:(den Zb)):Option Zk.R :=
  lpN n ALt m0 (Jg 2 (Q9 (run (gc n) n) ALs (Xi Zk.fn Zk.res) (Xi Zk.fn Zk.res)) (Xi Zk.fn Zk.res))
    [(0,.dat (.sl Za) t0_1 []),(1,.dat Zb t1_1 []),(2,.dat Zb t2_1 []),(4,.ptr 0 []),(5,.ptr 1 []),(6,.dat .bool t6_1 []),(7,.dat (.int .i64) t7_1 []),(9,.dat (.int .i64) t9_1 [])]
    [.box Zb o0_1 [],.box Zb o1_1 []]
theorem Zk.l0_eq (n m0:Nat) (t0:(List (den Za))) (t1:(den Zb)) (t2:(den Zb)) (t6:Bool) (t7:Int) (o0:(den Zb)) (o1:(den Zb)):Zk.l0 n (m0+1) t0 t1 t2 t6 t7 o0 o1 =
  bif (decide (t7<((List.length (o0.2.1:(List Int))):Int))) then
    if (0:Int)≤t7∧t7<(((List.length (o0.2.1:(List Int))):Nat):Int) then
    if (0:Int)≤t7∧t7<(((List.length (o1.2.1:(List Int))):Nat):Int) then
    bif (decide ((List.getD (o0.2.1:(List Int)) (Int.toNat t7) (0:Int):Int)=(List.getD (o1.2.1:(List Int)) (Int.toNat t7) (0:Int):Int))) then
      if (0:Int)≤t7∧t7<(((List.length (o0.2.2.1:(List Int))):Nat):Int) then
      if (0:Int)≤t7∧t7<(((List.length (o1.2.2.1:(List Int))):Nat):Int) then
      bif (!(decide ((List.getD (o0.2.2.1:(List Int)) (Int.toNat t7) (0:Int):Int)=(List.getD (o1.2.2.1:(List Int)) (Int.toNat t7) (0:Int):Int)))) then
        Option.bind (Zz n t0 1 t7) fun r1 =>
        bif (!(r1.1.1:Bool)) then
          some ((false,()),[])
        else
          Zk.l0 n m0 t0 t1 t2 t6 (IntKind.wrap .i64 (t7+1)) o0 o1
      else
        Zk.l0 n m0 t0 t1 t2 t6 (IntKind.wrap .i64 (t7+1)) o0 o1
      else none
      else none
    else
      Option.bind (Zz n t0 1 t7) fun r2 =>
      bif (!(r2.1.1:Bool)) then
        some ((false,()),[])
      else
        Zk.l0 n m0 t0 t1 t2 t6 (IntKind.wrap .i64 (t7+1)) o0 o1
    else none
    else none
  else
    Zk.l1 n n t0 t1 t2 t6 t7 0 o0 o1:=by kernel_rfl
theorem Zk.l1_eq (n m0:Nat) (t0_1:(List (den Za))) (t1_1:(den Zb)) (t2_1:(den Zb)) (t6_1:Bool) (t7_1:Int) (t9_1:Int) (o0_1:(den Zb)) (o1_1:(den Zb)):Zk.l1 n (m0+1) t0_1 t1_1 t2_1 t6_1 t7_1 t9_1 o0_1 o1_1 =
  bif (decide (t9_1<((List.length (o0_1.2.2.2.1:(List (den Za)))):Int))) then
    if (0:Int)≤t9_1∧t9_1<(((List.length (o0_1.2.2.2.1:(List (den Za)))):Nat):Int) then
    if (0:Int)≤t9_1∧t9_1<(((List.length (o1_1.2.2.2.1:(List (den Za)))):Nat):Int) then
    bif (eqT Za (List.getD (o0_1.2.2.2.1:(List (den Za))) (Int.toNat t9_1) (dft Za):(den Za)) (List.getD (o1_1.2.2.2.1:(List (den Za))) (Int.toNat t9_1) (dft Za):(den Za))) then
      Zk.l1 n m0 t0_1 t1_1 t2_1 t6_1 t7_1 (IntKind.wrap .i64 (t9_1+1)) o0_1 o1_1
    else
      Option.bind (X6 n o0_1 t9_1) fun r3 =>
      Option.bind (X6 n o1_1 t9_1) fun r4 =>
      Option.bind (Zz n t0_1 (r3.1.1.1:Int) (r3.1.1.2.1:Int)) fun r5 =>
      bif (!(r5.1.1:Bool)) then
        some ((false,()),[])
      else
        Option.bind (Zz n t0_1 (r4.1.1.1:Int) (r4.1.1.2.1:Int)) fun r6 =>
        bif (!(r6.1.1:Bool)) then
          some ((false,()),[])
        else
          Zk.l1 n m0 t0_1 t1_1 t2_1 t6_1 t7_1 (IntKind.wrap .i64 (t9_1+1)) o0_1 o1_1
    else none
    else none
  else
    some ((true,()),[]):=by kernel_rfl
theorem Zk.eq (n:Nat) (a0:(List (den Za))) (a1:(den Zb)) (a2:(den Zb)):Zk (n+1) a0 a1 a2 =
  Zk.l0 n n a0 a1 a2 false 0 a1 a2:=by kernel_rfl
@[reducible] def Xy.R:Type:=Xd [.d (.int .i64)]×Z0
def Xy (n:Nat) (a0:(den Xa)) (a1:(den Za)):Option Xy.R:=gc n 14 [.dat Xa a0 [],.dat Za a1 []] [.d (.int .i64)]
theorem Xy.eq (n:Nat) (a0:(den Xa)) (a1:(den Za)):Xy (n+1) a0 a1 =
  bif (decide ((a1.1:Int)=0)) then
    bif (decide (0≤(a1.2.1:Int))) then
      bif (decide ((a1.2.1:Int)<((List.length (a0.1:(List (List Int)))):Int))) then
        some (((a1.2.1:Int),()),[])
      else
        bif (decide ((a1.1:Int)=1)) then
          bif (decide (0≤(a1.2.1:Int))) then
            bif (decide ((a1.2.1:Int)<((List.length (a0.2.1:(List Int))):Int))) then
              some (((IntKind.wrap .i64 (((List.length (a0.1:(List (List Int)))):Int)+(a1.2.1:Int))),()),[])
            else
              some (((-1),()),[])
          else
            some (((-1),()),[])
        else
          some (((-1),()),[])
    else
      bif (decide ((a1.1:Int)=1)) then
        bif (decide (0≤(a1.2.1:Int))) then
          bif (decide ((a1.2.1:Int)<((List.length (a0.2.1:(List Int))):Int))) then
            some (((IntKind.wrap .i64 (((List.length (a0.1:(List (List Int)))):Int)+(a1.2.1:Int))),()),[])
          else
            some (((-1),()),[])
        else
          some (((-1),()),[])
      else
        some (((-1),()),[])
  else
    bif (decide ((a1.1:Int)=1)) then
      bif (decide (0≤(a1.2.1:Int))) then
        bif (decide ((a1.2.1:Int)<((List.length (a0.2.1:(List Int))):Int))) then
          some (((IntKind.wrap .i64 (((List.length (a0.1:(List (List Int)))):Int)+(a1.2.1:Int))),()),[])
        else
          some (((-1),()),[])
      else
        some (((-1),()),[])
    else
      some (((-1),()),[]):=by kernel_rfl
@[reducible] def Yg.R:Type:=Xd [.d .bool]×Z0
def Yg (n:Nat) (a0:(den Za)) (a1:(den Za)):Option Yg.R:=gc n 15 [.dat Za a0 [],.dat Za a1 []] [.d .bool]
theorem Yg.eq (n:Nat) (a0:(den Za)) (a1:(den Za)):Yg (n+1) a0 a1 =
  bif (decide ((a0.1:Int)<(a1.1:Int))) then
    some ((true,()),[])
  else
    bif (decide ((a0.1:Int)=(a1.1:Int))) then
      some (((decide ((a0.2.1:Int)<(a1.2.1:Int))),()),[])
    else
      some ((false,()),[]):=by kernel_rfl
def Zs.res:List Sh:=[.d .bool]
@[reducible] def Zs.R:Type:=Xd [.d .bool]×Z0
def Zs (n:Nat) (a0:(den Zb)) (a1:Int) (a2:(den Z2)):Option Zs.R:=gc n 3 [.dat Zb a0 [],.dat (.int .u8) a1 [],.dat Z2 a2 []] [.d .bool]
def Zs.l0 (n m0:Nat) (t0:(den Zb)) (t1:Int) (t2:(den Z2)) (t6:Bool) (t7:Int) (t8:(List (den Za))) (t11:Int) (o0:(den Zb)) (o1:(den Z2)) (o2:(den Zb)) (o3:(den Xm)):Option Zs.R :=
  lpN n ATg m0 (Jg 0 (Q9 (run (gc n) n) ATf (Xi Zs.fn Zs.res) (Xi Zs.fn Zs.res)) (Xi Zs.fn Zs.res))
    [(0,.dat Zb t0 []),(1,.dat (.int .u8) t1 []),(2,.dat Z2 t2 []),(3,.ptr 0 []),(5,.ptr 1 []),(6,.dat .bool t6 []),(7,.dat (.int .i64) t7 []),(8,.dat (.sl Za) t8 []),(9,.ptr 2 []),(11,.dat (.int .i64) t11 [])]
    [.box Zb o0 [],.box Z2 o1 [],.box Zb o2 [],.box Xm o3 []]
theorem Zs.l0_eq (n m0:Nat) (t0:(den Zb)) (t1:Int) (t2:(den Z2)) (t6:Bool) (t7:Int) (t8:(List (den Za))) (t11:Int) (o0:(den Zb)) (o1:(den Z2)) (o2:(den Zb)) (o3:(den Xm)):Zs.l0 n (m0+1) t0 t1 t2 t6 t7 t8 t11 o0 o1 o2 o3 =
  bif (decide (t11<((List.length t8):Int))) then
    if (0:Int)≤t11∧t11<(((List.length t8):Nat):Int) then
    Option.bind (Xy n o0.1 (List.getD t8 (Int.toNat t11) (dft Za):(den Za))) fun r16 =>
    bif (decide ((r16.1.1:Int)<0)) then
      some ((false,()),[])
    else
      bif (decide (0<t11)) then
        if (0:Int)≤(IntKind.wrap .i64 (t11 - 1))∧(IntKind.wrap .i64 (t11 - 1))<(((List.length t8):Nat):Int) then
        if (0:Int)≤t11∧t11<(((List.length t8):Nat):Int) then
        Option.bind (Yg n (List.getD t8 (Int.toNat (IntKind.wrap .i64 (t11 - 1))) (dft Za):(den Za)) (List.getD t8 (Int.toNat t11) (dft Za):(den Za))) fun r17 =>
        bif (!(r17.1.1:Bool)) then
          some ((false,()),[])
        else
          Zs.l0 n m0 t0 t1 t2 t6 t7 t8 (IntKind.wrap .i64 (t11+1)) o0 o1 o2 o3
        else none
        else none
      else
        Zs.l0 n m0 t0 t1 t2 t6 t7 t8 (IntKind.wrap .i64 (t11+1)) o0 o1 o2 o3
    else none
  else
    some ((true,()),[]):=by kernel_rfl
theorem Zs.eq (n:Nat) (a0:(den Zb)) (a1:Int) (a2:(den Z2)):Zs (n+1) a0 a1 a2 =
  Option.bind (X7 n) fun r1 =>
  bif (!(r1.1.1:Bool)) then
    Option.bind (X7 n) fun r2 =>
    some (((r2.1.1:Bool),()),[])
  else
    Option.bind (Yf n a0) fun r3 =>
    bif (!(r3.1.1:Bool)) then
      Option.bind (X7 n) fun r4 =>
      some (((r4.1.1:Bool),()),[])
    else
      Option.bind (Yn n a2) fun r5 =>
      bif (!(r5.1.1:Bool)) then
        Option.bind (X7 n) fun r6 =>
        some (((r6.1.1:Bool),()),[])
      else
        Option.bind (Yd n a2) fun r7 =>
        bif (!(r7.1.1:Bool)) then
          Option.bind (X7 n) fun r8 =>
          some (((r8.1.1:Bool),()),[])
        else
          if ((List.length (a0.2.1:(List Int))):Int)=0 then none else
          Option.bind (G4 n a0 (Int.tmod (IntKind.wrap .i64 (a1)) ((List.length (a0.2.1:(List Int))):Int)) a2) fun r9 =>
          Option.bind (J1 n a0 (Int.tmod (IntKind.wrap .i64 (a1)) ((List.length (a0.2.1:(List Int))):Int)) a2) fun r10 =>
          Option.bind (Z5 n (r9.1.1:(List (den Za))) a0 r10.1.1) fun r11 =>
          bif (!(r11.1.1:Bool)) then
            some ((false,()),[])
          else
            Option.bind (Zk n (r9.1.1:(List (den Za))) a0 r10.1.1) fun r12 =>
            bif (!(r12.1.1:Bool)) then
              some ((false,()),[])
            else
              Option.bind (Zz n (r9.1.1:(List (den Za))) 1 (Int.tmod (IntKind.wrap .i64 (a1)) ((List.length (a0.2.1:(List Int))):Int))) fun r13 =>
              bif (!(r13.1.1:Bool)) then
                some ((false,()),[])
              else
                if (0:Int)≤(Int.tmod (IntKind.wrap .i64 (a1)) ((List.length (a0.2.1:(List Int))):Int))∧(Int.tmod (IntKind.wrap .i64 (a1)) ((List.length (a0.2.1:(List Int))):Int))<(((List.length (a0.2.1:(List Int))):Nat):Int) then
                Option.bind (Zz n (r9.1.1:(List (den Za))) 0 (List.getD (a0.2.1:(List Int)) (Int.toNat (Int.tmod (IntKind.wrap .i64 (a1)) ((List.length (a0.2.1:(List Int))):Int))) (0:Int):Int)) fun r14 =>
                bif (!(r14.1.1:Bool)) then
                  some ((false,()),[])
                else
                  if (0:Int)≤(Int.tmod (IntKind.wrap .i64 (a1)) ((List.length (a0.2.1:(List Int))):Int))∧(Int.tmod (IntKind.wrap .i64 (a1)) ((List.length (a0.2.1:(List Int))):Int))<(((List.length (r10.1.1.2.1:(List Int))):Nat):Int) then
                  Option.bind (Zz n (r9.1.1:(List (den Za))) 0 (List.getD (r10.1.1.2.1:(List Int)) (Int.toNat (Int.tmod (IntKind.wrap .i64 (a1)) ((List.length (a0.2.1:(List Int))):Int))) (0:Int):Int)) fun r15 =>
                  bif (!(r15.1.1:Bool)) then
                    some ((false,()),[])
                  else
                    Zs.l0 n n a0 a1 a2 false (Int.tmod (IntKind.wrap .i64 (a1)) ((List.length (a0.2.1:(List Int))):Int)) (r9.1.1:(List (den Za))) 0 a0 a2 r10.1.1 r10.1.2.1
                  else none
                else none:=by kernel_rfl
end Go.Proofs.YtmemggdjnfccfaaGreatDoor.Ghost
