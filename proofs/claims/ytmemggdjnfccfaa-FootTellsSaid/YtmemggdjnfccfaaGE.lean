/- What each function and each loop comes to, one step. Conditions: none. -/
import Derived.Test.YtmemggdjnfccfaaGSp
import Derived.KernelRfl
set_option linter.unusedVariables false
set_option linter.unusedSimpArgs false
set_option linter.unusedSectionVars false
set_option linter.unnecessarySimpa false
namespace Go.Proofs.Ytmemggdjnfccfaa.Ghost
open Go
abbrev gc (n:Nat):Calls:=gcall prog sp n
abbrev lpN {R:Type} (n:Nat) (c:Cd) (m:Nat) (K:Kt R) (s:Slots) (h:Heap):Option R:=loopN (fun Kn K s h=>run (gc n) n c Kn K s h) m K s h
def innkeepref06_New.res:List Sh:=[.d tWorld]
@[reducible] def innkeepref06_New.R:Type:=dShL [.d tWorld]×Fresh
def innkeepref06_New (n:Nat) (a0:(den tDesc)):Option innkeepref06_New.R:=gc n 15 [.dat tDesc a0 []] [.d tWorld]
def innkeepref06_New.l0 (n m0:Nat) (t0:(den tDesc)) (t4:Int) (o0:(den tDesc)) (o1:(den tWorld)) (o2:(den tWorld)) (o3:(List Int)) (o4:(List Int)) (o9:(List (den tPlace))):Option innkeepref06_New.R :=
  lpN n c15_9 m0 (kBlk 0 (kSeq (run (gc n) n) c15_7 (retK innkeepref06_New.fn innkeepref06_New.res) (retK innkeepref06_New.fn innkeepref06_New.res)) (retK innkeepref06_New.fn innkeepref06_New.res))
    [(0,.dat tDesc t0 []),(1,.ptr 0 []),(2,.ptr 1 []),(3,.ptr 2 []),(4,.dat (.int .i64) t4 [])]
    [.box tDesc o0 [],.box tWorld o1 [],.box tWorld o2 [([1],some 3),([2],some 4),([3],some 9)],.arr (.int .i64) o3,.arr (.int .i64) o4,.none,.none,.dead,.dead,.arr tPlace o9]
theorem innkeepref06_New.l0_eq (n m0:Nat) (t0:(den tDesc)) (t4:Int) (o0:(den tDesc)) (o1:(den tWorld)) (o2:(den tWorld)) (o3:(List Int)) (o4:(List Int)) (o9:(List (den tPlace))):innkeepref06_New.l0 n (m0+1) t0 t4 o0 o1 o2 o3 o4 o9 =
  bif (decide (t4<((List.length (o0.2.2.2.1:(List Int))):Int))) then
    if (0:Int)≤t4∧t4<(((List.length (o0.2.2.2.1:(List Int))):Nat):Int) then
    if (List.length o9)+1≤1048576 then
    innkeepref06_New.l0 n m0 t0 (IntKind.wrap .i64 (t4+1)) o0 o1 (o2.1,(o2.2.1:(List Int)),(o2.2.2.1:(List Int)),([]:List (den tPlace)),()) o3 o4 (o9 ++ ([(0,(List.getD (o0.2.2.2.1:(List Int)) (Int.toNat t4) (0:Int):Int),())]:List (den tPlace)))
    else none
    else none
  else
    some (((o2.1,o3,o4,o9,()),()),[(0,[1]),(0,[2]),(0,[3])]):=by kernel_rfl
theorem innkeepref06_New.eq (n:Nat) (a0:(den tDesc)):innkeepref06_New (n+1) a0 =
  if 0+(List.length (a0.2.1:(List Int)))≤1048576 then
  if 0+(List.length (a0.2.2.1:(List Int)))≤1048576 then
  innkeepref06_New.l0 n n a0 0 a0 ((([]:List (List Int)),([]:List Int),([]:List Int),([]:List Int),([]:List Bool),0,0,0,()),([]:List Int),([]:List Int),([]:List (den tPlace)),()) (a0,([]:List Int),([]:List Int),([]:List (den tPlace)),()) (([]:List Int) ++ (a0.2.1:(List Int))) (([]:List Int) ++ (a0.2.2.1:(List Int))) ([]:List (den tPlace))
  else none
  else none:=by kernel_rfl
def innkeepref06_Copied.res:List Sh:=[.d tWorld]
@[reducible] def innkeepref06_Copied.R:Type:=dShL [.d tWorld]×Fresh
def innkeepref06_Copied (n:Nat) (a0:(den tWorld)):Option innkeepref06_Copied.R:=gc n 16 [.dat tWorld a0 []] [.d tWorld]
theorem innkeepref06_Copied.eq (n:Nat) (a0:(den tWorld)):innkeepref06_Copied (n+1) a0 =
  if 0+(List.length (a0.2.1:(List Int)))≤1048576 then
  if 0+(List.length (a0.2.2.1:(List Int)))≤1048576 then
  if 0+(List.length (a0.2.2.2.1:(List (den tPlace))))≤1048576 then
  some (((a0.1,(([]:List Int) ++ (a0.2.1:(List Int))),(([]:List Int) ++ (a0.2.2.1:(List Int))),(([]:List (den tPlace)) ++ (a0.2.2.2.1:(List (den tPlace)))),()),()),[(0,[1]),(0,[2]),(0,[3])])
  else none
  else none
  else none:=by kernel_rfl
def ways_Exit.res:List Sh:=[.d (.int .i64),.d .bool]
@[reducible] def ways_Exit.R:Type:=dShL [.d (.int .i64),.d .bool]×Fresh
def ways_Exit (n:Nat) (a0:(den tWorld)) (a1:Int) (a2:Int):Option ways_Exit.R:=gc n 31 [.dat tWorld a0 [],.dat (.int .i64) a1 [],.dat (.int .i64) a2 []] [.d (.int .i64),.d .bool]
theorem ways_Exit.eq (n:Nat) (a0:(den tWorld)) (a1:Int) (a2:Int):ways_Exit (n+1) a0 a1 a2 =
  if (0:Int)≤a1∧a1<(((List.length (a0.1.1:(List (List Int)))):Nat):Int) then
  if (0:Int)≤a2∧a2<((4:Nat):Int) then
  some (((if (List.getD (List.getD (a0.1.1:(List (List Int))) (Int.toNat a1) (dft (.arr 4 (.int .i64))):(List Int)) (Int.toNat a2) (0:Int):Int)<0 then 0 else (List.getD (List.getD (a0.1.1:(List (List Int))) (Int.toNat a1) (dft (.arr 4 (.int .i64))):(List Int)) (Int.toNat a2) (0:Int):Int)),(decide (0≤(List.getD (List.getD (a0.1.1:(List (List Int))) (Int.toNat a1) (dft (.arr 4 (.int .i64))):(List Int)) (Int.toNat a2) (0:Int):Int))),()),[])
  else none
  else none:=by kernel_rfl
def keys_Sort.res:List Sh:=[.d (.sl tPlace)]
@[reducible] def keys_Sort.R:Type:=dShL [.d (.sl tPlace)]×Fresh
def keys_Sort (n:Nat) (a0:(List (den tPlace))):Option keys_Sort.R:=gc n 32 [.dat (.sl tPlace) a0 []] [.d (.sl tPlace)]
def foot_Of.res:List Sh:=[.d (.sl tPlace)]
@[reducible] def foot_Of.R:Type:=dShL [.d (.sl tPlace)]×Fresh
def foot_Of (n:Nat) (a0:(den tWorld)) (a1:Int) (a2:(den tCmd)):Option foot_Of.R:=gc n 11 [.dat tWorld a0 [],.dat (.int .i64) a1 [],.dat tCmd a2 []] [.d (.sl tPlace)]
theorem foot_Of.eq (n:Nat) (a0:(den tWorld)) (a1:Int) (a2:(den tCmd)):foot_Of (n+1) a0 a1 a2 =
  if (0:Int)≤a1∧a1<(((List.length (a0.2.1:(List Int))):Nat):Int) then
  bif (decide ((a2.1:Int)=1)) then
    bif (decide ((a2.1:Int)=1)) then
      Option.bind (ways_Exit n a0 (List.getD (a0.2.1:(List Int)) (Int.toNat a1) (0:Int):Int) (a2.2.1:Int)) fun r1 =>
      bif (r1.1.2.1:Bool) then
        bif (decide ((a2.1:Int)=2)) then
          bif (decide ((a2.1:Int)=2)) then
            bif (decide (0≤(a2.2.2.2.2.1:Int))) then
              bif (decide ((a2.2.2.2.2.1:Int)<((List.length (a0.2.1:(List Int))):Int))) then
                Option.bind (keys_Sort n ([(0,(List.getD (a0.2.1:(List Int)) (Int.toNat a1) (0:Int):Int),()),(1,a1,()),(0,(r1.1.1:Int),()),(1,(a2.2.2.2.2.1:Int),())]:List (den tPlace))) fun r2 =>
                some (((r2.1.1:(List (den tPlace))),()),[])
              else
                Option.bind (keys_Sort n ([(0,(List.getD (a0.2.1:(List Int)) (Int.toNat a1) (0:Int):Int),()),(1,a1,()),(0,(r1.1.1:Int),())]:List (den tPlace))) fun r3 =>
                some (((r3.1.1:(List (den tPlace))),()),[])
            else
              Option.bind (keys_Sort n ([(0,(List.getD (a0.2.1:(List Int)) (Int.toNat a1) (0:Int):Int),()),(1,a1,()),(0,(r1.1.1:Int),())]:List (den tPlace))) fun r4 =>
              some (((r4.1.1:(List (den tPlace))),()),[])
          else
            Option.bind (keys_Sort n ([(0,(List.getD (a0.2.1:(List Int)) (Int.toNat a1) (0:Int):Int),()),(1,a1,()),(0,(r1.1.1:Int),())]:List (den tPlace))) fun r5 =>
            some (((r5.1.1:(List (den tPlace))),()),[])
        else
          bif (decide ((a2.1:Int)=7)) then
            bif (decide ((a2.1:Int)=7)) then
              bif (decide (0≤(a2.2.2.2.2.1:Int))) then
                bif (decide ((a2.2.2.2.2.1:Int)<((List.length (a0.2.1:(List Int))):Int))) then
                  Option.bind (keys_Sort n ([(0,(List.getD (a0.2.1:(List Int)) (Int.toNat a1) (0:Int):Int),()),(1,a1,()),(0,(r1.1.1:Int),()),(1,(a2.2.2.2.2.1:Int),())]:List (den tPlace))) fun r6 =>
                  some (((r6.1.1:(List (den tPlace))),()),[])
                else
                  Option.bind (keys_Sort n ([(0,(List.getD (a0.2.1:(List Int)) (Int.toNat a1) (0:Int):Int),()),(1,a1,()),(0,(r1.1.1:Int),())]:List (den tPlace))) fun r7 =>
                  some (((r7.1.1:(List (den tPlace))),()),[])
              else
                Option.bind (keys_Sort n ([(0,(List.getD (a0.2.1:(List Int)) (Int.toNat a1) (0:Int):Int),()),(1,a1,()),(0,(r1.1.1:Int),())]:List (den tPlace))) fun r8 =>
                some (((r8.1.1:(List (den tPlace))),()),[])
            else
              Option.bind (keys_Sort n ([(0,(List.getD (a0.2.1:(List Int)) (Int.toNat a1) (0:Int):Int),()),(1,a1,()),(0,(r1.1.1:Int),())]:List (den tPlace))) fun r9 =>
              some (((r9.1.1:(List (den tPlace))),()),[])
          else
            bif (decide ((a2.1:Int)=8)) then
              bif (decide (0≤(a2.2.2.2.2.1:Int))) then
                bif (decide ((a2.2.2.2.2.1:Int)<((List.length (a0.2.1:(List Int))):Int))) then
                  Option.bind (keys_Sort n ([(0,(List.getD (a0.2.1:(List Int)) (Int.toNat a1) (0:Int):Int),()),(1,a1,()),(0,(r1.1.1:Int),()),(1,(a2.2.2.2.2.1:Int),())]:List (den tPlace))) fun r10 =>
                  some (((r10.1.1:(List (den tPlace))),()),[])
                else
                  Option.bind (keys_Sort n ([(0,(List.getD (a0.2.1:(List Int)) (Int.toNat a1) (0:Int):Int),()),(1,a1,()),(0,(r1.1.1:Int),())]:List (den tPlace))) fun r11 =>
                  some (((r11.1.1:(List (den tPlace))),()),[])
              else
                Option.bind (keys_Sort n ([(0,(List.getD (a0.2.1:(List Int)) (Int.toNat a1) (0:Int):Int),()),(1,a1,()),(0,(r1.1.1:Int),())]:List (den tPlace))) fun r12 =>
                some (((r12.1.1:(List (den tPlace))),()),[])
            else
              Option.bind (keys_Sort n ([(0,(List.getD (a0.2.1:(List Int)) (Int.toNat a1) (0:Int):Int),()),(1,a1,()),(0,(r1.1.1:Int),())]:List (den tPlace))) fun r13 =>
              some (((r13.1.1:(List (den tPlace))),()),[])
      else
        bif (decide ((a2.1:Int)=2)) then
          bif (decide ((a2.1:Int)=2)) then
            bif (decide (0≤(a2.2.2.2.2.1:Int))) then
              bif (decide ((a2.2.2.2.2.1:Int)<((List.length (a0.2.1:(List Int))):Int))) then
                Option.bind (keys_Sort n ([(0,(List.getD (a0.2.1:(List Int)) (Int.toNat a1) (0:Int):Int),()),(1,a1,()),(1,(a2.2.2.2.2.1:Int),())]:List (den tPlace))) fun r14 =>
                some (((r14.1.1:(List (den tPlace))),()),[])
              else
                Option.bind (keys_Sort n ([(0,(List.getD (a0.2.1:(List Int)) (Int.toNat a1) (0:Int):Int),()),(1,a1,())]:List (den tPlace))) fun r15 =>
                some (((r15.1.1:(List (den tPlace))),()),[])
            else
              Option.bind (keys_Sort n ([(0,(List.getD (a0.2.1:(List Int)) (Int.toNat a1) (0:Int):Int),()),(1,a1,())]:List (den tPlace))) fun r16 =>
              some (((r16.1.1:(List (den tPlace))),()),[])
          else
            Option.bind (keys_Sort n ([(0,(List.getD (a0.2.1:(List Int)) (Int.toNat a1) (0:Int):Int),()),(1,a1,())]:List (den tPlace))) fun r17 =>
            some (((r17.1.1:(List (den tPlace))),()),[])
        else
          bif (decide ((a2.1:Int)=7)) then
            bif (decide ((a2.1:Int)=7)) then
              bif (decide (0≤(a2.2.2.2.2.1:Int))) then
                bif (decide ((a2.2.2.2.2.1:Int)<((List.length (a0.2.1:(List Int))):Int))) then
                  Option.bind (keys_Sort n ([(0,(List.getD (a0.2.1:(List Int)) (Int.toNat a1) (0:Int):Int),()),(1,a1,()),(1,(a2.2.2.2.2.1:Int),())]:List (den tPlace))) fun r18 =>
                  some (((r18.1.1:(List (den tPlace))),()),[])
                else
                  Option.bind (keys_Sort n ([(0,(List.getD (a0.2.1:(List Int)) (Int.toNat a1) (0:Int):Int),()),(1,a1,())]:List (den tPlace))) fun r19 =>
                  some (((r19.1.1:(List (den tPlace))),()),[])
              else
                Option.bind (keys_Sort n ([(0,(List.getD (a0.2.1:(List Int)) (Int.toNat a1) (0:Int):Int),()),(1,a1,())]:List (den tPlace))) fun r20 =>
                some (((r20.1.1:(List (den tPlace))),()),[])
            else
              Option.bind (keys_Sort n ([(0,(List.getD (a0.2.1:(List Int)) (Int.toNat a1) (0:Int):Int),()),(1,a1,())]:List (den tPlace))) fun r21 =>
              some (((r21.1.1:(List (den tPlace))),()),[])
          else
            bif (decide ((a2.1:Int)=8)) then
              bif (decide (0≤(a2.2.2.2.2.1:Int))) then
                bif (decide ((a2.2.2.2.2.1:Int)<((List.length (a0.2.1:(List Int))):Int))) then
                  Option.bind (keys_Sort n ([(0,(List.getD (a0.2.1:(List Int)) (Int.toNat a1) (0:Int):Int),()),(1,a1,()),(1,(a2.2.2.2.2.1:Int),())]:List (den tPlace))) fun r22 =>
                  some (((r22.1.1:(List (den tPlace))),()),[])
                else
                  Option.bind (keys_Sort n ([(0,(List.getD (a0.2.1:(List Int)) (Int.toNat a1) (0:Int):Int),()),(1,a1,())]:List (den tPlace))) fun r23 =>
                  some (((r23.1.1:(List (den tPlace))),()),[])
              else
                Option.bind (keys_Sort n ([(0,(List.getD (a0.2.1:(List Int)) (Int.toNat a1) (0:Int):Int),()),(1,a1,())]:List (den tPlace))) fun r24 =>
                some (((r24.1.1:(List (den tPlace))),()),[])
            else
              Option.bind (keys_Sort n ([(0,(List.getD (a0.2.1:(List Int)) (Int.toNat a1) (0:Int):Int),()),(1,a1,())]:List (den tPlace))) fun r25 =>
              some (((r25.1.1:(List (den tPlace))),()),[])
    else
      bif (decide ((a2.1:Int)=2)) then
        bif (decide ((a2.1:Int)=2)) then
          bif (decide (0≤(a2.2.2.2.2.1:Int))) then
            bif (decide ((a2.2.2.2.2.1:Int)<((List.length (a0.2.1:(List Int))):Int))) then
              Option.bind (keys_Sort n ([(0,(List.getD (a0.2.1:(List Int)) (Int.toNat a1) (0:Int):Int),()),(1,a1,()),(1,(a2.2.2.2.2.1:Int),())]:List (den tPlace))) fun r26 =>
              some (((r26.1.1:(List (den tPlace))),()),[])
            else
              Option.bind (keys_Sort n ([(0,(List.getD (a0.2.1:(List Int)) (Int.toNat a1) (0:Int):Int),()),(1,a1,())]:List (den tPlace))) fun r27 =>
              some (((r27.1.1:(List (den tPlace))),()),[])
          else
            Option.bind (keys_Sort n ([(0,(List.getD (a0.2.1:(List Int)) (Int.toNat a1) (0:Int):Int),()),(1,a1,())]:List (den tPlace))) fun r28 =>
            some (((r28.1.1:(List (den tPlace))),()),[])
        else
          Option.bind (keys_Sort n ([(0,(List.getD (a0.2.1:(List Int)) (Int.toNat a1) (0:Int):Int),()),(1,a1,())]:List (den tPlace))) fun r29 =>
          some (((r29.1.1:(List (den tPlace))),()),[])
      else
        bif (decide ((a2.1:Int)=7)) then
          bif (decide ((a2.1:Int)=7)) then
            bif (decide (0≤(a2.2.2.2.2.1:Int))) then
              bif (decide ((a2.2.2.2.2.1:Int)<((List.length (a0.2.1:(List Int))):Int))) then
                Option.bind (keys_Sort n ([(0,(List.getD (a0.2.1:(List Int)) (Int.toNat a1) (0:Int):Int),()),(1,a1,()),(1,(a2.2.2.2.2.1:Int),())]:List (den tPlace))) fun r30 =>
                some (((r30.1.1:(List (den tPlace))),()),[])
              else
                Option.bind (keys_Sort n ([(0,(List.getD (a0.2.1:(List Int)) (Int.toNat a1) (0:Int):Int),()),(1,a1,())]:List (den tPlace))) fun r31 =>
                some (((r31.1.1:(List (den tPlace))),()),[])
            else
              Option.bind (keys_Sort n ([(0,(List.getD (a0.2.1:(List Int)) (Int.toNat a1) (0:Int):Int),()),(1,a1,())]:List (den tPlace))) fun r32 =>
              some (((r32.1.1:(List (den tPlace))),()),[])
          else
            Option.bind (keys_Sort n ([(0,(List.getD (a0.2.1:(List Int)) (Int.toNat a1) (0:Int):Int),()),(1,a1,())]:List (den tPlace))) fun r33 =>
            some (((r33.1.1:(List (den tPlace))),()),[])
        else
          bif (decide ((a2.1:Int)=8)) then
            bif (decide (0≤(a2.2.2.2.2.1:Int))) then
              bif (decide ((a2.2.2.2.2.1:Int)<((List.length (a0.2.1:(List Int))):Int))) then
                Option.bind (keys_Sort n ([(0,(List.getD (a0.2.1:(List Int)) (Int.toNat a1) (0:Int):Int),()),(1,a1,()),(1,(a2.2.2.2.2.1:Int),())]:List (den tPlace))) fun r34 =>
                some (((r34.1.1:(List (den tPlace))),()),[])
              else
                Option.bind (keys_Sort n ([(0,(List.getD (a0.2.1:(List Int)) (Int.toNat a1) (0:Int):Int),()),(1,a1,())]:List (den tPlace))) fun r35 =>
                some (((r35.1.1:(List (den tPlace))),()),[])
            else
              Option.bind (keys_Sort n ([(0,(List.getD (a0.2.1:(List Int)) (Int.toNat a1) (0:Int):Int),()),(1,a1,())]:List (den tPlace))) fun r36 =>
              some (((r36.1.1:(List (den tPlace))),()),[])
          else
            Option.bind (keys_Sort n ([(0,(List.getD (a0.2.1:(List Int)) (Int.toNat a1) (0:Int):Int),()),(1,a1,())]:List (den tPlace))) fun r37 =>
            some (((r37.1.1:(List (den tPlace))),()),[])
  else
    bif (decide ((a2.1:Int)=2)) then
      Option.bind (ways_Exit n a0 (List.getD (a0.2.1:(List Int)) (Int.toNat a1) (0:Int):Int) (a2.2.1:Int)) fun r38 =>
      bif (r38.1.2.1:Bool) then
        bif (decide ((a2.1:Int)=2)) then
          bif (decide ((a2.1:Int)=2)) then
            bif (decide (0≤(a2.2.2.2.2.1:Int))) then
              bif (decide ((a2.2.2.2.2.1:Int)<((List.length (a0.2.1:(List Int))):Int))) then
                Option.bind (keys_Sort n ([(0,(List.getD (a0.2.1:(List Int)) (Int.toNat a1) (0:Int):Int),()),(1,a1,()),(0,(r38.1.1:Int),()),(1,(a2.2.2.2.2.1:Int),())]:List (den tPlace))) fun r39 =>
                some (((r39.1.1:(List (den tPlace))),()),[])
              else
                Option.bind (keys_Sort n ([(0,(List.getD (a0.2.1:(List Int)) (Int.toNat a1) (0:Int):Int),()),(1,a1,()),(0,(r38.1.1:Int),())]:List (den tPlace))) fun r40 =>
                some (((r40.1.1:(List (den tPlace))),()),[])
            else
              Option.bind (keys_Sort n ([(0,(List.getD (a0.2.1:(List Int)) (Int.toNat a1) (0:Int):Int),()),(1,a1,()),(0,(r38.1.1:Int),())]:List (den tPlace))) fun r41 =>
              some (((r41.1.1:(List (den tPlace))),()),[])
          else
            Option.bind (keys_Sort n ([(0,(List.getD (a0.2.1:(List Int)) (Int.toNat a1) (0:Int):Int),()),(1,a1,()),(0,(r38.1.1:Int),())]:List (den tPlace))) fun r42 =>
            some (((r42.1.1:(List (den tPlace))),()),[])
        else
          bif (decide ((a2.1:Int)=7)) then
            bif (decide ((a2.1:Int)=7)) then
              bif (decide (0≤(a2.2.2.2.2.1:Int))) then
                bif (decide ((a2.2.2.2.2.1:Int)<((List.length (a0.2.1:(List Int))):Int))) then
                  Option.bind (keys_Sort n ([(0,(List.getD (a0.2.1:(List Int)) (Int.toNat a1) (0:Int):Int),()),(1,a1,()),(0,(r38.1.1:Int),()),(1,(a2.2.2.2.2.1:Int),())]:List (den tPlace))) fun r43 =>
                  some (((r43.1.1:(List (den tPlace))),()),[])
                else
                  Option.bind (keys_Sort n ([(0,(List.getD (a0.2.1:(List Int)) (Int.toNat a1) (0:Int):Int),()),(1,a1,()),(0,(r38.1.1:Int),())]:List (den tPlace))) fun r44 =>
                  some (((r44.1.1:(List (den tPlace))),()),[])
              else
                Option.bind (keys_Sort n ([(0,(List.getD (a0.2.1:(List Int)) (Int.toNat a1) (0:Int):Int),()),(1,a1,()),(0,(r38.1.1:Int),())]:List (den tPlace))) fun r45 =>
                some (((r45.1.1:(List (den tPlace))),()),[])
            else
              Option.bind (keys_Sort n ([(0,(List.getD (a0.2.1:(List Int)) (Int.toNat a1) (0:Int):Int),()),(1,a1,()),(0,(r38.1.1:Int),())]:List (den tPlace))) fun r46 =>
              some (((r46.1.1:(List (den tPlace))),()),[])
          else
            bif (decide ((a2.1:Int)=8)) then
              bif (decide (0≤(a2.2.2.2.2.1:Int))) then
                bif (decide ((a2.2.2.2.2.1:Int)<((List.length (a0.2.1:(List Int))):Int))) then
                  Option.bind (keys_Sort n ([(0,(List.getD (a0.2.1:(List Int)) (Int.toNat a1) (0:Int):Int),()),(1,a1,()),(0,(r38.1.1:Int),()),(1,(a2.2.2.2.2.1:Int),())]:List (den tPlace))) fun r47 =>
                  some (((r47.1.1:(List (den tPlace))),()),[])
                else
                  Option.bind (keys_Sort n ([(0,(List.getD (a0.2.1:(List Int)) (Int.toNat a1) (0:Int):Int),()),(1,a1,()),(0,(r38.1.1:Int),())]:List (den tPlace))) fun r48 =>
                  some (((r48.1.1:(List (den tPlace))),()),[])
              else
                Option.bind (keys_Sort n ([(0,(List.getD (a0.2.1:(List Int)) (Int.toNat a1) (0:Int):Int),()),(1,a1,()),(0,(r38.1.1:Int),())]:List (den tPlace))) fun r49 =>
                some (((r49.1.1:(List (den tPlace))),()),[])
            else
              Option.bind (keys_Sort n ([(0,(List.getD (a0.2.1:(List Int)) (Int.toNat a1) (0:Int):Int),()),(1,a1,()),(0,(r38.1.1:Int),())]:List (den tPlace))) fun r50 =>
              some (((r50.1.1:(List (den tPlace))),()),[])
      else
        bif (decide ((a2.1:Int)=2)) then
          bif (decide ((a2.1:Int)=2)) then
            bif (decide (0≤(a2.2.2.2.2.1:Int))) then
              bif (decide ((a2.2.2.2.2.1:Int)<((List.length (a0.2.1:(List Int))):Int))) then
                Option.bind (keys_Sort n ([(0,(List.getD (a0.2.1:(List Int)) (Int.toNat a1) (0:Int):Int),()),(1,a1,()),(1,(a2.2.2.2.2.1:Int),())]:List (den tPlace))) fun r51 =>
                some (((r51.1.1:(List (den tPlace))),()),[])
              else
                Option.bind (keys_Sort n ([(0,(List.getD (a0.2.1:(List Int)) (Int.toNat a1) (0:Int):Int),()),(1,a1,())]:List (den tPlace))) fun r52 =>
                some (((r52.1.1:(List (den tPlace))),()),[])
            else
              Option.bind (keys_Sort n ([(0,(List.getD (a0.2.1:(List Int)) (Int.toNat a1) (0:Int):Int),()),(1,a1,())]:List (den tPlace))) fun r53 =>
              some (((r53.1.1:(List (den tPlace))),()),[])
          else
            Option.bind (keys_Sort n ([(0,(List.getD (a0.2.1:(List Int)) (Int.toNat a1) (0:Int):Int),()),(1,a1,())]:List (den tPlace))) fun r54 =>
            some (((r54.1.1:(List (den tPlace))),()),[])
        else
          bif (decide ((a2.1:Int)=7)) then
            bif (decide ((a2.1:Int)=7)) then
              bif (decide (0≤(a2.2.2.2.2.1:Int))) then
                bif (decide ((a2.2.2.2.2.1:Int)<((List.length (a0.2.1:(List Int))):Int))) then
                  Option.bind (keys_Sort n ([(0,(List.getD (a0.2.1:(List Int)) (Int.toNat a1) (0:Int):Int),()),(1,a1,()),(1,(a2.2.2.2.2.1:Int),())]:List (den tPlace))) fun r55 =>
                  some (((r55.1.1:(List (den tPlace))),()),[])
                else
                  Option.bind (keys_Sort n ([(0,(List.getD (a0.2.1:(List Int)) (Int.toNat a1) (0:Int):Int),()),(1,a1,())]:List (den tPlace))) fun r56 =>
                  some (((r56.1.1:(List (den tPlace))),()),[])
              else
                Option.bind (keys_Sort n ([(0,(List.getD (a0.2.1:(List Int)) (Int.toNat a1) (0:Int):Int),()),(1,a1,())]:List (den tPlace))) fun r57 =>
                some (((r57.1.1:(List (den tPlace))),()),[])
            else
              Option.bind (keys_Sort n ([(0,(List.getD (a0.2.1:(List Int)) (Int.toNat a1) (0:Int):Int),()),(1,a1,())]:List (den tPlace))) fun r58 =>
              some (((r58.1.1:(List (den tPlace))),()),[])
          else
            bif (decide ((a2.1:Int)=8)) then
              bif (decide (0≤(a2.2.2.2.2.1:Int))) then
                bif (decide ((a2.2.2.2.2.1:Int)<((List.length (a0.2.1:(List Int))):Int))) then
                  Option.bind (keys_Sort n ([(0,(List.getD (a0.2.1:(List Int)) (Int.toNat a1) (0:Int):Int),()),(1,a1,()),(1,(a2.2.2.2.2.1:Int),())]:List (den tPlace))) fun r59 =>
                  some (((r59.1.1:(List (den tPlace))),()),[])
                else
                  Option.bind (keys_Sort n ([(0,(List.getD (a0.2.1:(List Int)) (Int.toNat a1) (0:Int):Int),()),(1,a1,())]:List (den tPlace))) fun r60 =>
                  some (((r60.1.1:(List (den tPlace))),()),[])
              else
                Option.bind (keys_Sort n ([(0,(List.getD (a0.2.1:(List Int)) (Int.toNat a1) (0:Int):Int),()),(1,a1,())]:List (den tPlace))) fun r61 =>
                some (((r61.1.1:(List (den tPlace))),()),[])
            else
              Option.bind (keys_Sort n ([(0,(List.getD (a0.2.1:(List Int)) (Int.toNat a1) (0:Int):Int),()),(1,a1,())]:List (den tPlace))) fun r62 =>
              some (((r62.1.1:(List (den tPlace))),()),[])
    else
      bif (decide ((a2.1:Int)=2)) then
        bif (decide ((a2.1:Int)=2)) then
          bif (decide (0≤(a2.2.2.2.2.1:Int))) then
            bif (decide ((a2.2.2.2.2.1:Int)<((List.length (a0.2.1:(List Int))):Int))) then
              Option.bind (keys_Sort n ([(0,(List.getD (a0.2.1:(List Int)) (Int.toNat a1) (0:Int):Int),()),(1,a1,()),(1,(a2.2.2.2.2.1:Int),())]:List (den tPlace))) fun r63 =>
              some (((r63.1.1:(List (den tPlace))),()),[])
            else
              Option.bind (keys_Sort n ([(0,(List.getD (a0.2.1:(List Int)) (Int.toNat a1) (0:Int):Int),()),(1,a1,())]:List (den tPlace))) fun r64 =>
              some (((r64.1.1:(List (den tPlace))),()),[])
          else
            Option.bind (keys_Sort n ([(0,(List.getD (a0.2.1:(List Int)) (Int.toNat a1) (0:Int):Int),()),(1,a1,())]:List (den tPlace))) fun r65 =>
            some (((r65.1.1:(List (den tPlace))),()),[])
        else
          Option.bind (keys_Sort n ([(0,(List.getD (a0.2.1:(List Int)) (Int.toNat a1) (0:Int):Int),()),(1,a1,())]:List (den tPlace))) fun r66 =>
          some (((r66.1.1:(List (den tPlace))),()),[])
      else
        bif (decide ((a2.1:Int)=7)) then
          bif (decide ((a2.1:Int)=7)) then
            bif (decide (0≤(a2.2.2.2.2.1:Int))) then
              bif (decide ((a2.2.2.2.2.1:Int)<((List.length (a0.2.1:(List Int))):Int))) then
                Option.bind (keys_Sort n ([(0,(List.getD (a0.2.1:(List Int)) (Int.toNat a1) (0:Int):Int),()),(1,a1,()),(1,(a2.2.2.2.2.1:Int),())]:List (den tPlace))) fun r67 =>
                some (((r67.1.1:(List (den tPlace))),()),[])
              else
                Option.bind (keys_Sort n ([(0,(List.getD (a0.2.1:(List Int)) (Int.toNat a1) (0:Int):Int),()),(1,a1,())]:List (den tPlace))) fun r68 =>
                some (((r68.1.1:(List (den tPlace))),()),[])
            else
              Option.bind (keys_Sort n ([(0,(List.getD (a0.2.1:(List Int)) (Int.toNat a1) (0:Int):Int),()),(1,a1,())]:List (den tPlace))) fun r69 =>
              some (((r69.1.1:(List (den tPlace))),()),[])
          else
            Option.bind (keys_Sort n ([(0,(List.getD (a0.2.1:(List Int)) (Int.toNat a1) (0:Int):Int),()),(1,a1,())]:List (den tPlace))) fun r70 =>
            some (((r70.1.1:(List (den tPlace))),()),[])
        else
          bif (decide ((a2.1:Int)=8)) then
            bif (decide (0≤(a2.2.2.2.2.1:Int))) then
              bif (decide ((a2.2.2.2.2.1:Int)<((List.length (a0.2.1:(List Int))):Int))) then
                Option.bind (keys_Sort n ([(0,(List.getD (a0.2.1:(List Int)) (Int.toNat a1) (0:Int):Int),()),(1,a1,()),(1,(a2.2.2.2.2.1:Int),())]:List (den tPlace))) fun r71 =>
                some (((r71.1.1:(List (den tPlace))),()),[])
              else
                Option.bind (keys_Sort n ([(0,(List.getD (a0.2.1:(List Int)) (Int.toNat a1) (0:Int):Int),()),(1,a1,())]:List (den tPlace))) fun r72 =>
                some (((r72.1.1:(List (den tPlace))),()),[])
            else
              Option.bind (keys_Sort n ([(0,(List.getD (a0.2.1:(List Int)) (Int.toNat a1) (0:Int):Int),()),(1,a1,())]:List (den tPlace))) fun r73 =>
              some (((r73.1.1:(List (den tPlace))),()),[])
          else
            Option.bind (keys_Sort n ([(0,(List.getD (a0.2.1:(List Int)) (Int.toNat a1) (0:Int):Int),()),(1,a1,())]:List (den tPlace))) fun r74 =>
            some (((r74.1.1:(List (den tPlace))),()),[])
  else none:=by kernel_rfl
def innkeepref14_Same.res:List Sh:=[.d .bool]
@[reducible] def innkeepref14_Same.R:Type:=dShL [.d .bool]×Fresh
def innkeepref14_Same (n:Nat) (a0:(List (den tPlace))) (a1:(List (den tPlace))):Option innkeepref14_Same.R:=gc n 10 [.dat (.sl tPlace) a0 [],.dat (.sl tPlace) a1 []] [.d .bool]
def innkeepref14_Same.l0 (n m0:Nat) (t0:(List (den tPlace))) (t1:(List (den tPlace))) (t4:Bool) (t5:Int):Option innkeepref14_Same.R :=
  lpN n c10_9 m0 (kBlk 0 (kSeq (run (gc n) n) c10_7 (retK innkeepref14_Same.fn innkeepref14_Same.res) (retK innkeepref14_Same.fn innkeepref14_Same.res)) (retK innkeepref14_Same.fn innkeepref14_Same.res))
    [(0,.dat (.sl tPlace) t0 []),(1,.dat (.sl tPlace) t1 []),(4,.dat .bool t4 []),(5,.dat (.int .i64) t5 [])]
    []
theorem innkeepref14_Same.l0_eq (n m0:Nat) (t0:(List (den tPlace))) (t1:(List (den tPlace))) (t4:Bool) (t5:Int):innkeepref14_Same.l0 n (m0+1) t0 t1 t4 t5 =
  bif (decide (t5<((List.length t0):Int))) then
    if (0:Int)≤t5∧t5<(((List.length t0):Nat):Int) then
    if (0:Int)≤t5∧t5<(((List.length t1):Nat):Int) then
    bif (!(eqT tPlace (List.getD t0 (Int.toNat t5) (dft tPlace):(den tPlace)) (List.getD t1 (Int.toNat t5) (dft tPlace):(den tPlace)))) then
      some ((false,()),[])
    else
      innkeepref14_Same.l0 n m0 t0 t1 t4 (IntKind.wrap .i64 (t5+1))
    else none
    else none
  else
    some ((true,()),[]):=by kernel_rfl
theorem innkeepref14_Same.eq (n:Nat) (a0:(List (den tPlace))) (a1:(List (den tPlace))):innkeepref14_Same (n+1) a0 a1 =
  bif (!(decide (((List.length a0):Int)=((List.length a1):Int)))) then
    some ((false,()),[])
  else
    innkeepref14_Same.l0 n n a0 a1 false 0:=by kernel_rfl
def slices_Index_sapi_Key_api_Key.res:List Sh:=[.d (.int .i64)]
@[reducible] def slices_Index_sapi_Key_api_Key.R:Type:=dShL [.d (.int .i64)]×Fresh
def slices_Index_sapi_Key_api_Key (n:Nat) (a0:(List (den tPlace))) (a1:(den tPlace)):Option slices_Index_sapi_Key_api_Key.R:=gc n 57 [.dat (.sl tPlace) a0 [],.dat tPlace a1 []] [.d (.int .i64)]
def slices_Index_sapi_Key_api_Key.l0 (n m0:Nat) (t0:(List (den tPlace))) (t1:(den tPlace)) (t4:Int) (t7:Int) (t8:Int) (o0:(den tPlace)):Option slices_Index_sapi_Key_api_Key.R :=
  lpN n c57_4 m0 (kBlk 0 (kSeq (run (gc n) n) c57_1 (retK slices_Index_sapi_Key_api_Key.fn slices_Index_sapi_Key_api_Key.res) (retK slices_Index_sapi_Key_api_Key.fn slices_Index_sapi_Key_api_Key.res)) (retK slices_Index_sapi_Key_api_Key.fn slices_Index_sapi_Key_api_Key.res))
    [(0,.dat (.sl tPlace) t0 []),(1,.dat tPlace t1 []),(3,.ptr 0 []),(4,.dat (.int .i64) t4 []),(7,.dat (.int .i64) t7 []),(8,.dat (.int .i64) t8 [])]
    [.box tPlace o0 []]
theorem slices_Index_sapi_Key_api_Key.l0_eq (n m0:Nat) (t0:(List (den tPlace))) (t1:(den tPlace)) (t4:Int) (t7:Int) (t8:Int) (o0:(den tPlace)):slices_Index_sapi_Key_api_Key.l0 n (m0+1) t0 t1 t4 t7 t8 o0 =
  bif (decide (t8<t7)) then
    if (0:Int)≤t8∧t8<(((List.length t0):Nat):Int) then
    bif (eqT tPlace o0 (List.getD t0 (Int.toNat t8) (dft tPlace):(den tPlace))) then
      some ((t8,()),[])
    else
      slices_Index_sapi_Key_api_Key.l0 n m0 t0 t1 t4 t7 (IntKind.wrap .i64 (t8+1)) o0
    else none
  else
    some (((-1),()),[]):=by kernel_rfl
theorem slices_Index_sapi_Key_api_Key.eq (n:Nat) (a0:(List (den tPlace))) (a1:(den tPlace)):slices_Index_sapi_Key_api_Key (n+1) a0 a1 =
  slices_Index_sapi_Key_api_Key.l0 n n a0 a1 0 ((List.length a0):Int) 0 a1:=by kernel_rfl
def slices_Contains_sapi_Key_api_Key.res:List Sh:=[.d .bool]
@[reducible] def slices_Contains_sapi_Key_api_Key.R:Type:=dShL [.d .bool]×Fresh
def slices_Contains_sapi_Key_api_Key (n:Nat) (a0:(List (den tPlace))) (a1:(den tPlace)):Option slices_Contains_sapi_Key_api_Key.R:=gc n 35 [.dat (.sl tPlace) a0 [],.dat tPlace a1 []] [.d .bool]
theorem slices_Contains_sapi_Key_api_Key.eq (n:Nat) (a0:(List (den tPlace))) (a1:(den tPlace)):slices_Contains_sapi_Key_api_Key (n+1) a0 a1 =
  Option.bind (slices_Index_sapi_Key_api_Key n a0 a1) fun r1 =>
  some (((decide (0≤(r1.1.1:Int))),()),[]):=by kernel_rfl
def foot_Covers_1.res:List Sh:=[.d .bool]
@[reducible] def foot_Covers_1.R:Type:=dShL [.d .bool]×Fresh
def foot_Covers_1 (n:Nat) (a0:Int) (a1:Int) (a2:(List (den tPlace))):Option foot_Covers_1.R:=gc n 34 [.dat (.int .i64) a0 [],.dat (.int .i64) a1 [],.ref (.sl tPlace) a2] [.d .bool]
theorem foot_Covers_1.eq (n:Nat) (a0:Int) (a1:Int) (a2:(List (den tPlace))):foot_Covers_1 (n+1) a0 a1 a2 =
  Option.bind (slices_Contains_sapi_Key_api_Key n a2 (a0,a1,())) fun r1 =>
  some (((r1.1.1:Bool),()),[]):=by kernel_rfl
def tree_up.res:List Sh:=[.clo 65 [.ref tWorld,.ref (.int .i64)]]
@[reducible] def tree_up.R:Type:=dShL [.clo 65 [.ref tWorld,.ref (.int .i64)]]×Fresh
def tree_up (n:Nat) (a0:(den tWorld)) (a1:Int):Option tree_up.R:=gc n 59 [.dat tWorld a0 [],.dat (.int .i64) a1 []] [.clo 65 [.ref tWorld,.ref (.int .i64)]]
theorem tree_up.eq (n:Nat) (a0:(den tWorld)) (a1:Int):tree_up (n+1) a0 a1 =
  some (((a0,a1,()),()),[]):=by kernel_rfl
def slices_Collect_api_Place.res:List Sh:=[.d (.sl tPlace)]
@[reducible] def slices_Collect_api_Place.R:Type:=dShL [.d (.sl tPlace)]×Fresh
def slices_Collect_api_Place (n:Nat) (a0:(den tWorld)) (a1:Int):Option slices_Collect_api_Place.R:=gc n 58 [.clo 65 [.ref tWorld a0,.ref (.int .i64) a1]] [.d (.sl tPlace)]
def tree_Root.res:List Sh:=[.d tPlace]
@[reducible] def tree_Root.R:Type:=dShL [.d tPlace]×Fresh
def tree_Root (n:Nat) (a0:(den tWorld)) (a1:Int):Option tree_Root.R:=gc n 36 [.dat tWorld a0 [],.dat (.int .i64) a1 []] [.d tPlace]
theorem tree_Root.eq (n:Nat) (a0:(den tWorld)) (a1:Int):tree_Root (n+1) a0 a1 =
  Option.bind (tree_up n a0 a1) fun r1 =>
  Option.bind (slices_Collect_api_Place n r1.1.1.1 (r1.1.1.2.1:Int)) fun r2 =>
  if (0:Int)≤(IntKind.wrap .i64 (((List.length (r2.1.1:(List (den tPlace)))):Int) - 1))∧(IntKind.wrap .i64 (((List.length (r2.1.1:(List (den tPlace)))):Int) - 1))<(((List.length (r2.1.1:(List (den tPlace)))):Nat):Int) then
  some (((List.getD (r2.1.1:(List (den tPlace))) (Int.toNat (IntKind.wrap .i64 (((List.length (r2.1.1:(List (den tPlace)))):Int) - 1))) (dft tPlace):(den tPlace)),()),[])
  else none:=by kernel_rfl
def foot_Covers.res:List Sh:=[.d .bool]
@[reducible] def foot_Covers.R:Type:=dShL [.d .bool]×Fresh
def foot_Covers (n:Nat) (a0:(List (den tPlace))) (a1:(den tWorld)) (a2:(den tWorld)):Option foot_Covers.R:=gc n 13 [.dat (.sl tPlace) a0 [],.dat tWorld a1 [],.dat tWorld a2 []] [.d .bool]
def foot_Covers.l0 (n m0:Nat) (t0:(List (den tPlace))) (t1:(den tWorld)) (t2:(den tWorld)) (t6:Bool) (t15:Int) (t16:Int) (o0:(List (den tPlace))) (o1:(den tWorld)) (o2:(den tWorld)):Option foot_Covers.R :=
  lpN n c13_6 m0 (kBlk 0 (kSeq (run (gc n) n) c13_3 (retK foot_Covers.fn foot_Covers.res) (retK foot_Covers.fn foot_Covers.res)) (retK foot_Covers.fn foot_Covers.res))
    [(0,.dat (.sl tPlace) t0 []),(1,.dat tWorld t1 []),(2,.dat tWorld t2 []),(3,.ptr 0 []),(4,.ptr 1 []),(5,.ptr 2 []),(6,.dat .bool t6 []),(7,.clo 34 [.ptr 0 []]),(15,.dat (.int .i64) t15 []),(16,.dat (.int .i64) t16 [])]
    [.box (.sl tPlace) o0 [],.box tWorld o1 [],.box tWorld o2 []]
def foot_Covers.l1 (n m0:Nat) (t0_1:(List (den tPlace))) (t1_1:(den tWorld)) (t2_1:(den tWorld)) (t6_1:Bool) (t15_1:Int) (t16_1:Int) (t52_1:Int) (t53_1:Int) (o0_1:(List (den tPlace))) (o1_1:(den tWorld)) (o2_1:(den tWorld)):Option foot_Covers.R :=
  lpN n c13_24 m0 (kBlk 2 (kSeq (run (gc n) n) c13_21 (retK foot_Covers.fn foot_Covers.res) (retK foot_Covers.fn foot_Covers.res)) (retK foot_Covers.fn foot_Covers.res))
    [(0,.dat (.sl tPlace) t0_1 []),(1,.dat tWorld t1_1 []),(2,.dat tWorld t2_1 []),(3,.ptr 0 []),(4,.ptr 1 []),(5,.ptr 2 []),(6,.dat .bool t6_1 []),(7,.clo 34 [.ptr 0 []]),(15,.dat (.int .i64) t15_1 []),(16,.dat (.int .i64) t16_1 []),(52,.dat (.int .i64) t52_1 []),(53,.dat (.int .i64) t53_1 [])]
    [.box (.sl tPlace) o0_1 [],.box tWorld o1_1 [],.box tWorld o2_1 []]
theorem foot_Covers.l0_eq (n m0:Nat) (t0:(List (den tPlace))) (t1:(den tWorld)) (t2:(den tWorld)) (t6:Bool) (t15:Int) (t16:Int) (o0:(List (den tPlace))) (o1:(den tWorld)) (o2:(den tWorld)):foot_Covers.l0 n (m0+1) t0 t1 t2 t6 t15 t16 o0 o1 o2 =
  bif (decide (t16<t15)) then
    if (0:Int)≤t16∧t16<(((List.length (o1.2.1:(List Int))):Nat):Int) then
    if (0:Int)≤t16∧t16<(((List.length (o2.2.1:(List Int))):Nat):Int) then
    bif (!(decide ((List.getD (o1.2.1:(List Int)) (Int.toNat t16) (0:Int):Int)=(List.getD (o2.2.1:(List Int)) (Int.toNat t16) (0:Int):Int)))) then
      Option.bind (foot_Covers_1 n 1 t16 o0) fun r1 =>
      bif (!(r1.1.1:Bool)) then
        some ((false,()),[])
      else
        foot_Covers.l0 n m0 t0 t1 t2 t6 t15 (IntKind.wrap .i64 (t16+1)) o0 o1 o2
    else
      if (0:Int)≤t16∧t16<(((List.length (o1.2.2.1:(List Int))):Nat):Int) then
      if (0:Int)≤t16∧t16<(((List.length (o2.2.2.1:(List Int))):Nat):Int) then
      bif (!(decide ((List.getD (o1.2.2.1:(List Int)) (Int.toNat t16) (0:Int):Int)=(List.getD (o2.2.2.1:(List Int)) (Int.toNat t16) (0:Int):Int)))) then
        Option.bind (foot_Covers_1 n 1 t16 o0) fun r2 =>
        bif (!(r2.1.1:Bool)) then
          some ((false,()),[])
        else
          foot_Covers.l0 n m0 t0 t1 t2 t6 t15 (IntKind.wrap .i64 (t16+1)) o0 o1 o2
      else
        foot_Covers.l0 n m0 t0 t1 t2 t6 t15 (IntKind.wrap .i64 (t16+1)) o0 o1 o2
      else none
      else none
    else none
    else none
  else
    foot_Covers.l1 n n t0 t1 t2 t6 t15 t16 ((List.length (o1.2.2.2.1:(List (den tPlace)))):Int) 0 o0 o1 o2:=by kernel_rfl
theorem foot_Covers.l1_eq (n m0:Nat) (t0_1:(List (den tPlace))) (t1_1:(den tWorld)) (t2_1:(den tWorld)) (t6_1:Bool) (t15_1:Int) (t16_1:Int) (t52_1:Int) (t53_1:Int) (o0_1:(List (den tPlace))) (o1_1:(den tWorld)) (o2_1:(den tWorld)):foot_Covers.l1 n (m0+1) t0_1 t1_1 t2_1 t6_1 t15_1 t16_1 t52_1 t53_1 o0_1 o1_1 o2_1 =
  bif (decide (t53_1<t52_1)) then
    Option.bind (tree_Root n o1_1 t53_1) fun r3 =>
    Option.bind (tree_Root n o2_1 t53_1) fun r4 =>
    if (0:Int)≤t53_1∧t53_1<(((List.length (o1_1.2.2.2.1:(List (den tPlace)))):Nat):Int) then
    if (0:Int)≤t53_1∧t53_1<(((List.length (o2_1.2.2.2.1:(List (den tPlace)))):Nat):Int) then
    bif (!(eqT tPlace (List.getD (o1_1.2.2.2.1:(List (den tPlace))) (Int.toNat t53_1) (dft tPlace):(den tPlace)) (List.getD (o2_1.2.2.2.1:(List (den tPlace))) (Int.toNat t53_1) (dft tPlace):(den tPlace)))) then
      Option.bind (foot_Covers_1 n (r3.1.1.1:Int) (r3.1.1.2.1:Int) o0_1) fun r5 =>
      bif (r5.1.1:Bool) then
        Option.bind (foot_Covers_1 n (r4.1.1.1:Int) (r4.1.1.2.1:Int) o0_1) fun r6 =>
        bif (!(r6.1.1:Bool)) then
          some ((false,()),[])
        else
          foot_Covers.l1 n m0 t0_1 t1_1 t2_1 t6_1 t15_1 t16_1 t52_1 (IntKind.wrap .i64 (t53_1+1)) o0_1 o1_1 o2_1
      else
        some ((false,()),[])
    else
      foot_Covers.l1 n m0 t0_1 t1_1 t2_1 t6_1 t15_1 t16_1 t52_1 (IntKind.wrap .i64 (t53_1+1)) o0_1 o1_1 o2_1
    else none
    else none
  else
    some ((true,()),[]):=by kernel_rfl
theorem foot_Covers.eq (n:Nat) (a0:(List (den tPlace))) (a1:(den tWorld)) (a2:(den tWorld)):foot_Covers (n+1) a0 a1 a2 =
  foot_Covers.l0 n n a0 a1 a2 false ((List.length (a1.2.1:(List Int))):Int) 0 a0 a1 a2:=by kernel_rfl
def innkeeplaw16_awake.res:List Sh:=[.d .bool]
@[reducible] def innkeeplaw16_awake.R:Type:=dShL [.d .bool]×Fresh
def innkeeplaw16_awake (n:Nat):Option innkeeplaw16_awake.R:=gc n 5 [] [.d .bool]
theorem innkeeplaw16_awake.eq (n:Nat):innkeeplaw16_awake (n+1) =
  Option.bind (innkeepref06_New n (([([1,(-1),(-1),(-1)]:List Int),([(-1),(-1),0,(-1)]:List Int)]:List (List Int)),([0,0]:List Int),([5,2]:List Int),([0]:List Int),([false]:List Bool),4,2,1,())) fun r1 =>
  Option.bind (innkeepref06_Copied n r1.1.1) fun r2 =>
  bif (keepAll r2.2 [((0,[3]),9)]) then
    if (0:Int)≤0∧0<(((List.length (r2.1.1.2.2.2.1:(List (den tPlace)))):Nat):Int) then
    Option.bind (foot_Of n r1.1.1 0 (9,0,0,0,0,([]:List Int),0,([]:List Int),0,())) fun r3 =>
    Option.bind (innkeepref14_Same n (r3.1.1:(List (den tPlace))) ([(0,0,()),(1,0,())]:List (den tPlace))) fun r4 =>
    bif (r4.1.1:Bool) then
      Option.bind (foot_Of n r1.1.1 0 (2,0,0,0,1,([]:List Int),0,([]:List Int),0,())) fun r5 =>
      Option.bind (innkeepref14_Same n (r5.1.1:(List (den tPlace))) ([(0,0,()),(0,1,()),(1,0,()),(1,1,())]:List (den tPlace))) fun r6 =>
      bif (r6.1.1:Bool) then
        Option.bind (foot_Of n r1.1.1 0 (1,1,0,0,0,([]:List Int),0,([]:List Int),0,())) fun r7 =>
        Option.bind (innkeepref14_Same n (r7.1.1:(List (den tPlace))) ([(0,0,()),(1,0,())]:List (den tPlace))) fun r8 =>
        bif (r8.1.1:Bool) then
          Option.bind (foot_Of n r1.1.1 0 (7,0,0,0,7,([]:List Int),0,([]:List Int),0,())) fun r9 =>
          Option.bind (innkeepref14_Same n (r9.1.1:(List (den tPlace))) ([(0,0,()),(1,0,())]:List (den tPlace))) fun r10 =>
          bif (r10.1.1:Bool) then
            Option.bind (foot_Covers n ([(0,0,()),(1,0,())]:List (den tPlace)) r1.1.1 (r2.1.1.1,(r2.1.1.2.1:(List Int)),(r2.1.1.2.2.1:(List Int)),(List.set (r2.1.1.2.2.2.1:(List (den tPlace))) 0 (1,0,()):(List (den tPlace))),())) fun r11 =>
            bif (r11.1.1:Bool) then
              if (0:Int)≤(0:Int)∧(0:Int)≤(1:Int)∧(1:Int)≤((List.length ([(0,0,()),(1,0,())]:List (den tPlace)):Nat):Int) then
              Option.bind (foot_Covers n (List.drop (Int.toNat (0:Int)) (List.take (Int.toNat (1:Int)) ([(0,0,()),(1,0,())]:List (den tPlace))):(List (den tPlace))) r1.1.1 (r2.1.1.1,(r2.1.1.2.1:(List Int)),(r2.1.1.2.2.1:(List Int)),(List.set (r2.1.1.2.2.2.1:(List (den tPlace))) 0 (1,0,()):(List (den tPlace))),())) fun r12 =>
              bif (!(r12.1.1:Bool)) then
                Option.bind (foot_Covers n ([]:List (den tPlace)) r1.1.1 r1.1.1) fun r13 =>
                some (((r13.1.1:Bool),()),[])
              else
                some ((false,()),[])
              else none
            else
              some ((false,()),[])
          else
            some ((false,()),[])
        else
          some ((false,()),[])
      else
        some ((false,()),[])
    else
      some ((false,()),[])
    else none
  else
    none:=by kernel_rfl
def innkeepref06_Few.res:List Sh:=[.d .bool]
@[reducible] def innkeepref06_Few.R:Type:=dShL [.d .bool]×Fresh
def innkeepref06_Few (n:Nat) (a0:(den tWorld)):Option innkeepref06_Few.R:=gc n 17 [.dat tWorld a0 []] [.d .bool]
theorem innkeepref06_Few.eq (n:Nat) (a0:(den tWorld)):innkeepref06_Few (n+1) a0 =
  bif (decide (((List.length (a0.1.1:(List (List Int)))):Int)≤20)) then
    bif (decide (((List.length (a0.1.2.1:(List Int))):Int)≤20)) then
      bif (decide (((List.length (a0.1.2.2.1:(List Int))):Int)≤20)) then
        bif (decide (((List.length (a0.1.2.2.2.1:(List Int))):Int)≤40)) then
          bif (decide (((List.length (a0.1.2.2.2.2.1:(List Bool))):Int)≤40)) then
            bif (decide (((List.length (a0.2.1:(List Int))):Int)≤40)) then
              bif (decide (((List.length (a0.2.2.1:(List Int))):Int)≤40)) then
                some (((decide (((List.length (a0.2.2.2.1:(List (den tPlace)))):Int)≤40)),()),[])
              else
                some ((false,()),[])
            else
              some ((false,()),[])
          else
            some ((false,()),[])
        else
          some ((false,()),[])
      else
        some ((false,()),[])
    else
      some ((false,()),[])
  else
    some ((false,()),[]):=by kernel_rfl
def innkeepref06_in.res:List Sh:=[.d .bool]
@[reducible] def innkeepref06_in.R:Type:=dShL [.d .bool]×Fresh
def innkeepref06_in (n:Nat) (a0:Int) (a1:Int):Option innkeepref06_in.R:=gc n 40 [.dat (.int .i64) a0 [],.dat (.int .i64) a1 []] [.d .bool]
theorem innkeepref06_in.eq (n:Nat) (a0:Int) (a1:Int):innkeepref06_in (n+1) a0 a1 =
  bif (decide (0≤a0)) then
    some (((decide (a0<a1)),()),[])
  else
    some ((false,()),[]):=by kernel_rfl
def innkeepref01_Is.res:List Sh:=[.d .bool]
@[reducible] def innkeepref01_Is.R:Type:=dShL [.d .bool]×Fresh
def innkeepref01_Is (n:Nat) (a0:Int):Option innkeepref01_Is.R:=gc n 41 [.dat (.int .i64) a0 []] [.d .bool]
theorem innkeepref01_Is.eq (n:Nat) (a0:Int):innkeepref01_Is (n+1) a0 =
  bif (decide (0≤a0)) then
    some (((decide (a0≤1073741824)),()),[])
  else
    some ((false,()),[]):=by kernel_rfl
def innkeepref06_May.res:List Sh:=[.d .bool]
@[reducible] def innkeepref06_May.R:Type:=dShL [.d .bool]×Fresh
def innkeepref06_May (n:Nat) (a0:(den tDesc)):Option innkeepref06_May.R:=gc n 39 [.dat tDesc a0 []] [.d .bool]
def innkeepref06_May.l0 (n m0:Nat) (t0:(den tDesc)) (t2:Bool) (t3:Int) (t4:Int) (o0:(den tDesc)):Option innkeepref06_May.R :=
  lpN n c39_17 m0 (kBlk 0 (kSeq (run (gc n) n) c39_15 (retK innkeepref06_May.fn innkeepref06_May.res) (retK innkeepref06_May.fn innkeepref06_May.res)) (retK innkeepref06_May.fn innkeepref06_May.res))
    [(0,.dat tDesc t0 []),(1,.ptr 0 []),(2,.dat .bool t2 []),(3,.dat (.int .i64) t3 []),(4,.dat (.int .i64) t4 [])]
    [.box tDesc o0 []]
def innkeepref06_May.l1 (n m0 m1:Nat) (t0_1:(den tDesc)) (t2_1:Bool) (t3_1:Int) (t4_1:Int) (t5_1:Int) (o0_1:(den tDesc)):Option innkeepref06_May.R :=
  lpN n c39_26 m1 (kBlk 2 (kSeq (run (gc n) n) c39_24 (kSeq (run (gc n) n) c39_23 (kSeq (run (gc n) n) c39_18 (fun _ s h=>lpN n c39_17 m0 (kBlk 0 (kSeq (run (gc n) n) c39_15 (retK innkeepref06_May.fn innkeepref06_May.res) (retK innkeepref06_May.fn innkeepref06_May.res)) (retK innkeepref06_May.fn innkeepref06_May.res)) s h) (kBlk 0 (kSeq (run (gc n) n) c39_15 (retK innkeepref06_May.fn innkeepref06_May.res) (retK innkeepref06_May.fn innkeepref06_May.res)) (retK innkeepref06_May.fn innkeepref06_May.res))) (kBlk 0 (kSeq (run (gc n) n) c39_15 (retK innkeepref06_May.fn innkeepref06_May.res) (retK innkeepref06_May.fn innkeepref06_May.res)) (retK innkeepref06_May.fn innkeepref06_May.res))) (kBlk 1 (kSeq (run (gc n) n) c39_23 (kSeq (run (gc n) n) c39_18 (fun _ s h=>lpN n c39_17 m0 (kBlk 0 (kSeq (run (gc n) n) c39_15 (retK innkeepref06_May.fn innkeepref06_May.res) (retK innkeepref06_May.fn innkeepref06_May.res)) (retK innkeepref06_May.fn innkeepref06_May.res)) s h) (kBlk 0 (kSeq (run (gc n) n) c39_15 (retK innkeepref06_May.fn innkeepref06_May.res) (retK innkeepref06_May.fn innkeepref06_May.res)) (retK innkeepref06_May.fn innkeepref06_May.res))) (kBlk 0 (kSeq (run (gc n) n) c39_15 (retK innkeepref06_May.fn innkeepref06_May.res) (retK innkeepref06_May.fn innkeepref06_May.res)) (retK innkeepref06_May.fn innkeepref06_May.res))) (kBlk 0 (kSeq (run (gc n) n) c39_15 (retK innkeepref06_May.fn innkeepref06_May.res) (retK innkeepref06_May.fn innkeepref06_May.res)) (retK innkeepref06_May.fn innkeepref06_May.res)))) (kBlk 1 (kSeq (run (gc n) n) c39_23 (kSeq (run (gc n) n) c39_18 (fun _ s h=>lpN n c39_17 m0 (kBlk 0 (kSeq (run (gc n) n) c39_15 (retK innkeepref06_May.fn innkeepref06_May.res) (retK innkeepref06_May.fn innkeepref06_May.res)) (retK innkeepref06_May.fn innkeepref06_May.res)) s h) (kBlk 0 (kSeq (run (gc n) n) c39_15 (retK innkeepref06_May.fn innkeepref06_May.res) (retK innkeepref06_May.fn innkeepref06_May.res)) (retK innkeepref06_May.fn innkeepref06_May.res))) (kBlk 0 (kSeq (run (gc n) n) c39_15 (retK innkeepref06_May.fn innkeepref06_May.res) (retK innkeepref06_May.fn innkeepref06_May.res)) (retK innkeepref06_May.fn innkeepref06_May.res))) (kBlk 0 (kSeq (run (gc n) n) c39_15 (retK innkeepref06_May.fn innkeepref06_May.res) (retK innkeepref06_May.fn innkeepref06_May.res)) (retK innkeepref06_May.fn innkeepref06_May.res))))
    [(0,.dat tDesc t0_1 []),(1,.ptr 0 []),(2,.dat .bool t2_1 []),(3,.dat (.int .i64) t3_1 []),(4,.dat (.int .i64) t4_1 []),(5,.dat (.int .i64) t5_1 [])]
    [.box tDesc o0_1 []]
def innkeepref06_May.l2 (n m0 m1:Nat) (t0_2:(den tDesc)) (t2_2:Bool) (t3_2:Int) (t4_2:Int) (t5_2:Int) (t6_2:Int) (t7_2:Int) (o0_2:(den tDesc)):Option innkeepref06_May.R :=
  lpN n c39_43 m1 (kBlk 4 (kSeq (run (gc n) n) c39_41 (kSeq (run (gc n) n) c39_23 (kSeq (run (gc n) n) c39_18 (fun _ s h=>lpN n c39_17 m0 (kBlk 0 (kSeq (run (gc n) n) c39_15 (retK innkeepref06_May.fn innkeepref06_May.res) (retK innkeepref06_May.fn innkeepref06_May.res)) (retK innkeepref06_May.fn innkeepref06_May.res)) s h) (kBlk 0 (kSeq (run (gc n) n) c39_15 (retK innkeepref06_May.fn innkeepref06_May.res) (retK innkeepref06_May.fn innkeepref06_May.res)) (retK innkeepref06_May.fn innkeepref06_May.res))) (kBlk 0 (kSeq (run (gc n) n) c39_15 (retK innkeepref06_May.fn innkeepref06_May.res) (retK innkeepref06_May.fn innkeepref06_May.res)) (retK innkeepref06_May.fn innkeepref06_May.res))) (kBlk 1 (kSeq (run (gc n) n) c39_23 (kSeq (run (gc n) n) c39_18 (fun _ s h=>lpN n c39_17 m0 (kBlk 0 (kSeq (run (gc n) n) c39_15 (retK innkeepref06_May.fn innkeepref06_May.res) (retK innkeepref06_May.fn innkeepref06_May.res)) (retK innkeepref06_May.fn innkeepref06_May.res)) s h) (kBlk 0 (kSeq (run (gc n) n) c39_15 (retK innkeepref06_May.fn innkeepref06_May.res) (retK innkeepref06_May.fn innkeepref06_May.res)) (retK innkeepref06_May.fn innkeepref06_May.res))) (kBlk 0 (kSeq (run (gc n) n) c39_15 (retK innkeepref06_May.fn innkeepref06_May.res) (retK innkeepref06_May.fn innkeepref06_May.res)) (retK innkeepref06_May.fn innkeepref06_May.res))) (kBlk 0 (kSeq (run (gc n) n) c39_15 (retK innkeepref06_May.fn innkeepref06_May.res) (retK innkeepref06_May.fn innkeepref06_May.res)) (retK innkeepref06_May.fn innkeepref06_May.res)))) (kBlk 1 (kSeq (run (gc n) n) c39_23 (kSeq (run (gc n) n) c39_18 (fun _ s h=>lpN n c39_17 m0 (kBlk 0 (kSeq (run (gc n) n) c39_15 (retK innkeepref06_May.fn innkeepref06_May.res) (retK innkeepref06_May.fn innkeepref06_May.res)) (retK innkeepref06_May.fn innkeepref06_May.res)) s h) (kBlk 0 (kSeq (run (gc n) n) c39_15 (retK innkeepref06_May.fn innkeepref06_May.res) (retK innkeepref06_May.fn innkeepref06_May.res)) (retK innkeepref06_May.fn innkeepref06_May.res))) (kBlk 0 (kSeq (run (gc n) n) c39_15 (retK innkeepref06_May.fn innkeepref06_May.res) (retK innkeepref06_May.fn innkeepref06_May.res)) (retK innkeepref06_May.fn innkeepref06_May.res))) (kBlk 0 (kSeq (run (gc n) n) c39_15 (retK innkeepref06_May.fn innkeepref06_May.res) (retK innkeepref06_May.fn innkeepref06_May.res)) (retK innkeepref06_May.fn innkeepref06_May.res))))
    [(0,.dat tDesc t0_2 []),(1,.ptr 0 []),(2,.dat .bool t2_2 []),(3,.dat (.int .i64) t3_2 []),(4,.dat (.int .i64) t4_2 []),(5,.dat (.int .i64) t5_2 []),(6,.dat (.int .i64) t6_2 []),(7,.dat (.int .i64) t7_2 [])]
    [.box tDesc o0_2 []]
def innkeepref06_May.l3 (n m0:Nat) (t0_3:(den tDesc)) (t2_3:Bool) (t3_3:Int) (t4_3:Int) (t8_3:Int) (o0_3:(den tDesc)):Option innkeepref06_May.R :=
  lpN n c39_66 m0 (kBlk 6 (kSeq (run (gc n) n) c39_64 (retK innkeepref06_May.fn innkeepref06_May.res) (retK innkeepref06_May.fn innkeepref06_May.res)) (retK innkeepref06_May.fn innkeepref06_May.res))
    [(0,.dat tDesc t0_3 []),(1,.ptr 0 []),(2,.dat .bool t2_3 []),(3,.dat (.int .i64) t3_3 []),(4,.dat (.int .i64) t4_3 []),(8,.dat (.int .i64) t8_3 [])]
    [.box tDesc o0_3 []]
def innkeepref06_May.l4 (n m0:Nat) (t0_4:(den tDesc)) (t2_4:Bool) (t3_4:Int) (t4_4:Int) (t8_4:Int) (t9_4:Int) (o0_4:(den tDesc)):Option innkeepref06_May.R :=
  lpN n c39_82 m0 (kBlk 8 (kSeq (run (gc n) n) c39_80 (retK innkeepref06_May.fn innkeepref06_May.res) (retK innkeepref06_May.fn innkeepref06_May.res)) (retK innkeepref06_May.fn innkeepref06_May.res))
    [(0,.dat tDesc t0_4 []),(1,.ptr 0 []),(2,.dat .bool t2_4 []),(3,.dat (.int .i64) t3_4 []),(4,.dat (.int .i64) t4_4 []),(8,.dat (.int .i64) t8_4 []),(9,.dat (.int .i64) t9_4 [])]
    [.box tDesc o0_4 []]
theorem innkeepref06_May.l0_eq (n m0:Nat) (t0:(den tDesc)) (t2:Bool) (t3:Int) (t4:Int) (o0:(den tDesc)):innkeepref06_May.l0 n (m0+1) t0 t2 t3 t4 o0 =
  bif (decide (t4<t3)) then
    innkeepref06_May.l1 n m0 n t0 t2 t3 t4 0 o0
  else
    innkeepref06_May.l3 n n t0 t2 t3 t4 0 o0:=by kernel_rfl
theorem innkeepref06_May.l1_eq (n m0 m1:Nat) (t0_1:(den tDesc)) (t2_1:Bool) (t3_1:Int) (t4_1:Int) (t5_1:Int) (o0_1:(den tDesc)):innkeepref06_May.l1 n m0 (m1+1) t0_1 t2_1 t3_1 t4_1 t5_1 o0_1 =
  bif (decide (t5_1<4)) then
    if (0:Int)≤t4_1∧t4_1<(((List.length (o0_1.1:(List (List Int)))):Nat):Int) then
    if (0:Int)≤t5_1∧t5_1<((4:Nat):Int) then
    bif (!(decide ((List.getD (List.getD (o0_1.1:(List (List Int))) (Int.toNat t4_1) (dft (.arr 4 (.int .i64))):(List Int)) (Int.toNat t5_1) (0:Int):Int)=(-1)))) then
      if (0:Int)≤t4_1∧t4_1<(((List.length (o0_1.1:(List (List Int)))):Nat):Int) then
      if (0:Int)≤t5_1∧t5_1<((4:Nat):Int) then
      Option.bind (innkeepref06_in n (List.getD (List.getD (o0_1.1:(List (List Int))) (Int.toNat t4_1) (dft (.arr 4 (.int .i64))):(List Int)) (Int.toNat t5_1) (0:Int):Int) t3_1) fun r4 =>
      bif (!(r4.1.1:Bool)) then
        some ((false,()),[])
      else
        innkeepref06_May.l1 n m0 m1 t0_1 t2_1 t3_1 t4_1 (IntKind.wrap .i64 (t5_1+1)) o0_1
      else none
      else none
    else
      innkeepref06_May.l1 n m0 m1 t0_1 t2_1 t3_1 t4_1 (IntKind.wrap .i64 (t5_1+1)) o0_1
    else none
    else none
  else
    innkeepref06_May.l2 n m0 n t0_1 t2_1 t3_1 t4_1 t5_1 0 0 o0_1:=by kernel_rfl
theorem innkeepref06_May.l2_eq (n m0 m1:Nat) (t0_2:(den tDesc)) (t2_2:Bool) (t3_2:Int) (t4_2:Int) (t5_2:Int) (t6_2:Int) (t7_2:Int) (o0_2:(den tDesc)):innkeepref06_May.l2 n m0 (m1+1) t0_2 t2_2 t3_2 t4_2 t5_2 t6_2 t7_2 o0_2 =
  bif (decide (t7_2<((List.length (o0_2.2.2.2.1:(List Int))):Int))) then
    if (0:Int)≤t7_2∧t7_2<(((List.length (o0_2.2.2.2.1:(List Int))):Nat):Int) then
    bif (decide ((List.getD (o0_2.2.2.2.1:(List Int)) (Int.toNat t7_2) (0:Int):Int)=t4_2)) then
      innkeepref06_May.l2 n m0 m1 t0_2 t2_2 t3_2 t4_2 t5_2 (IntKind.wrap .i64 (t6_2+1)) (IntKind.wrap .i64 (t7_2+1)) o0_2
    else
      innkeepref06_May.l2 n m0 m1 t0_2 t2_2 t3_2 t4_2 t5_2 t6_2 (IntKind.wrap .i64 (t7_2+1)) o0_2
    else none
  else
    bif (decide ((o0_2.2.2.2.2.2.1:Int)<t6_2)) then
      some ((false,()),[])
    else
      innkeepref06_May.l0 n m0 t0_2 t2_2 t3_2 (IntKind.wrap .i64 (t4_2+1)) o0_2:=by kernel_rfl
theorem innkeepref06_May.l3_eq (n m0:Nat) (t0_3:(den tDesc)) (t2_3:Bool) (t3_3:Int) (t4_3:Int) (t8_3:Int) (o0_3:(den tDesc)):innkeepref06_May.l3 n (m0+1) t0_3 t2_3 t3_3 t4_3 t8_3 o0_3 =
  bif (decide (t8_3<((List.length (o0_3.2.1:(List Int))):Int))) then
    if (0:Int)≤t8_3∧t8_3<(((List.length (o0_3.2.1:(List Int))):Nat):Int) then
    Option.bind (innkeepref06_in n (List.getD (o0_3.2.1:(List Int)) (Int.toNat t8_3) (0:Int):Int) t3_3) fun r5 =>
    bif (!(r5.1.1:Bool)) then
      some ((false,()),[])
    else
      if (0:Int)≤t8_3∧t8_3<(((List.length (o0_3.2.2.1:(List Int))):Nat):Int) then
      Option.bind (innkeepref01_Is n (List.getD (o0_3.2.2.1:(List Int)) (Int.toNat t8_3) (0:Int):Int)) fun r6 =>
      bif (!(r6.1.1:Bool)) then
        some ((false,()),[])
      else
        innkeepref06_May.l3 n m0 t0_3 t2_3 t3_3 t4_3 (IntKind.wrap .i64 (t8_3+1)) o0_3
      else none
    else none
  else
    innkeepref06_May.l4 n n t0_3 t2_3 t3_3 t4_3 t8_3 0 o0_3:=by kernel_rfl
theorem innkeepref06_May.l4_eq (n m0:Nat) (t0_4:(den tDesc)) (t2_4:Bool) (t3_4:Int) (t4_4:Int) (t8_4:Int) (t9_4:Int) (o0_4:(den tDesc)):innkeepref06_May.l4 n (m0+1) t0_4 t2_4 t3_4 t4_4 t8_4 t9_4 o0_4 =
  bif (decide (t9_4<((List.length (o0_4.2.2.2.1:(List Int))):Int))) then
    if (0:Int)≤t9_4∧t9_4<(((List.length (o0_4.2.2.2.1:(List Int))):Nat):Int) then
    Option.bind (innkeepref06_in n (List.getD (o0_4.2.2.2.1:(List Int)) (Int.toNat t9_4) (0:Int):Int) t3_4) fun r7 =>
    bif (!(r7.1.1:Bool)) then
      some ((false,()),[])
    else
      innkeepref06_May.l4 n m0 t0_4 t2_4 t3_4 t4_4 t8_4 (IntKind.wrap .i64 (t9_4+1)) o0_4
    else none
  else
    some ((true,()),[]):=by kernel_rfl
theorem innkeepref06_May.eq (n:Nat) (a0:(den tDesc)):innkeepref06_May (n+1) a0 =
  bif (decide (((List.length (a0.1:(List (List Int)))):Int)<1)) then
    some ((false,()),[])
  else
    bif (decide (8<((List.length (a0.1:(List (List Int)))):Int))) then
      some ((false,()),[])
    else
      bif (decide (((List.length (a0.2.1:(List Int))):Int)<1)) then
        some ((false,()),[])
      else
        bif (decide (6<((List.length (a0.2.1:(List Int))):Int))) then
          some ((false,()),[])
        else
          bif (!(decide (((List.length (a0.2.2.1:(List Int))):Int)=((List.length (a0.2.1:(List Int))):Int)))) then
            some ((false,()),[])
          else
            bif (decide (16<((List.length (a0.2.2.2.1:(List Int))):Int))) then
              some ((false,()),[])
            else
              bif (!(decide (((List.length (a0.2.2.2.2.1:(List Bool))):Int)=((List.length (a0.2.2.2.1:(List Int))):Int)))) then
                some ((false,()),[])
              else
                Option.bind (innkeepref06_in n (a0.2.2.2.2.2.1:Int) 65) fun r1 =>
                bif (!(r1.1.1:Bool)) then
                  some ((false,()),[])
                else
                  Option.bind (innkeepref06_in n (a0.2.2.2.2.2.2.1:Int) 65) fun r2 =>
                  bif (!(r2.1.1:Bool)) then
                    some ((false,()),[])
                  else
                    Option.bind (innkeepref06_in n (a0.2.2.2.2.2.2.2.1:Int) 65) fun r3 =>
                    bif (!(r3.1.1:Bool)) then
                      some ((false,()),[])
                    else
                      innkeepref06_May.l0 n n a0 false ((List.length (a0.1:(List (List Int)))):Int) 0 a0:=by kernel_rfl
def innkeepref06_Depth.res:List Sh:=[.d (.int .i64)]
@[reducible] def innkeepref06_Depth.R:Type:=dShL [.d (.int .i64)]×Fresh
def innkeepref06_Depth (n:Nat) (a0:(den tWorld)) (a1:(den tPlace)):Option innkeepref06_Depth.R:=gc n 42 [.dat tWorld a0 [],.dat tPlace a1 []] [.d (.int .i64)]
def innkeepref06_Depth.l0 (n m0:Nat) (t0:(den tWorld)) (t1:(den tPlace)) (t4:Int) (t5:Int) (o0:(den tWorld)) (o1:(den tPlace)):Option innkeepref06_Depth.R :=
  lpN n c42_3 m0 (kBlk 0 (kSeq (run (gc n) n) c42_2 (retK innkeepref06_Depth.fn innkeepref06_Depth.res) (retK innkeepref06_Depth.fn innkeepref06_Depth.res)) (retK innkeepref06_Depth.fn innkeepref06_Depth.res))
    [(0,.dat tWorld t0 []),(1,.dat tPlace t1 []),(2,.ptr 0 []),(3,.ptr 1 []),(4,.dat (.int .i64) t4 []),(5,.dat (.int .i64) t5 [])]
    [.box tWorld o0 [],.box tPlace o1 []]
theorem innkeepref06_Depth.l0_eq (n m0:Nat) (t0:(den tWorld)) (t1:(den tPlace)) (t4:Int) (t5:Int) (o0:(den tWorld)) (o1:(den tPlace)):innkeepref06_Depth.l0 n (m0+1) t0 t1 t4 t5 o0 o1 =
  bif (decide ((o1.1:Int)=2)) then
    bif (decide (50<(IntKind.wrap .i64 (t5+1)))) then
      some ((99,()),[])
    else
      if (0:Int)≤(o1.2.1:Int)∧(o1.2.1:Int)<(((List.length (o0.2.2.2.1:(List (den tPlace)))):Nat):Int) then
      innkeepref06_Depth.l0 n m0 t0 t1 t4 (IntKind.wrap .i64 (t5+1)) o0 (List.getD (o0.2.2.2.1:(List (den tPlace))) (Int.toNat (o1.2.1:Int)) (dft tPlace):(den tPlace))
      else none
  else
    some ((t5,()),[]):=by kernel_rfl
theorem innkeepref06_Depth.eq (n:Nat) (a0:(den tWorld)) (a1:(den tPlace)):innkeepref06_Depth (n+1) a0 a1 =
  innkeepref06_Depth.l0 n n a0 a1 0 0 a0 a1:=by kernel_rfl
def innkeepref06_Many.res:List Sh:=[.d (.int .i64)]
@[reducible] def innkeepref06_Many.R:Type:=dShL [.d (.int .i64)]×Fresh
def innkeepref06_Many (n:Nat) (a0:(den tWorld)) (a1:(den tPlace)):Option innkeepref06_Many.R:=gc n 43 [.dat tWorld a0 [],.dat tPlace a1 []] [.d (.int .i64)]
def innkeepref06_Many.l0 (n m0:Nat) (t0:(den tWorld)) (t1:(den tPlace)) (t4:Int) (t5:Int) (t6:Int) (o0:(den tWorld)) (o1:(den tPlace)):Option innkeepref06_Many.R :=
  lpN n c43_4 m0 (kBlk 0 (kSeq (run (gc n) n) c43_2 (retK innkeepref06_Many.fn innkeepref06_Many.res) (retK innkeepref06_Many.fn innkeepref06_Many.res)) (retK innkeepref06_Many.fn innkeepref06_Many.res))
    [(0,.dat tWorld t0 []),(1,.dat tPlace t1 []),(2,.ptr 0 []),(3,.ptr 1 []),(4,.dat (.int .i64) t4 []),(5,.dat (.int .i64) t5 []),(6,.dat (.int .i64) t6 [])]
    [.box tWorld o0 [],.box tPlace o1 []]
theorem innkeepref06_Many.l0_eq (n m0:Nat) (t0:(den tWorld)) (t1:(den tPlace)) (t4:Int) (t5:Int) (t6:Int) (o0:(den tWorld)) (o1:(den tPlace)):innkeepref06_Many.l0 n (m0+1) t0 t1 t4 t5 t6 o0 o1 =
  bif (decide (t6<((List.length (o0.2.2.2.1:(List (den tPlace)))):Int))) then
    if (0:Int)≤t6∧t6<(((List.length (o0.2.2.2.1:(List (den tPlace)))):Nat):Int) then
    bif (eqT tPlace (List.getD (o0.2.2.2.1:(List (den tPlace))) (Int.toNat t6) (dft tPlace):(den tPlace)) o1) then
      innkeepref06_Many.l0 n m0 t0 t1 t4 (IntKind.wrap .i64 (t5+1)) (IntKind.wrap .i64 (t6+1)) o0 o1
    else
      innkeepref06_Many.l0 n m0 t0 t1 t4 t5 (IntKind.wrap .i64 (t6+1)) o0 o1
    else none
  else
    some ((t5,()),[]):=by kernel_rfl
theorem innkeepref06_Many.eq (n:Nat) (a0:(den tWorld)) (a1:(den tPlace)):innkeepref06_Many (n+1) a0 a1 =
  innkeepref06_Many.l0 n n a0 a1 0 0 0 a0 a1:=by kernel_rfl
def innkeepref06_Cap.res:List Sh:=[.d (.int .i64)]
@[reducible] def innkeepref06_Cap.R:Type:=dShL [.d (.int .i64)]×Fresh
def innkeepref06_Cap (n:Nat) (a0:(den tWorld)) (a1:(den tPlace)):Option innkeepref06_Cap.R:=gc n 44 [.dat tWorld a0 [],.dat tPlace a1 []] [.d (.int .i64)]
theorem innkeepref06_Cap.eq (n:Nat) (a0:(den tWorld)) (a1:(den tPlace)):innkeepref06_Cap (n+1) a0 a1 =
  if (0:Int)≤(a1.1:Int)∧(a1.1:Int)<((3:Nat):Int) then
  some (((List.getD ([(a0.1.2.2.2.2.2.1:Int),(a0.1.2.2.2.2.2.2.1:Int),(a0.1.2.2.2.2.2.2.2.1:Int)]:List Int) (Int.toNat (a1.1:Int)) (0:Int):Int),()),[])
  else none:=by kernel_rfl
def innkeepref06_Right.res:List Sh:=[.d .bool]
@[reducible] def innkeepref06_Right.R:Type:=dShL [.d .bool]×Fresh
def innkeepref06_Right (n:Nat) (a0:(den tWorld)):Option innkeepref06_Right.R:=gc n 18 [.dat tWorld a0 []] [.d .bool]
def innkeepref06_Right.l0 (n m0:Nat) (t0:(den tWorld)) (t2:Bool) (t4:Int) (o0:(den tWorld)) (o1:(den tDesc)):Option innkeepref06_Right.R :=
  lpN n c18_11 m0 (kBlk 0 (kSeq (run (gc n) n) c18_9 (retK innkeepref06_Right.fn innkeepref06_Right.res) (retK innkeepref06_Right.fn innkeepref06_Right.res)) (retK innkeepref06_Right.fn innkeepref06_Right.res))
    [(0,.dat tWorld t0 []),(1,.ptr 0 []),(2,.dat .bool t2 []),(3,.ptr 1 []),(4,.dat (.int .i64) t4 [])]
    [.box tWorld o0 [],.box tDesc o1 []]
def innkeepref06_Right.l1 (n m0:Nat) (t0_1:(den tWorld)) (t2_1:Bool) (t4_1:Int) (t5_1:Int) (o0_1:(den tWorld)) (o1_1:(den tDesc)):Option innkeepref06_Right.R :=
  lpN n c18_27 m0 (kBlk 2 (kSeq (run (gc n) n) c18_25 (retK innkeepref06_Right.fn innkeepref06_Right.res) (retK innkeepref06_Right.fn innkeepref06_Right.res)) (retK innkeepref06_Right.fn innkeepref06_Right.res))
    [(0,.dat tWorld t0_1 []),(1,.ptr 0 []),(2,.dat .bool t2_1 []),(3,.ptr 1 []),(4,.dat (.int .i64) t4_1 []),(5,.dat (.int .i64) t5_1 [])]
    [.box tWorld o0_1 [],.box tDesc o1_1 []]
def innkeepref06_Right.l2 (n m0:Nat) (t0_2:(den tWorld)) (t2_2:Bool) (t4_2:Int) (t5_2:Int) (t8_2:Int) (o0_2:(den tWorld)) (o1_2:(den tDesc)):Option innkeepref06_Right.R :=
  lpN n c18_47 m0 (kBlk 4 (kSeq (run (gc n) n) c18_45 (retK innkeepref06_Right.fn innkeepref06_Right.res) (retK innkeepref06_Right.fn innkeepref06_Right.res)) (retK innkeepref06_Right.fn innkeepref06_Right.res))
    [(0,.dat tWorld t0_2 []),(1,.ptr 0 []),(2,.dat .bool t2_2 []),(3,.ptr 1 []),(4,.dat (.int .i64) t4_2 []),(5,.dat (.int .i64) t5_2 []),(8,.dat (.int .i64) t8_2 [])]
    [.box tWorld o0_2 [],.box tDesc o1_2 []]
theorem innkeepref06_Right.l0_eq (n m0:Nat) (t0:(den tWorld)) (t2:Bool) (t4:Int) (o0:(den tWorld)) (o1:(den tDesc)):innkeepref06_Right.l0 n (m0+1) t0 t2 t4 o0 o1 =
  bif (decide (t4<((List.length (o0.2.1:(List Int))):Int))) then
    if (0:Int)≤t4∧t4<(((List.length (o0.2.1:(List Int))):Nat):Int) then
    Option.bind (innkeepref06_in n (List.getD (o0.2.1:(List Int)) (Int.toNat t4) (0:Int):Int) ((List.length (o1.1:(List (List Int)))):Int)) fun r2 =>
    bif (!(r2.1.1:Bool)) then
      some ((false,()),[])
    else
      if (0:Int)≤t4∧t4<(((List.length (o0.2.2.1:(List Int))):Nat):Int) then
      Option.bind (innkeepref01_Is n (List.getD (o0.2.2.1:(List Int)) (Int.toNat t4) (0:Int):Int)) fun r3 =>
      bif (!(r3.1.1:Bool)) then
        some ((false,()),[])
      else
        innkeepref06_Right.l0 n m0 t0 t2 (IntKind.wrap .i64 (t4+1)) o0 o1
      else none
    else none
  else
    innkeepref06_Right.l1 n n t0 t2 t4 0 o0 o1:=by kernel_rfl
theorem innkeepref06_Right.l1_eq (n m0:Nat) (t0_1:(den tWorld)) (t2_1:Bool) (t4_1:Int) (t5_1:Int) (o0_1:(den tWorld)) (o1_1:(den tDesc)):innkeepref06_Right.l1 n (m0+1) t0_1 t2_1 t4_1 t5_1 o0_1 o1_1 =
  bif (decide (t5_1<((List.length (o0_1.2.2.2.1:(List (den tPlace)))):Int))) then
    if (0:Int)≤t5_1∧t5_1<(((List.length (o0_1.2.2.2.1:(List (den tPlace)))):Nat):Int) then
    bif (decide (((List.getD (o0_1.2.2.2.1:(List (den tPlace))) (Int.toNat t5_1) (dft tPlace):(den tPlace)).1:Int)=0)) then
      Option.bind (innkeepref06_in n ((List.getD (o0_1.2.2.2.1:(List (den tPlace))) (Int.toNat t5_1) (dft tPlace):(den tPlace)).2.1:Int) ((List.length (o1_1.1:(List (List Int)))):Int)) fun r4 =>
      bif (r4.1.1:Bool) then
        innkeepref06_Right.l1 n m0 t0_1 t2_1 t4_1 (IntKind.wrap .i64 (t5_1+1)) o0_1 o1_1
      else
        bif (decide (((List.getD (o0_1.2.2.2.1:(List (den tPlace))) (Int.toNat t5_1) (dft tPlace):(den tPlace)).1:Int)=1)) then
          Option.bind (innkeepref06_in n ((List.getD (o0_1.2.2.2.1:(List (den tPlace))) (Int.toNat t5_1) (dft tPlace):(den tPlace)).2.1:Int) ((List.length (o1_1.2.1:(List Int))):Int)) fun r5 =>
          bif (r5.1.1:Bool) then
            innkeepref06_Right.l1 n m0 t0_1 t2_1 t4_1 (IntKind.wrap .i64 (t5_1+1)) o0_1 o1_1
          else
            bif (decide (((List.getD (o0_1.2.2.2.1:(List (den tPlace))) (Int.toNat t5_1) (dft tPlace):(den tPlace)).1:Int)=2)) then
              Option.bind (innkeepref06_in n ((List.getD (o0_1.2.2.2.1:(List (den tPlace))) (Int.toNat t5_1) (dft tPlace):(den tPlace)).2.1:Int) ((List.length (o1_1.2.2.2.1:(List Int))):Int)) fun r6 =>
              bif (r6.1.1:Bool) then
                if (0:Int)≤((List.getD (o0_1.2.2.2.1:(List (den tPlace))) (Int.toNat t5_1) (dft tPlace):(den tPlace)).2.1:Int)∧((List.getD (o0_1.2.2.2.1:(List (den tPlace))) (Int.toNat t5_1) (dft tPlace):(den tPlace)).2.1:Int)<(((List.length (o1_1.2.2.2.2.1:(List Bool))):Nat):Int) then
                bif (!(List.getD (o1_1.2.2.2.2.1:(List Bool)) (Int.toNat ((List.getD (o0_1.2.2.2.1:(List (den tPlace))) (Int.toNat t5_1) (dft tPlace):(den tPlace)).2.1:Int)) false:Bool)) then
                  some ((false,()),[])
                else
                  innkeepref06_Right.l1 n m0 t0_1 t2_1 t4_1 (IntKind.wrap .i64 (t5_1+1)) o0_1 o1_1
                else none
              else
                some ((false,()),[])
            else
              some ((false,()),[])
        else
          bif (decide (((List.getD (o0_1.2.2.2.1:(List (den tPlace))) (Int.toNat t5_1) (dft tPlace):(den tPlace)).1:Int)=2)) then
            Option.bind (innkeepref06_in n ((List.getD (o0_1.2.2.2.1:(List (den tPlace))) (Int.toNat t5_1) (dft tPlace):(den tPlace)).2.1:Int) ((List.length (o1_1.2.2.2.1:(List Int))):Int)) fun r7 =>
            bif (r7.1.1:Bool) then
              if (0:Int)≤((List.getD (o0_1.2.2.2.1:(List (den tPlace))) (Int.toNat t5_1) (dft tPlace):(den tPlace)).2.1:Int)∧((List.getD (o0_1.2.2.2.1:(List (den tPlace))) (Int.toNat t5_1) (dft tPlace):(den tPlace)).2.1:Int)<(((List.length (o1_1.2.2.2.2.1:(List Bool))):Nat):Int) then
              bif (!(List.getD (o1_1.2.2.2.2.1:(List Bool)) (Int.toNat ((List.getD (o0_1.2.2.2.1:(List (den tPlace))) (Int.toNat t5_1) (dft tPlace):(den tPlace)).2.1:Int)) false:Bool)) then
                some ((false,()),[])
              else
                innkeepref06_Right.l1 n m0 t0_1 t2_1 t4_1 (IntKind.wrap .i64 (t5_1+1)) o0_1 o1_1
              else none
            else
              some ((false,()),[])
          else
            some ((false,()),[])
    else
      bif (decide (((List.getD (o0_1.2.2.2.1:(List (den tPlace))) (Int.toNat t5_1) (dft tPlace):(den tPlace)).1:Int)=1)) then
        Option.bind (innkeepref06_in n ((List.getD (o0_1.2.2.2.1:(List (den tPlace))) (Int.toNat t5_1) (dft tPlace):(den tPlace)).2.1:Int) ((List.length (o1_1.2.1:(List Int))):Int)) fun r8 =>
        bif (r8.1.1:Bool) then
          innkeepref06_Right.l1 n m0 t0_1 t2_1 t4_1 (IntKind.wrap .i64 (t5_1+1)) o0_1 o1_1
        else
          bif (decide (((List.getD (o0_1.2.2.2.1:(List (den tPlace))) (Int.toNat t5_1) (dft tPlace):(den tPlace)).1:Int)=2)) then
            Option.bind (innkeepref06_in n ((List.getD (o0_1.2.2.2.1:(List (den tPlace))) (Int.toNat t5_1) (dft tPlace):(den tPlace)).2.1:Int) ((List.length (o1_1.2.2.2.1:(List Int))):Int)) fun r9 =>
            bif (r9.1.1:Bool) then
              if (0:Int)≤((List.getD (o0_1.2.2.2.1:(List (den tPlace))) (Int.toNat t5_1) (dft tPlace):(den tPlace)).2.1:Int)∧((List.getD (o0_1.2.2.2.1:(List (den tPlace))) (Int.toNat t5_1) (dft tPlace):(den tPlace)).2.1:Int)<(((List.length (o1_1.2.2.2.2.1:(List Bool))):Nat):Int) then
              bif (!(List.getD (o1_1.2.2.2.2.1:(List Bool)) (Int.toNat ((List.getD (o0_1.2.2.2.1:(List (den tPlace))) (Int.toNat t5_1) (dft tPlace):(den tPlace)).2.1:Int)) false:Bool)) then
                some ((false,()),[])
              else
                innkeepref06_Right.l1 n m0 t0_1 t2_1 t4_1 (IntKind.wrap .i64 (t5_1+1)) o0_1 o1_1
              else none
            else
              some ((false,()),[])
          else
            some ((false,()),[])
      else
        bif (decide (((List.getD (o0_1.2.2.2.1:(List (den tPlace))) (Int.toNat t5_1) (dft tPlace):(den tPlace)).1:Int)=2)) then
          Option.bind (innkeepref06_in n ((List.getD (o0_1.2.2.2.1:(List (den tPlace))) (Int.toNat t5_1) (dft tPlace):(den tPlace)).2.1:Int) ((List.length (o1_1.2.2.2.1:(List Int))):Int)) fun r10 =>
          bif (r10.1.1:Bool) then
            if (0:Int)≤((List.getD (o0_1.2.2.2.1:(List (den tPlace))) (Int.toNat t5_1) (dft tPlace):(den tPlace)).2.1:Int)∧((List.getD (o0_1.2.2.2.1:(List (den tPlace))) (Int.toNat t5_1) (dft tPlace):(den tPlace)).2.1:Int)<(((List.length (o1_1.2.2.2.2.1:(List Bool))):Nat):Int) then
            bif (!(List.getD (o1_1.2.2.2.2.1:(List Bool)) (Int.toNat ((List.getD (o0_1.2.2.2.1:(List (den tPlace))) (Int.toNat t5_1) (dft tPlace):(den tPlace)).2.1:Int)) false:Bool)) then
              some ((false,()),[])
            else
              innkeepref06_Right.l1 n m0 t0_1 t2_1 t4_1 (IntKind.wrap .i64 (t5_1+1)) o0_1 o1_1
            else none
          else
            some ((false,()),[])
        else
          some ((false,()),[])
    else none
  else
    innkeepref06_Right.l2 n n t0_1 t2_1 t4_1 t5_1 0 o0_1 o1_1:=by kernel_rfl
theorem innkeepref06_Right.l2_eq (n m0:Nat) (t0_2:(den tWorld)) (t2_2:Bool) (t4_2:Int) (t5_2:Int) (t8_2:Int) (o0_2:(den tWorld)) (o1_2:(den tDesc)):innkeepref06_Right.l2 n (m0+1) t0_2 t2_2 t4_2 t5_2 t8_2 o0_2 o1_2 =
  bif (decide (t8_2<((List.length (o0_2.2.2.2.1:(List (den tPlace)))):Int))) then
    if (0:Int)≤t8_2∧t8_2<(((List.length (o0_2.2.2.2.1:(List (den tPlace)))):Nat):Int) then
    Option.bind (innkeepref06_Depth n o0_2 (List.getD (o0_2.2.2.2.1:(List (den tPlace))) (Int.toNat t8_2) (dft tPlace):(den tPlace))) fun r11 =>
    bif (decide (4<(r11.1.1:Int))) then
      some ((false,()),[])
    else
      if (0:Int)≤t8_2∧t8_2<(((List.length (o0_2.2.2.2.1:(List (den tPlace)))):Nat):Int) then
      Option.bind (innkeepref06_Many n o0_2 (List.getD (o0_2.2.2.2.1:(List (den tPlace))) (Int.toNat t8_2) (dft tPlace):(den tPlace))) fun r12 =>
      if (0:Int)≤t8_2∧t8_2<(((List.length (o0_2.2.2.2.1:(List (den tPlace)))):Nat):Int) then
      Option.bind (innkeepref06_Cap n o0_2 (List.getD (o0_2.2.2.2.1:(List (den tPlace))) (Int.toNat t8_2) (dft tPlace):(den tPlace))) fun r13 =>
      bif (decide ((r13.1.1:Int)<(r12.1.1:Int))) then
        some ((false,()),[])
      else
        innkeepref06_Right.l2 n m0 t0_2 t2_2 t4_2 t5_2 (IntKind.wrap .i64 (t8_2+1)) o0_2 o1_2
      else none
      else none
    else none
  else
    some ((true,()),[]):=by kernel_rfl
theorem innkeepref06_Right.eq (n:Nat) (a0:(den tWorld)):innkeepref06_Right (n+1) a0 =
  Option.bind (innkeepref06_May n a0.1) fun r1 =>
  bif (!(r1.1.1:Bool)) then
    some ((false,()),[])
  else
    bif (!(decide (((List.length (a0.2.1:(List Int))):Int)=((List.length (a0.1.2.1:(List Int))):Int)))) then
      some ((false,()),[])
    else
      bif (!(decide (((List.length (a0.2.2.1:(List Int))):Int)=((List.length (a0.1.2.1:(List Int))):Int)))) then
        some ((false,()),[])
      else
        bif (!(decide (((List.length (a0.2.2.2.1:(List (den tPlace)))):Int)=((List.length (a0.1.2.2.2.1:(List Int))):Int)))) then
          some ((false,()),[])
        else
          innkeepref06_Right.l0 n n a0 false 0 a0 a0.1:=by kernel_rfl
def innkeeplaw16_fits.res:List Sh:=[.d .bool]
@[reducible] def innkeeplaw16_fits.R:Type:=dShL [.d .bool]×Fresh
def innkeeplaw16_fits (n:Nat) (a0:(den tWorld)):Option innkeeplaw16_fits.R:=gc n 6 [.dat tWorld a0 []] [.d .bool]
theorem innkeeplaw16_fits.eq (n:Nat) (a0:(den tWorld)):innkeeplaw16_fits (n+1) a0 =
  Option.bind (innkeepref06_Few n a0) fun r1 =>
  bif (r1.1.1:Bool) then
    Option.bind (innkeepref06_Right n a0) fun r2 =>
    some (((r2.1.1:Bool),()),[])
  else
    some ((false,()),[]):=by kernel_rfl
def innkeepref03_Few.res:List Sh:=[.d .bool]
@[reducible] def innkeepref03_Few.R:Type:=dShL [.d .bool]×Fresh
def innkeepref03_Few (n:Nat) (a0:(den tCmd)):Option innkeepref03_Few.R:=gc n 7 [.dat tCmd a0 []] [.d .bool]
theorem innkeepref03_Few.eq (n:Nat) (a0:(den tCmd)):innkeepref03_Few (n+1) a0 =
  bif (decide (((List.length (a0.2.2.2.2.2.1:(List Int))):Int)≤40)) then
    some (((decide (((List.length (a0.2.2.2.2.2.2.2.1:(List Int))):Int)≤40)),()),[])
  else
    some ((false,()),[]):=by kernel_rfl
def innkeepref03_fit.res:List Sh:=[.d .bool]
@[reducible] def innkeepref03_fit.R:Type:=dShL [.d .bool]×Fresh
def innkeepref03_fit (n:Nat) (a0:Int) (a1:Bool):Option innkeepref03_fit.R:=gc n 19 [.dat (.int .i64) a0 [],.dat .bool a1 []] [.d .bool]
theorem innkeepref03_fit.eq (n:Nat) (a0:Int) (a1:Bool):innkeepref03_fit (n+1) a0 a1 =
  bif (!a1) then
    some (((decide (a0=0)),()),[])
  else
    bif (decide (0≤a0)) then
      some (((decide (a0≤1073741824)),()),[])
    else
      some ((false,()),[]):=by kernel_rfl
def innkeepref03_row.res:List Sh:=[.d .bool]
@[reducible] def innkeepref03_row.R:Type:=dShL [.d .bool]×Fresh
def innkeepref03_row (n:Nat) (a0:(List Int)) (a1:Bool):Option innkeepref03_row.R:=gc n 20 [.dat (.sl (.int .i64)) a0 [],.dat .bool a1 []] [.d .bool]
def innkeepref03_row.l0 (n m0:Nat) (t0:(List Int)) (t1:Bool) (t4:Bool) (t5:Int):Option innkeepref03_row.R :=
  lpN n c20_10 m0 (kBlk 0 (kSeq (run (gc n) n) c20_8 (retK innkeepref03_row.fn innkeepref03_row.res) (retK innkeepref03_row.fn innkeepref03_row.res)) (retK innkeepref03_row.fn innkeepref03_row.res))
    [(0,.dat (.sl (.int .i64)) t0 []),(1,.dat .bool t1 []),(4,.dat .bool t4 []),(5,.dat (.int .i64) t5 [])]
    []
theorem innkeepref03_row.l0_eq (n m0:Nat) (t0:(List Int)) (t1:Bool) (t4:Bool) (t5:Int):innkeepref03_row.l0 n (m0+1) t0 t1 t4 t5 =
  bif (decide (t5<((List.length t0):Int))) then
    if (0:Int)≤t5∧t5<(((List.length t0):Nat):Int) then
    Option.bind (innkeepref03_fit n (List.getD t0 (Int.toNat t5) (0:Int):Int) true) fun r1 =>
    bif (!(r1.1.1:Bool)) then
      some ((false,()),[])
    else
      innkeepref03_row.l0 n m0 t0 t1 t4 (IntKind.wrap .i64 (t5+1))
    else none
  else
    some (((decide (((List.length t0):Int)≤16)),()),[]):=by kernel_rfl
theorem innkeepref03_row.eq (n:Nat) (a0:(List Int)) (a1:Bool):innkeepref03_row (n+1) a0 a1 =
  bif (!a1) then
    some (((decide (((List.length a0):Int)=0)),()),[])
  else
    innkeepref03_row.l0 n n a0 a1 false 0:=by kernel_rfl
def innkeepref03_May.res:List Sh:=[.d .bool]
@[reducible] def innkeepref03_May.R:Type:=dShL [.d .bool]×Fresh
def innkeepref03_May (n:Nat) (a0:(den tCmd)):Option innkeepref03_May.R:=gc n 8 [.dat tCmd a0 []] [.d .bool]
theorem innkeepref03_May.eq (n:Nat) (a0:(den tCmd)):innkeepref03_May (n+1) a0 =
  bif (decide ((a0.1:Int)<1)) then
    some ((false,()),[])
  else
    bif (decide (10<(a0.1:Int))) then
      some ((false,()),[])
    else
      bif (decide ((a0.2.1:Int)<0)) then
        some ((false,()),[])
      else
        bif (decide (3<(a0.2.1:Int))) then
          some ((false,()),[])
        else
          bif (!(decide ((a0.2.1:Int)=0))) then
            bif (decide (2<(a0.1:Int))) then
              some ((false,()),[])
            else
              bif (decide (3≤(a0.1:Int))) then
                Option.bind (innkeepref03_fit n (a0.2.2.1:Int) (decide ((a0.1:Int)≤7))) fun r1 =>
                bif (r1.1.1:Bool) then
                  bif (decide ((a0.1:Int)=5)) then
                    Option.bind (innkeepref03_fit n (a0.2.2.2.1:Int) true) fun r2 =>
                    bif (r2.1.1:Bool) then
                      bif (decide ((a0.1:Int)=2)) then
                        Option.bind (innkeepref03_fit n (a0.2.2.2.2.1:Int) true) fun r3 =>
                        bif (r3.1.1:Bool) then
                          Option.bind (innkeepref03_fit n (a0.2.2.2.2.2.2.1:Int) (decide ((a0.1:Int)=8))) fun r4 =>
                          bif (r4.1.1:Bool) then
                            Option.bind (innkeepref03_fit n (a0.2.2.2.2.2.2.2.2.1:Int) (decide ((a0.1:Int)=8))) fun r5 =>
                            bif (r5.1.1:Bool) then
                              Option.bind (innkeepref03_row n (a0.2.2.2.2.2.1:(List Int)) (decide ((a0.1:Int)=8))) fun r6 =>
                              bif (r6.1.1:Bool) then
                                Option.bind (innkeepref03_row n (a0.2.2.2.2.2.2.2.1:(List Int)) (decide ((a0.1:Int)=8))) fun r7 =>
                                some (((r7.1.1:Bool),()),[])
                              else
                                some ((false,()),[])
                            else
                              some ((false,()),[])
                          else
                            some ((false,()),[])
                        else
                          some ((false,()),[])
                      else
                        bif (decide ((a0.1:Int)=7)) then
                          Option.bind (innkeepref03_fit n (a0.2.2.2.2.1:Int) true) fun r8 =>
                          bif (r8.1.1:Bool) then
                            Option.bind (innkeepref03_fit n (a0.2.2.2.2.2.2.1:Int) (decide ((a0.1:Int)=8))) fun r9 =>
                            bif (r9.1.1:Bool) then
                              Option.bind (innkeepref03_fit n (a0.2.2.2.2.2.2.2.2.1:Int) (decide ((a0.1:Int)=8))) fun r10 =>
                              bif (r10.1.1:Bool) then
                                Option.bind (innkeepref03_row n (a0.2.2.2.2.2.1:(List Int)) (decide ((a0.1:Int)=8))) fun r11 =>
                                bif (r11.1.1:Bool) then
                                  Option.bind (innkeepref03_row n (a0.2.2.2.2.2.2.2.1:(List Int)) (decide ((a0.1:Int)=8))) fun r12 =>
                                  some (((r12.1.1:Bool),()),[])
                                else
                                  some ((false,()),[])
                              else
                                some ((false,()),[])
                            else
                              some ((false,()),[])
                          else
                            some ((false,()),[])
                        else
                          Option.bind (innkeepref03_fit n (a0.2.2.2.2.1:Int) (decide ((a0.1:Int)=8))) fun r13 =>
                          bif (r13.1.1:Bool) then
                            Option.bind (innkeepref03_fit n (a0.2.2.2.2.2.2.1:Int) (decide ((a0.1:Int)=8))) fun r14 =>
                            bif (r14.1.1:Bool) then
                              Option.bind (innkeepref03_fit n (a0.2.2.2.2.2.2.2.2.1:Int) (decide ((a0.1:Int)=8))) fun r15 =>
                              bif (r15.1.1:Bool) then
                                Option.bind (innkeepref03_row n (a0.2.2.2.2.2.1:(List Int)) (decide ((a0.1:Int)=8))) fun r16 =>
                                bif (r16.1.1:Bool) then
                                  Option.bind (innkeepref03_row n (a0.2.2.2.2.2.2.2.1:(List Int)) (decide ((a0.1:Int)=8))) fun r17 =>
                                  some (((r17.1.1:Bool),()),[])
                                else
                                  some ((false,()),[])
                              else
                                some ((false,()),[])
                            else
                              some ((false,()),[])
                          else
                            some ((false,()),[])
                    else
                      some ((false,()),[])
                  else
                    Option.bind (innkeepref03_fit n (a0.2.2.2.1:Int) (decide ((a0.1:Int)=6))) fun r18 =>
                    bif (r18.1.1:Bool) then
                      bif (decide ((a0.1:Int)=2)) then
                        Option.bind (innkeepref03_fit n (a0.2.2.2.2.1:Int) true) fun r19 =>
                        bif (r19.1.1:Bool) then
                          Option.bind (innkeepref03_fit n (a0.2.2.2.2.2.2.1:Int) (decide ((a0.1:Int)=8))) fun r20 =>
                          bif (r20.1.1:Bool) then
                            Option.bind (innkeepref03_fit n (a0.2.2.2.2.2.2.2.2.1:Int) (decide ((a0.1:Int)=8))) fun r21 =>
                            bif (r21.1.1:Bool) then
                              Option.bind (innkeepref03_row n (a0.2.2.2.2.2.1:(List Int)) (decide ((a0.1:Int)=8))) fun r22 =>
                              bif (r22.1.1:Bool) then
                                Option.bind (innkeepref03_row n (a0.2.2.2.2.2.2.2.1:(List Int)) (decide ((a0.1:Int)=8))) fun r23 =>
                                some (((r23.1.1:Bool),()),[])
                              else
                                some ((false,()),[])
                            else
                              some ((false,()),[])
                          else
                            some ((false,()),[])
                        else
                          some ((false,()),[])
                      else
                        bif (decide ((a0.1:Int)=7)) then
                          Option.bind (innkeepref03_fit n (a0.2.2.2.2.1:Int) true) fun r24 =>
                          bif (r24.1.1:Bool) then
                            Option.bind (innkeepref03_fit n (a0.2.2.2.2.2.2.1:Int) (decide ((a0.1:Int)=8))) fun r25 =>
                            bif (r25.1.1:Bool) then
                              Option.bind (innkeepref03_fit n (a0.2.2.2.2.2.2.2.2.1:Int) (decide ((a0.1:Int)=8))) fun r26 =>
                              bif (r26.1.1:Bool) then
                                Option.bind (innkeepref03_row n (a0.2.2.2.2.2.1:(List Int)) (decide ((a0.1:Int)=8))) fun r27 =>
                                bif (r27.1.1:Bool) then
                                  Option.bind (innkeepref03_row n (a0.2.2.2.2.2.2.2.1:(List Int)) (decide ((a0.1:Int)=8))) fun r28 =>
                                  some (((r28.1.1:Bool),()),[])
                                else
                                  some ((false,()),[])
                              else
                                some ((false,()),[])
                            else
                              some ((false,()),[])
                          else
                            some ((false,()),[])
                        else
                          Option.bind (innkeepref03_fit n (a0.2.2.2.2.1:Int) (decide ((a0.1:Int)=8))) fun r29 =>
                          bif (r29.1.1:Bool) then
                            Option.bind (innkeepref03_fit n (a0.2.2.2.2.2.2.1:Int) (decide ((a0.1:Int)=8))) fun r30 =>
                            bif (r30.1.1:Bool) then
                              Option.bind (innkeepref03_fit n (a0.2.2.2.2.2.2.2.2.1:Int) (decide ((a0.1:Int)=8))) fun r31 =>
                              bif (r31.1.1:Bool) then
                                Option.bind (innkeepref03_row n (a0.2.2.2.2.2.1:(List Int)) (decide ((a0.1:Int)=8))) fun r32 =>
                                bif (r32.1.1:Bool) then
                                  Option.bind (innkeepref03_row n (a0.2.2.2.2.2.2.2.1:(List Int)) (decide ((a0.1:Int)=8))) fun r33 =>
                                  some (((r33.1.1:Bool),()),[])
                                else
                                  some ((false,()),[])
                              else
                                some ((false,()),[])
                            else
                              some ((false,()),[])
                          else
                            some ((false,()),[])
                    else
                      some ((false,()),[])
                else
                  some ((false,()),[])
              else
                Option.bind (innkeepref03_fit n (a0.2.2.1:Int) false) fun r34 =>
                bif (r34.1.1:Bool) then
                  bif (decide ((a0.1:Int)=5)) then
                    Option.bind (innkeepref03_fit n (a0.2.2.2.1:Int) true) fun r35 =>
                    bif (r35.1.1:Bool) then
                      bif (decide ((a0.1:Int)=2)) then
                        Option.bind (innkeepref03_fit n (a0.2.2.2.2.1:Int) true) fun r36 =>
                        bif (r36.1.1:Bool) then
                          Option.bind (innkeepref03_fit n (a0.2.2.2.2.2.2.1:Int) (decide ((a0.1:Int)=8))) fun r37 =>
                          bif (r37.1.1:Bool) then
                            Option.bind (innkeepref03_fit n (a0.2.2.2.2.2.2.2.2.1:Int) (decide ((a0.1:Int)=8))) fun r38 =>
                            bif (r38.1.1:Bool) then
                              Option.bind (innkeepref03_row n (a0.2.2.2.2.2.1:(List Int)) (decide ((a0.1:Int)=8))) fun r39 =>
                              bif (r39.1.1:Bool) then
                                Option.bind (innkeepref03_row n (a0.2.2.2.2.2.2.2.1:(List Int)) (decide ((a0.1:Int)=8))) fun r40 =>
                                some (((r40.1.1:Bool),()),[])
                              else
                                some ((false,()),[])
                            else
                              some ((false,()),[])
                          else
                            some ((false,()),[])
                        else
                          some ((false,()),[])
                      else
                        bif (decide ((a0.1:Int)=7)) then
                          Option.bind (innkeepref03_fit n (a0.2.2.2.2.1:Int) true) fun r41 =>
                          bif (r41.1.1:Bool) then
                            Option.bind (innkeepref03_fit n (a0.2.2.2.2.2.2.1:Int) (decide ((a0.1:Int)=8))) fun r42 =>
                            bif (r42.1.1:Bool) then
                              Option.bind (innkeepref03_fit n (a0.2.2.2.2.2.2.2.2.1:Int) (decide ((a0.1:Int)=8))) fun r43 =>
                              bif (r43.1.1:Bool) then
                                Option.bind (innkeepref03_row n (a0.2.2.2.2.2.1:(List Int)) (decide ((a0.1:Int)=8))) fun r44 =>
                                bif (r44.1.1:Bool) then
                                  Option.bind (innkeepref03_row n (a0.2.2.2.2.2.2.2.1:(List Int)) (decide ((a0.1:Int)=8))) fun r45 =>
                                  some (((r45.1.1:Bool),()),[])
                                else
                                  some ((false,()),[])
                              else
                                some ((false,()),[])
                            else
                              some ((false,()),[])
                          else
                            some ((false,()),[])
                        else
                          Option.bind (innkeepref03_fit n (a0.2.2.2.2.1:Int) (decide ((a0.1:Int)=8))) fun r46 =>
                          bif (r46.1.1:Bool) then
                            Option.bind (innkeepref03_fit n (a0.2.2.2.2.2.2.1:Int) (decide ((a0.1:Int)=8))) fun r47 =>
                            bif (r47.1.1:Bool) then
                              Option.bind (innkeepref03_fit n (a0.2.2.2.2.2.2.2.2.1:Int) (decide ((a0.1:Int)=8))) fun r48 =>
                              bif (r48.1.1:Bool) then
                                Option.bind (innkeepref03_row n (a0.2.2.2.2.2.1:(List Int)) (decide ((a0.1:Int)=8))) fun r49 =>
                                bif (r49.1.1:Bool) then
                                  Option.bind (innkeepref03_row n (a0.2.2.2.2.2.2.2.1:(List Int)) (decide ((a0.1:Int)=8))) fun r50 =>
                                  some (((r50.1.1:Bool),()),[])
                                else
                                  some ((false,()),[])
                              else
                                some ((false,()),[])
                            else
                              some ((false,()),[])
                          else
                            some ((false,()),[])
                    else
                      some ((false,()),[])
                  else
                    Option.bind (innkeepref03_fit n (a0.2.2.2.1:Int) (decide ((a0.1:Int)=6))) fun r51 =>
                    bif (r51.1.1:Bool) then
                      bif (decide ((a0.1:Int)=2)) then
                        Option.bind (innkeepref03_fit n (a0.2.2.2.2.1:Int) true) fun r52 =>
                        bif (r52.1.1:Bool) then
                          Option.bind (innkeepref03_fit n (a0.2.2.2.2.2.2.1:Int) (decide ((a0.1:Int)=8))) fun r53 =>
                          bif (r53.1.1:Bool) then
                            Option.bind (innkeepref03_fit n (a0.2.2.2.2.2.2.2.2.1:Int) (decide ((a0.1:Int)=8))) fun r54 =>
                            bif (r54.1.1:Bool) then
                              Option.bind (innkeepref03_row n (a0.2.2.2.2.2.1:(List Int)) (decide ((a0.1:Int)=8))) fun r55 =>
                              bif (r55.1.1:Bool) then
                                Option.bind (innkeepref03_row n (a0.2.2.2.2.2.2.2.1:(List Int)) (decide ((a0.1:Int)=8))) fun r56 =>
                                some (((r56.1.1:Bool),()),[])
                              else
                                some ((false,()),[])
                            else
                              some ((false,()),[])
                          else
                            some ((false,()),[])
                        else
                          some ((false,()),[])
                      else
                        bif (decide ((a0.1:Int)=7)) then
                          Option.bind (innkeepref03_fit n (a0.2.2.2.2.1:Int) true) fun r57 =>
                          bif (r57.1.1:Bool) then
                            Option.bind (innkeepref03_fit n (a0.2.2.2.2.2.2.1:Int) (decide ((a0.1:Int)=8))) fun r58 =>
                            bif (r58.1.1:Bool) then
                              Option.bind (innkeepref03_fit n (a0.2.2.2.2.2.2.2.2.1:Int) (decide ((a0.1:Int)=8))) fun r59 =>
                              bif (r59.1.1:Bool) then
                                Option.bind (innkeepref03_row n (a0.2.2.2.2.2.1:(List Int)) (decide ((a0.1:Int)=8))) fun r60 =>
                                bif (r60.1.1:Bool) then
                                  Option.bind (innkeepref03_row n (a0.2.2.2.2.2.2.2.1:(List Int)) (decide ((a0.1:Int)=8))) fun r61 =>
                                  some (((r61.1.1:Bool),()),[])
                                else
                                  some ((false,()),[])
                              else
                                some ((false,()),[])
                            else
                              some ((false,()),[])
                          else
                            some ((false,()),[])
                        else
                          Option.bind (innkeepref03_fit n (a0.2.2.2.2.1:Int) (decide ((a0.1:Int)=8))) fun r62 =>
                          bif (r62.1.1:Bool) then
                            Option.bind (innkeepref03_fit n (a0.2.2.2.2.2.2.1:Int) (decide ((a0.1:Int)=8))) fun r63 =>
                            bif (r63.1.1:Bool) then
                              Option.bind (innkeepref03_fit n (a0.2.2.2.2.2.2.2.2.1:Int) (decide ((a0.1:Int)=8))) fun r64 =>
                              bif (r64.1.1:Bool) then
                                Option.bind (innkeepref03_row n (a0.2.2.2.2.2.1:(List Int)) (decide ((a0.1:Int)=8))) fun r65 =>
                                bif (r65.1.1:Bool) then
                                  Option.bind (innkeepref03_row n (a0.2.2.2.2.2.2.2.1:(List Int)) (decide ((a0.1:Int)=8))) fun r66 =>
                                  some (((r66.1.1:Bool),()),[])
                                else
                                  some ((false,()),[])
                              else
                                some ((false,()),[])
                            else
                              some ((false,()),[])
                          else
                            some ((false,()),[])
                    else
                      some ((false,()),[])
                else
                  some ((false,()),[])
          else
            bif (decide (3≤(a0.1:Int))) then
              Option.bind (innkeepref03_fit n (a0.2.2.1:Int) (decide ((a0.1:Int)≤7))) fun r67 =>
              bif (r67.1.1:Bool) then
                bif (decide ((a0.1:Int)=5)) then
                  Option.bind (innkeepref03_fit n (a0.2.2.2.1:Int) true) fun r68 =>
                  bif (r68.1.1:Bool) then
                    bif (decide ((a0.1:Int)=2)) then
                      Option.bind (innkeepref03_fit n (a0.2.2.2.2.1:Int) true) fun r69 =>
                      bif (r69.1.1:Bool) then
                        Option.bind (innkeepref03_fit n (a0.2.2.2.2.2.2.1:Int) (decide ((a0.1:Int)=8))) fun r70 =>
                        bif (r70.1.1:Bool) then
                          Option.bind (innkeepref03_fit n (a0.2.2.2.2.2.2.2.2.1:Int) (decide ((a0.1:Int)=8))) fun r71 =>
                          bif (r71.1.1:Bool) then
                            Option.bind (innkeepref03_row n (a0.2.2.2.2.2.1:(List Int)) (decide ((a0.1:Int)=8))) fun r72 =>
                            bif (r72.1.1:Bool) then
                              Option.bind (innkeepref03_row n (a0.2.2.2.2.2.2.2.1:(List Int)) (decide ((a0.1:Int)=8))) fun r73 =>
                              some (((r73.1.1:Bool),()),[])
                            else
                              some ((false,()),[])
                          else
                            some ((false,()),[])
                        else
                          some ((false,()),[])
                      else
                        some ((false,()),[])
                    else
                      bif (decide ((a0.1:Int)=7)) then
                        Option.bind (innkeepref03_fit n (a0.2.2.2.2.1:Int) true) fun r74 =>
                        bif (r74.1.1:Bool) then
                          Option.bind (innkeepref03_fit n (a0.2.2.2.2.2.2.1:Int) (decide ((a0.1:Int)=8))) fun r75 =>
                          bif (r75.1.1:Bool) then
                            Option.bind (innkeepref03_fit n (a0.2.2.2.2.2.2.2.2.1:Int) (decide ((a0.1:Int)=8))) fun r76 =>
                            bif (r76.1.1:Bool) then
                              Option.bind (innkeepref03_row n (a0.2.2.2.2.2.1:(List Int)) (decide ((a0.1:Int)=8))) fun r77 =>
                              bif (r77.1.1:Bool) then
                                Option.bind (innkeepref03_row n (a0.2.2.2.2.2.2.2.1:(List Int)) (decide ((a0.1:Int)=8))) fun r78 =>
                                some (((r78.1.1:Bool),()),[])
                              else
                                some ((false,()),[])
                            else
                              some ((false,()),[])
                          else
                            some ((false,()),[])
                        else
                          some ((false,()),[])
                      else
                        Option.bind (innkeepref03_fit n (a0.2.2.2.2.1:Int) (decide ((a0.1:Int)=8))) fun r79 =>
                        bif (r79.1.1:Bool) then
                          Option.bind (innkeepref03_fit n (a0.2.2.2.2.2.2.1:Int) (decide ((a0.1:Int)=8))) fun r80 =>
                          bif (r80.1.1:Bool) then
                            Option.bind (innkeepref03_fit n (a0.2.2.2.2.2.2.2.2.1:Int) (decide ((a0.1:Int)=8))) fun r81 =>
                            bif (r81.1.1:Bool) then
                              Option.bind (innkeepref03_row n (a0.2.2.2.2.2.1:(List Int)) (decide ((a0.1:Int)=8))) fun r82 =>
                              bif (r82.1.1:Bool) then
                                Option.bind (innkeepref03_row n (a0.2.2.2.2.2.2.2.1:(List Int)) (decide ((a0.1:Int)=8))) fun r83 =>
                                some (((r83.1.1:Bool),()),[])
                              else
                                some ((false,()),[])
                            else
                              some ((false,()),[])
                          else
                            some ((false,()),[])
                        else
                          some ((false,()),[])
                  else
                    some ((false,()),[])
                else
                  Option.bind (innkeepref03_fit n (a0.2.2.2.1:Int) (decide ((a0.1:Int)=6))) fun r84 =>
                  bif (r84.1.1:Bool) then
                    bif (decide ((a0.1:Int)=2)) then
                      Option.bind (innkeepref03_fit n (a0.2.2.2.2.1:Int) true) fun r85 =>
                      bif (r85.1.1:Bool) then
                        Option.bind (innkeepref03_fit n (a0.2.2.2.2.2.2.1:Int) (decide ((a0.1:Int)=8))) fun r86 =>
                        bif (r86.1.1:Bool) then
                          Option.bind (innkeepref03_fit n (a0.2.2.2.2.2.2.2.2.1:Int) (decide ((a0.1:Int)=8))) fun r87 =>
                          bif (r87.1.1:Bool) then
                            Option.bind (innkeepref03_row n (a0.2.2.2.2.2.1:(List Int)) (decide ((a0.1:Int)=8))) fun r88 =>
                            bif (r88.1.1:Bool) then
                              Option.bind (innkeepref03_row n (a0.2.2.2.2.2.2.2.1:(List Int)) (decide ((a0.1:Int)=8))) fun r89 =>
                              some (((r89.1.1:Bool),()),[])
                            else
                              some ((false,()),[])
                          else
                            some ((false,()),[])
                        else
                          some ((false,()),[])
                      else
                        some ((false,()),[])
                    else
                      bif (decide ((a0.1:Int)=7)) then
                        Option.bind (innkeepref03_fit n (a0.2.2.2.2.1:Int) true) fun r90 =>
                        bif (r90.1.1:Bool) then
                          Option.bind (innkeepref03_fit n (a0.2.2.2.2.2.2.1:Int) (decide ((a0.1:Int)=8))) fun r91 =>
                          bif (r91.1.1:Bool) then
                            Option.bind (innkeepref03_fit n (a0.2.2.2.2.2.2.2.2.1:Int) (decide ((a0.1:Int)=8))) fun r92 =>
                            bif (r92.1.1:Bool) then
                              Option.bind (innkeepref03_row n (a0.2.2.2.2.2.1:(List Int)) (decide ((a0.1:Int)=8))) fun r93 =>
                              bif (r93.1.1:Bool) then
                                Option.bind (innkeepref03_row n (a0.2.2.2.2.2.2.2.1:(List Int)) (decide ((a0.1:Int)=8))) fun r94 =>
                                some (((r94.1.1:Bool),()),[])
                              else
                                some ((false,()),[])
                            else
                              some ((false,()),[])
                          else
                            some ((false,()),[])
                        else
                          some ((false,()),[])
                      else
                        Option.bind (innkeepref03_fit n (a0.2.2.2.2.1:Int) (decide ((a0.1:Int)=8))) fun r95 =>
                        bif (r95.1.1:Bool) then
                          Option.bind (innkeepref03_fit n (a0.2.2.2.2.2.2.1:Int) (decide ((a0.1:Int)=8))) fun r96 =>
                          bif (r96.1.1:Bool) then
                            Option.bind (innkeepref03_fit n (a0.2.2.2.2.2.2.2.2.1:Int) (decide ((a0.1:Int)=8))) fun r97 =>
                            bif (r97.1.1:Bool) then
                              Option.bind (innkeepref03_row n (a0.2.2.2.2.2.1:(List Int)) (decide ((a0.1:Int)=8))) fun r98 =>
                              bif (r98.1.1:Bool) then
                                Option.bind (innkeepref03_row n (a0.2.2.2.2.2.2.2.1:(List Int)) (decide ((a0.1:Int)=8))) fun r99 =>
                                some (((r99.1.1:Bool),()),[])
                              else
                                some ((false,()),[])
                            else
                              some ((false,()),[])
                          else
                            some ((false,()),[])
                        else
                          some ((false,()),[])
                  else
                    some ((false,()),[])
              else
                some ((false,()),[])
            else
              Option.bind (innkeepref03_fit n (a0.2.2.1:Int) false) fun r100 =>
              bif (r100.1.1:Bool) then
                bif (decide ((a0.1:Int)=5)) then
                  Option.bind (innkeepref03_fit n (a0.2.2.2.1:Int) true) fun r101 =>
                  bif (r101.1.1:Bool) then
                    bif (decide ((a0.1:Int)=2)) then
                      Option.bind (innkeepref03_fit n (a0.2.2.2.2.1:Int) true) fun r102 =>
                      bif (r102.1.1:Bool) then
                        Option.bind (innkeepref03_fit n (a0.2.2.2.2.2.2.1:Int) (decide ((a0.1:Int)=8))) fun r103 =>
                        bif (r103.1.1:Bool) then
                          Option.bind (innkeepref03_fit n (a0.2.2.2.2.2.2.2.2.1:Int) (decide ((a0.1:Int)=8))) fun r104 =>
                          bif (r104.1.1:Bool) then
                            Option.bind (innkeepref03_row n (a0.2.2.2.2.2.1:(List Int)) (decide ((a0.1:Int)=8))) fun r105 =>
                            bif (r105.1.1:Bool) then
                              Option.bind (innkeepref03_row n (a0.2.2.2.2.2.2.2.1:(List Int)) (decide ((a0.1:Int)=8))) fun r106 =>
                              some (((r106.1.1:Bool),()),[])
                            else
                              some ((false,()),[])
                          else
                            some ((false,()),[])
                        else
                          some ((false,()),[])
                      else
                        some ((false,()),[])
                    else
                      bif (decide ((a0.1:Int)=7)) then
                        Option.bind (innkeepref03_fit n (a0.2.2.2.2.1:Int) true) fun r107 =>
                        bif (r107.1.1:Bool) then
                          Option.bind (innkeepref03_fit n (a0.2.2.2.2.2.2.1:Int) (decide ((a0.1:Int)=8))) fun r108 =>
                          bif (r108.1.1:Bool) then
                            Option.bind (innkeepref03_fit n (a0.2.2.2.2.2.2.2.2.1:Int) (decide ((a0.1:Int)=8))) fun r109 =>
                            bif (r109.1.1:Bool) then
                              Option.bind (innkeepref03_row n (a0.2.2.2.2.2.1:(List Int)) (decide ((a0.1:Int)=8))) fun r110 =>
                              bif (r110.1.1:Bool) then
                                Option.bind (innkeepref03_row n (a0.2.2.2.2.2.2.2.1:(List Int)) (decide ((a0.1:Int)=8))) fun r111 =>
                                some (((r111.1.1:Bool),()),[])
                              else
                                some ((false,()),[])
                            else
                              some ((false,()),[])
                          else
                            some ((false,()),[])
                        else
                          some ((false,()),[])
                      else
                        Option.bind (innkeepref03_fit n (a0.2.2.2.2.1:Int) (decide ((a0.1:Int)=8))) fun r112 =>
                        bif (r112.1.1:Bool) then
                          Option.bind (innkeepref03_fit n (a0.2.2.2.2.2.2.1:Int) (decide ((a0.1:Int)=8))) fun r113 =>
                          bif (r113.1.1:Bool) then
                            Option.bind (innkeepref03_fit n (a0.2.2.2.2.2.2.2.2.1:Int) (decide ((a0.1:Int)=8))) fun r114 =>
                            bif (r114.1.1:Bool) then
                              Option.bind (innkeepref03_row n (a0.2.2.2.2.2.1:(List Int)) (decide ((a0.1:Int)=8))) fun r115 =>
                              bif (r115.1.1:Bool) then
                                Option.bind (innkeepref03_row n (a0.2.2.2.2.2.2.2.1:(List Int)) (decide ((a0.1:Int)=8))) fun r116 =>
                                some (((r116.1.1:Bool),()),[])
                              else
                                some ((false,()),[])
                            else
                              some ((false,()),[])
                          else
                            some ((false,()),[])
                        else
                          some ((false,()),[])
                  else
                    some ((false,()),[])
                else
                  Option.bind (innkeepref03_fit n (a0.2.2.2.1:Int) (decide ((a0.1:Int)=6))) fun r117 =>
                  bif (r117.1.1:Bool) then
                    bif (decide ((a0.1:Int)=2)) then
                      Option.bind (innkeepref03_fit n (a0.2.2.2.2.1:Int) true) fun r118 =>
                      bif (r118.1.1:Bool) then
                        Option.bind (innkeepref03_fit n (a0.2.2.2.2.2.2.1:Int) (decide ((a0.1:Int)=8))) fun r119 =>
                        bif (r119.1.1:Bool) then
                          Option.bind (innkeepref03_fit n (a0.2.2.2.2.2.2.2.2.1:Int) (decide ((a0.1:Int)=8))) fun r120 =>
                          bif (r120.1.1:Bool) then
                            Option.bind (innkeepref03_row n (a0.2.2.2.2.2.1:(List Int)) (decide ((a0.1:Int)=8))) fun r121 =>
                            bif (r121.1.1:Bool) then
                              Option.bind (innkeepref03_row n (a0.2.2.2.2.2.2.2.1:(List Int)) (decide ((a0.1:Int)=8))) fun r122 =>
                              some (((r122.1.1:Bool),()),[])
                            else
                              some ((false,()),[])
                          else
                            some ((false,()),[])
                        else
                          some ((false,()),[])
                      else
                        some ((false,()),[])
                    else
                      bif (decide ((a0.1:Int)=7)) then
                        Option.bind (innkeepref03_fit n (a0.2.2.2.2.1:Int) true) fun r123 =>
                        bif (r123.1.1:Bool) then
                          Option.bind (innkeepref03_fit n (a0.2.2.2.2.2.2.1:Int) (decide ((a0.1:Int)=8))) fun r124 =>
                          bif (r124.1.1:Bool) then
                            Option.bind (innkeepref03_fit n (a0.2.2.2.2.2.2.2.2.1:Int) (decide ((a0.1:Int)=8))) fun r125 =>
                            bif (r125.1.1:Bool) then
                              Option.bind (innkeepref03_row n (a0.2.2.2.2.2.1:(List Int)) (decide ((a0.1:Int)=8))) fun r126 =>
                              bif (r126.1.1:Bool) then
                                Option.bind (innkeepref03_row n (a0.2.2.2.2.2.2.2.1:(List Int)) (decide ((a0.1:Int)=8))) fun r127 =>
                                some (((r127.1.1:Bool),()),[])
                              else
                                some ((false,()),[])
                            else
                              some ((false,()),[])
                          else
                            some ((false,()),[])
                        else
                          some ((false,()),[])
                      else
                        Option.bind (innkeepref03_fit n (a0.2.2.2.2.1:Int) (decide ((a0.1:Int)=8))) fun r128 =>
                        bif (r128.1.1:Bool) then
                          Option.bind (innkeepref03_fit n (a0.2.2.2.2.2.2.1:Int) (decide ((a0.1:Int)=8))) fun r129 =>
                          bif (r129.1.1:Bool) then
                            Option.bind (innkeepref03_fit n (a0.2.2.2.2.2.2.2.2.1:Int) (decide ((a0.1:Int)=8))) fun r130 =>
                            bif (r130.1.1:Bool) then
                              Option.bind (innkeepref03_row n (a0.2.2.2.2.2.1:(List Int)) (decide ((a0.1:Int)=8))) fun r131 =>
                              bif (r131.1.1:Bool) then
                                Option.bind (innkeepref03_row n (a0.2.2.2.2.2.2.2.1:(List Int)) (decide ((a0.1:Int)=8))) fun r132 =>
                                some (((r132.1.1:Bool),()),[])
                              else
                                some ((false,()),[])
                            else
                              some ((false,()),[])
                          else
                            some ((false,()),[])
                        else
                          some ((false,()),[])
                  else
                    some ((false,()),[])
              else
                some ((false,()),[]):=by kernel_rfl
def innkeepref08_pass.res:List Sh:=[.d tWorld,.d (.int .i64),.d (.int .i64)]
@[reducible] def innkeepref08_pass.R:Type:=dShL [.d tWorld,.d (.int .i64),.d (.int .i64)]×Fresh
def innkeepref08_pass (n:Nat) (a0:(den tWorld)) (a1:Int) (a2:Int):Option innkeepref08_pass.R:=gc n 45 [.dat tWorld a0 [],.dat (.int .i64) a1 [],.dat (.int .i64) a2 []] [.d tWorld,.d (.int .i64),.d (.int .i64)]
theorem innkeepref08_pass.eq (n:Nat) (a0:(den tWorld)) (a1:Int) (a2:Int):innkeepref08_pass (n+1) a0 a1 a2 =
  if (0:Int)≤a1∧a1<(((List.length (a0.2.1:(List Int))):Nat):Int) then
  if (0:Int)≤(List.getD (a0.2.1:(List Int)) (Int.toNat a1) (0:Int):Int)∧(List.getD (a0.2.1:(List Int)) (Int.toNat a1) (0:Int):Int)<(((List.length (a0.1.1:(List (List Int)))):Nat):Int) then
  if (0:Int)≤a2∧a2<((4:Nat):Int) then
  bif (decide ((List.getD (List.getD (a0.1.1:(List (List Int))) (Int.toNat (List.getD (a0.2.1:(List Int)) (Int.toNat a1) (0:Int):Int)) (dft (.arr 4 (.int .i64))):(List Int)) (Int.toNat a2) (0:Int):Int)=(-1))) then
    some ((a0,0,4,()),[])
  else
    Option.bind (innkeepref06_Copied n a0) fun r1 =>
    bif (keepAll r1.2 [((0,[1]),3)]) then
      if (0:Int)≤a1∧a1<(((List.length (r1.1.1.2.1:(List Int))):Nat):Int) then
      some (((r1.1.1.1,(List.set (r1.1.1.2.1:(List Int)) (Int.toNat a1) (List.getD (List.getD (a0.1.1:(List (List Int))) (Int.toNat (List.getD (a0.2.1:(List Int)) (Int.toNat a1) (0:Int):Int)) (dft (.arr 4 (.int .i64))):(List Int)) (Int.toNat a2) (0:Int):Int):(List Int)),(r1.1.1.2.2.1:(List Int)),(r1.1.1.2.2.2.1:(List (den tPlace))),()),(List.getD (List.getD (a0.1.1:(List (List Int))) (Int.toNat (List.getD (a0.2.1:(List Int)) (Int.toNat a1) (0:Int):Int)) (dft (.arr 4 (.int .i64))):(List Int)) (Int.toNat a2) (0:Int):Int),0,()),[(0,[1])])
      else none
    else
      none
  else none
  else none
  else none:=by kernel_rfl
def innkeepref08_Move.res:List Sh:=[.d tWorld,.d (.int .i64),.d (.int .i64)]
@[reducible] def innkeepref08_Move.R:Type:=dShL [.d tWorld,.d (.int .i64),.d (.int .i64)]×Fresh
def innkeepref08_Move (n:Nat) (a0:(den tWorld)) (a1:Int) (a2:Int):Option innkeepref08_Move.R:=gc n 21 [.dat tWorld a0 [],.dat (.int .i64) a1 [],.dat (.int .i64) a2 []] [.d tWorld,.d (.int .i64),.d (.int .i64)]
theorem innkeepref08_Move.eq (n:Nat) (a0:(den tWorld)) (a1:Int) (a2:Int):innkeepref08_Move (n+1) a0 a1 a2 =
  Option.bind (innkeepref08_pass n a0 a1 a2) fun r1 =>
  some ((r1.1.1,(r1.1.2.1:Int),(r1.1.2.2.1:Int),()),[]):=by kernel_rfl
def innkeepref08_Push.res:List Sh:=[.d tWorld,.d (.int .i64),.d (.int .i64)]
@[reducible] def innkeepref08_Push.R:Type:=dShL [.d tWorld,.d (.int .i64),.d (.int .i64)]×Fresh
def innkeepref08_Push (n:Nat) (a0:(den tWorld)) (a1:Int) (a2:Int) (a3:Int):Option innkeepref08_Push.R:=gc n 22 [.dat tWorld a0 [],.dat (.int .i64) a1 [],.dat (.int .i64) a2 [],.dat (.int .i64) a3 []] [.d tWorld,.d (.int .i64),.d (.int .i64)]
theorem innkeepref08_Push.eq (n:Nat) (a0:(den tWorld)) (a1:Int) (a2:Int) (a3:Int):innkeepref08_Push (n+1) a0 a1 a2 a3 =
  bif (decide (a2<0)) then
    some ((a0,0,3,()),[])
  else
    bif (decide (((List.length (a0.2.1:(List Int))):Int)≤a2)) then
      some ((a0,0,3,()),[])
    else
      bif (decide (a2=a1)) then
        some ((a0,0,12,()),[])
      else
        if (0:Int)≤a1∧a1<(((List.length (a0.2.1:(List Int))):Nat):Int) then
        if (0:Int)≤a2∧a2<(((List.length (a0.2.1:(List Int))):Nat):Int) then
        bif (!(decide ((List.getD (a0.2.1:(List Int)) (Int.toNat a1) (0:Int):Int)=(List.getD (a0.2.1:(List Int)) (Int.toNat a2) (0:Int):Int)))) then
          some ((a0,0,5,()),[])
        else
          Option.bind (innkeepref08_pass n a0 a2 a3) fun r1 =>
          some ((r1.1.1,(r1.1.2.1:Int),(r1.1.2.2.1:Int),()),[])
        else none
        else none:=by kernel_rfl
def innkeepref07_Room.res:List Sh:=[.d (.int .i64)]
@[reducible] def innkeepref07_Room.R:Type:=dShL [.d (.int .i64)]×Fresh
def innkeepref07_Room (n:Nat) (a0:(den tWorld)) (a1:(den tPlace)):Option innkeepref07_Room.R:=gc n 46 [.dat tWorld a0 [],.dat tPlace a1 []] [.d (.int .i64)]
theorem innkeepref07_Room.eq (n:Nat) (a0:(den tWorld)) (a1:(den tPlace)):innkeepref07_Room (n+1) a0 a1 =
  Option.bind (innkeepref06_Cap n a0 a1) fun r1 =>
  Option.bind (innkeepref06_Many n a0 a1) fun r2 =>
  some (((IntKind.wrap .i64 ((r1.1.1:Int) - (r2.1.1:Int))),()),[]):=by kernel_rfl
def innkeepref09_To.res:List Sh:=[.d tWorld]
@[reducible] def innkeepref09_To.R:Type:=dShL [.d tWorld]×Fresh
def innkeepref09_To (n:Nat) (a0:(den tWorld)) (a1:Int) (a2:(den tPlace)):Option innkeepref09_To.R:=gc n 47 [.dat tWorld a0 [],.dat (.int .i64) a1 [],.dat tPlace a2 []] [.d tWorld]
theorem innkeepref09_To.eq (n:Nat) (a0:(den tWorld)) (a1:Int) (a2:(den tPlace)):innkeepref09_To (n+1) a0 a1 a2 =
  Option.bind (innkeepref06_Copied n a0) fun r1 =>
  bif (keepAll r1.2 [((0,[3]),4)]) then
    if (0:Int)≤a1∧a1<(((List.length (r1.1.1.2.2.2.1:(List (den tPlace)))):Nat):Int) then
    some (((r1.1.1.1,(r1.1.1.2.1:(List Int)),(r1.1.1.2.2.1:(List Int)),(List.set (r1.1.1.2.2.2.1:(List (den tPlace))) (Int.toNat a1) a2:(List (den tPlace))),()),()),[(0,[3])])
    else none
  else
    none:=by kernel_rfl
def innkeepref09_Get.res:List Sh:=[.d tWorld,.d (.int .i64)]
@[reducible] def innkeepref09_Get.R:Type:=dShL [.d tWorld,.d (.int .i64)]×Fresh
def innkeepref09_Get (n:Nat) (a0:(den tWorld)) (a1:Int) (a2:Int):Option innkeepref09_Get.R:=gc n 23 [.dat tWorld a0 [],.dat (.int .i64) a1 [],.dat (.int .i64) a2 []] [.d tWorld,.d (.int .i64)]
theorem innkeepref09_Get.eq (n:Nat) (a0:(den tWorld)) (a1:Int) (a2:Int):innkeepref09_Get (n+1) a0 a1 a2 =
  bif (decide (a2<0)) then
    some ((a0,3,()),[])
  else
    bif (decide (((List.length (a0.2.2.2.1:(List (den tPlace)))):Int)≤a2)) then
      some ((a0,3,()),[])
    else
      if (0:Int)≤a2∧a2<(((List.length (a0.2.2.2.1:(List (den tPlace)))):Nat):Int) then
      if (0:Int)≤a1∧a1<(((List.length (a0.2.1:(List Int))):Nat):Int) then
      bif (!(eqT tPlace (List.getD (a0.2.2.2.1:(List (den tPlace))) (Int.toNat a2) (dft tPlace):(den tPlace)) (0,(List.getD (a0.2.1:(List Int)) (Int.toNat a1) (0:Int):Int),()))) then
        some ((a0,5,()),[])
      else
        Option.bind (innkeepref07_Room n a0 (1,a1,())) fun r1 =>
        bif (decide ((r1.1.1:Int)=0)) then
          some ((a0,9,()),[])
        else
          Option.bind (innkeepref09_To n a0 a2 (1,a1,())) fun r2 =>
          some ((r2.1.1,0,()),[])
      else none
      else none:=by kernel_rfl
def innkeepref09_Drop.res:List Sh:=[.d tWorld,.d (.int .i64)]
@[reducible] def innkeepref09_Drop.R:Type:=dShL [.d tWorld,.d (.int .i64)]×Fresh
def innkeepref09_Drop (n:Nat) (a0:(den tWorld)) (a1:Int) (a2:Int):Option innkeepref09_Drop.R:=gc n 24 [.dat tWorld a0 [],.dat (.int .i64) a1 [],.dat (.int .i64) a2 []] [.d tWorld,.d (.int .i64)]
theorem innkeepref09_Drop.eq (n:Nat) (a0:(den tWorld)) (a1:Int) (a2:Int):innkeepref09_Drop (n+1) a0 a1 a2 =
  bif (decide (a2<0)) then
    some ((a0,3,()),[])
  else
    bif (decide (((List.length (a0.2.2.2.1:(List (den tPlace)))):Int)≤a2)) then
      some ((a0,3,()),[])
    else
      if (0:Int)≤a2∧a2<(((List.length (a0.2.2.2.1:(List (den tPlace)))):Nat):Int) then
      bif (!(eqT tPlace (List.getD (a0.2.2.2.1:(List (den tPlace))) (Int.toNat a2) (dft tPlace):(den tPlace)) (1,a1,()))) then
        some ((a0,5,()),[])
      else
        if (0:Int)≤a1∧a1<(((List.length (a0.2.1:(List Int))):Nat):Int) then
        Option.bind (innkeepref07_Room n a0 (0,(List.getD (a0.2.1:(List Int)) (Int.toNat a1) (0:Int):Int),())) fun r1 =>
        bif (decide ((r1.1.1:Int)=0)) then
          some ((a0,9,()),[])
        else
          if (0:Int)≤a1∧a1<(((List.length (a0.2.1:(List Int))):Nat):Int) then
          Option.bind (innkeepref09_To n a0 a2 (0,(List.getD (a0.2.1:(List Int)) (Int.toNat a1) (0:Int):Int),())) fun r2 =>
          some ((r2.1.1,0,()),[])
          else none
        else none
      else none:=by kernel_rfl
def innkeepref10_is.res:List Sh:=[.d .bool]
@[reducible] def innkeepref10_is.R:Type:=dShL [.d .bool]×Fresh
def innkeepref10_is (n:Nat) (a0:(den tWorld)) (a1:Int):Option innkeepref10_is.R:=gc n 48 [.dat tWorld a0 [],.dat (.int .i64) a1 []] [.d .bool]
theorem innkeepref10_is.eq (n:Nat) (a0:(den tWorld)) (a1:Int):innkeepref10_is (n+1) a0 a1 =
  bif (decide (0≤a1)) then
    some (((decide (a1<((List.length (a0.2.2.2.1:(List (den tPlace)))):Int))),()),[])
  else
    some ((false,()),[]):=by kernel_rfl
def innkeepref07_Root.res:List Sh:=[.d tPlace]
@[reducible] def innkeepref07_Root.R:Type:=dShL [.d tPlace]×Fresh
def innkeepref07_Root (n:Nat) (a0:(den tWorld)) (a1:Int):Option innkeepref07_Root.R:=gc n 38 [.dat tWorld a0 [],.dat (.int .i64) a1 []] [.d tPlace]
theorem innkeepref07_Root.eq (n:Nat) (a0:(den tWorld)) (a1:Int):innkeepref07_Root (n+1) a0 a1 =
  if (0:Int)≤a1∧a1<(((List.length (a0.2.2.2.1:(List (den tPlace)))):Nat):Int) then
  bif (!(decide (((List.getD (a0.2.2.2.1:(List (den tPlace))) (Int.toNat a1) (dft tPlace):(den tPlace)).1:Int)=2))) then
    some (((List.getD (a0.2.2.2.1:(List (den tPlace))) (Int.toNat a1) (dft tPlace):(den tPlace)),()),[])
  else
    Option.bind (innkeepref07_Root n a0 ((List.getD (a0.2.2.2.1:(List (den tPlace))) (Int.toNat a1) (dft tPlace):(den tPlace)).2.1:Int)) fun r1 =>
    some ((r1.1.1,()),[])
  else none:=by kernel_rfl
def innkeepref10_Near.res:List Sh:=[.d .bool]
@[reducible] def innkeepref10_Near.R:Type:=dShL [.d .bool]×Fresh
def innkeepref10_Near (n:Nat) (a0:(den tWorld)) (a1:Int) (a2:Int):Option innkeepref10_Near.R:=gc n 49 [.dat tWorld a0 [],.dat (.int .i64) a1 [],.dat (.int .i64) a2 []] [.d .bool]
theorem innkeepref10_Near.eq (n:Nat) (a0:(den tWorld)) (a1:Int) (a2:Int):innkeepref10_Near (n+1) a0 a1 a2 =
  Option.bind (innkeepref07_Root n a0 a2) fun r1 =>
  bif (decide ((r1.1.1.1:Int)=0)) then
    if (0:Int)≤a1∧a1<(((List.length (a0.2.1:(List Int))):Nat):Int) then
    bif (decide ((r1.1.1.2.1:Int)=(List.getD (a0.2.1:(List Int)) (Int.toNat a1) (0:Int):Int))) then
      some ((true,()),[])
    else
      bif (decide ((r1.1.1.1:Int)=1)) then
        some (((decide ((r1.1.1.2.1:Int)=a1)),()),[])
      else
        some ((false,()),[])
    else none
  else
    bif (decide ((r1.1.1.1:Int)=1)) then
      some (((decide ((r1.1.1.2.1:Int)=a1)),()),[])
    else
      some ((false,()),[]):=by kernel_rfl
def innkeepref07_Within.res:List Sh:=[.d .bool]
@[reducible] def innkeepref07_Within.R:Type:=dShL [.d .bool]×Fresh
def innkeepref07_Within (n:Nat) (a0:(den tWorld)) (a1:Int) (a2:Int):Option innkeepref07_Within.R:=gc n 50 [.dat tWorld a0 [],.dat (.int .i64) a1 [],.dat (.int .i64) a2 []] [.d .bool]
theorem innkeepref07_Within.eq (n:Nat) (a0:(den tWorld)) (a1:Int) (a2:Int):innkeepref07_Within (n+1) a0 a1 a2 =
  bif (decide (a1=a2)) then
    some ((true,()),[])
  else
    if (0:Int)≤a1∧a1<(((List.length (a0.2.2.2.1:(List (den tPlace)))):Nat):Int) then
    bif (decide (((List.getD (a0.2.2.2.1:(List (den tPlace))) (Int.toNat a1) (dft tPlace):(den tPlace)).1:Int)=2)) then
      Option.bind (innkeepref07_Within n a0 ((List.getD (a0.2.2.2.1:(List (den tPlace))) (Int.toNat a1) (dft tPlace):(den tPlace)).2.1:Int) a2) fun r1 =>
      some (((r1.1.1:Bool),()),[])
    else
      some ((false,()),[])
    else none:=by kernel_rfl
def innkeepref10_Put.res:List Sh:=[.d tWorld,.d (.int .i64)]
@[reducible] def innkeepref10_Put.R:Type:=dShL [.d tWorld,.d (.int .i64)]×Fresh
def innkeepref10_Put (n:Nat) (a0:(den tWorld)) (a1:Int) (a2:Int) (a3:Int):Option innkeepref10_Put.R:=gc n 25 [.dat tWorld a0 [],.dat (.int .i64) a1 [],.dat (.int .i64) a2 [],.dat (.int .i64) a3 []] [.d tWorld,.d (.int .i64)]
def innkeepref10_Put.l0 (n m0:Nat) (t0:(den tWorld)) (t1:Int) (t2:Int) (t3:Int) (t9:Int) (t11:Int) (o0:(den tWorld)) (o1:(den tWorld)) (o2:(den tWorld)):Option innkeepref10_Put.R :=
  lpN n c25_33 m0 (kBlk 0 (kSeq (run (gc n) n) c25_31 (retK innkeepref10_Put.fn innkeepref10_Put.res) (retK innkeepref10_Put.fn innkeepref10_Put.res)) (retK innkeepref10_Put.fn innkeepref10_Put.res))
    [(0,.dat tWorld t0 []),(1,.dat (.int .i64) t1 []),(2,.dat (.int .i64) t2 []),(3,.dat (.int .i64) t3 []),(4,.ptr 0 []),(8,.ptr 1 []),(9,.dat (.int .i64) t9 []),(10,.ptr 2 []),(11,.dat (.int .i64) t11 [])]
    [.box tWorld o0 [],.box tWorld o1 [],.box tWorld o2 []]
theorem innkeepref10_Put.l0_eq (n m0:Nat) (t0:(den tWorld)) (t1:Int) (t2:Int) (t3:Int) (t9:Int) (t11:Int) (o0:(den tWorld)) (o1:(den tWorld)) (o2:(den tWorld)):innkeepref10_Put.l0 n (m0+1) t0 t1 t2 t3 t9 t11 o0 o1 o2 =
  bif (decide (t11<((List.length (o2.2.2.2.1:(List (den tPlace)))):Int))) then
    if (0:Int)≤t11∧t11<(((List.length (o2.2.2.2.1:(List (den tPlace)))):Nat):Int) then
    Option.bind (innkeepref06_Depth n o2 (List.getD (o2.2.2.2.1:(List (den tPlace))) (Int.toNat t11) (dft tPlace):(den tPlace))) fun r6 =>
    bif (decide (4<(r6.1.1:Int))) then
      some ((o0,8,()),[])
    else
      innkeepref10_Put.l0 n m0 t0 t1 t2 t3 t9 (IntKind.wrap .i64 (t11+1)) o0 o1 o2
    else none
  else
    Option.bind (innkeepref07_Room n o0 (2,t3,())) fun r7 =>
    bif (decide ((r7.1.1:Int)=0)) then
      some ((o0,9,()),[])
    else
      some ((o2,0,()),[]):=by kernel_rfl
theorem innkeepref10_Put.eq (n:Nat) (a0:(den tWorld)) (a1:Int) (a2:Int) (a3:Int):innkeepref10_Put (n+1) a0 a1 a2 a3 =
  Option.bind (innkeepref10_is n a0 a2) fun r1 =>
  bif (!(r1.1.1:Bool)) then
    some ((a0,3,()),[])
  else
    Option.bind (innkeepref10_is n a0 a3) fun r2 =>
    bif (!(r2.1.1:Bool)) then
      some ((a0,3,()),[])
    else
      if (0:Int)≤a2∧a2<(((List.length (a0.2.2.2.1:(List (den tPlace)))):Nat):Int) then
      bif (!(eqT tPlace (List.getD (a0.2.2.2.1:(List (den tPlace))) (Int.toNat a2) (dft tPlace):(den tPlace)) (1,a1,()))) then
        some ((a0,5,()),[])
      else
        Option.bind (innkeepref10_Near n a0 a1 a3) fun r3 =>
        bif (!(r3.1.1:Bool)) then
          some ((a0,5,()),[])
        else
          if (0:Int)≤a3∧a3<(((List.length (a0.1.2.2.2.2.1:(List Bool))):Nat):Int) then
          bif (!(List.getD (a0.1.2.2.2.2.1:(List Bool)) (Int.toNat a3) false:Bool)) then
            some ((a0,6,()),[])
          else
            Option.bind (innkeepref07_Within n a0 a3 a2) fun r4 =>
            bif (r4.1.1:Bool) then
              some ((a0,7,()),[])
            else
              Option.bind (innkeepref09_To n a0 a2 (2,a3,())) fun r5 =>
              innkeepref10_Put.l0 n n a0 a1 a2 a3 0 0 a0 ((([]:List (List Int)),([]:List Int),([]:List Int),([]:List Int),([]:List Bool),0,0,0,()),([]:List Int),([]:List Int),([]:List (den tPlace)),()) r5.1.1
          else none
      else none:=by kernel_rfl
def innkeepref10_Take.res:List Sh:=[.d tWorld,.d (.int .i64)]
@[reducible] def innkeepref10_Take.R:Type:=dShL [.d tWorld,.d (.int .i64)]×Fresh
def innkeepref10_Take (n:Nat) (a0:(den tWorld)) (a1:Int) (a2:Int) (a3:Int):Option innkeepref10_Take.R:=gc n 26 [.dat tWorld a0 [],.dat (.int .i64) a1 [],.dat (.int .i64) a2 [],.dat (.int .i64) a3 []] [.d tWorld,.d (.int .i64)]
theorem innkeepref10_Take.eq (n:Nat) (a0:(den tWorld)) (a1:Int) (a2:Int) (a3:Int):innkeepref10_Take (n+1) a0 a1 a2 a3 =
  Option.bind (innkeepref10_is n a0 a2) fun r1 =>
  bif (!(r1.1.1:Bool)) then
    some ((a0,3,()),[])
  else
    Option.bind (innkeepref10_is n a0 a3) fun r2 =>
    bif (!(r2.1.1:Bool)) then
      some ((a0,3,()),[])
    else
      Option.bind (innkeepref10_Near n a0 a1 a3) fun r3 =>
      bif (!(r3.1.1:Bool)) then
        some ((a0,5,()),[])
      else
        if (0:Int)≤a3∧a3<(((List.length (a0.1.2.2.2.2.1:(List Bool))):Nat):Int) then
        bif (!(List.getD (a0.1.2.2.2.2.1:(List Bool)) (Int.toNat a3) false:Bool)) then
          some ((a0,6,()),[])
        else
          if (0:Int)≤a2∧a2<(((List.length (a0.2.2.2.1:(List (den tPlace)))):Nat):Int) then
          bif (!(eqT tPlace (List.getD (a0.2.2.2.1:(List (den tPlace))) (Int.toNat a2) (dft tPlace):(den tPlace)) (2,a3,()))) then
            some ((a0,5,()),[])
          else
            Option.bind (innkeepref07_Room n a0 (1,a1,())) fun r4 =>
            bif (decide ((r4.1.1:Int)=0)) then
              some ((a0,9,()),[])
            else
              Option.bind (innkeepref09_To n a0 a2 (1,a1,())) fun r5 =>
              some ((r5.1.1,0,()),[])
          else none
        else none:=by kernel_rfl
def innkeepref11_Give.res:List Sh:=[.d tWorld,.d (.int .i64)]
@[reducible] def innkeepref11_Give.R:Type:=dShL [.d tWorld,.d (.int .i64)]×Fresh
def innkeepref11_Give (n:Nat) (a0:(den tWorld)) (a1:Int) (a2:Int) (a3:Int):Option innkeepref11_Give.R:=gc n 27 [.dat tWorld a0 [],.dat (.int .i64) a1 [],.dat (.int .i64) a2 [],.dat (.int .i64) a3 []] [.d tWorld,.d (.int .i64)]
theorem innkeepref11_Give.eq (n:Nat) (a0:(den tWorld)) (a1:Int) (a2:Int) (a3:Int):innkeepref11_Give (n+1) a0 a1 a2 a3 =
  bif (decide (a2<0)) then
    some ((a0,3,()),[])
  else
    bif (decide (((List.length (a0.2.2.2.1:(List (den tPlace)))):Int)≤a2)) then
      some ((a0,3,()),[])
    else
      bif (decide (a3<0)) then
        some ((a0,3,()),[])
      else
        bif (decide (((List.length (a0.2.1:(List Int))):Int)≤a3)) then
          some ((a0,3,()),[])
        else
          bif (decide (a1=a3)) then
            some ((a0,12,()),[])
          else
            if (0:Int)≤a1∧a1<(((List.length (a0.2.1:(List Int))):Nat):Int) then
            if (0:Int)≤a3∧a3<(((List.length (a0.2.1:(List Int))):Nat):Int) then
            bif (!(decide ((List.getD (a0.2.1:(List Int)) (Int.toNat a1) (0:Int):Int)=(List.getD (a0.2.1:(List Int)) (Int.toNat a3) (0:Int):Int)))) then
              some ((a0,5,()),[])
            else
              if (0:Int)≤a2∧a2<(((List.length (a0.2.2.2.1:(List (den tPlace)))):Nat):Int) then
              bif (!(eqT tPlace (List.getD (a0.2.2.2.1:(List (den tPlace))) (Int.toNat a2) (dft tPlace):(den tPlace)) (1,a1,()))) then
                some ((a0,5,()),[])
              else
                Option.bind (innkeepref07_Room n a0 (1,a3,())) fun r1 =>
                bif (decide ((r1.1.1:Int)=0)) then
                  some ((a0,9,()),[])
                else
                  Option.bind (innkeepref09_To n a0 a2 (1,a3,())) fun r2 =>
                  some ((r2.1.1,0,()),[])
              else none
            else none
            else none:=by kernel_rfl
def innkeepref01_Swap.res:List Sh:=[.d (.int .i64),.d (.int .i64),.d (.int .i64)]
@[reducible] def innkeepref01_Swap.R:Type:=dShL [.d (.int .i64),.d (.int .i64),.d (.int .i64)]×Fresh
def innkeepref01_Swap (n:Nat) (a0:Int) (a1:Int) (a2:Int) (a3:Int):Option innkeepref01_Swap.R:=gc n 51 [.dat (.int .i64) a0 [],.dat (.int .i64) a1 [],.dat (.int .i64) a2 [],.dat (.int .i64) a3 []] [.d (.int .i64),.d (.int .i64),.d (.int .i64)]
theorem innkeepref01_Swap.eq (n:Nat) (a0:Int) (a1:Int) (a2:Int) (a3:Int):innkeepref01_Swap (n+1) a0 a1 a2 a3 =
  bif (decide (a2<0)) then
    some ((a0,a1,1,()),[])
  else
    bif (decide (a3<0)) then
      some ((a0,a1,1,()),[])
    else
      bif (decide (a0<a2)) then
        some ((a0,a1,10,()),[])
      else
        bif (decide (a1<a3)) then
          some ((a0,a1,10,()),[])
        else
          Option.bind (innkeepref01_Is n (IntKind.wrap .i64 ((IntKind.wrap .i64 (a0+a3)) - a2))) fun r1 =>
          bif (!(r1.1.1:Bool)) then
            some ((a0,a1,11,()),[])
          else
            Option.bind (innkeepref01_Is n (IntKind.wrap .i64 ((IntKind.wrap .i64 (a1+a2)) - a3))) fun r2 =>
            bif (!(r2.1.1:Bool)) then
              some ((a0,a1,11,()),[])
            else
              some (((IntKind.wrap .i64 ((IntKind.wrap .i64 (a0+a3)) - a2)),(IntKind.wrap .i64 ((IntKind.wrap .i64 (a1+a2)) - a3)),0,()),[]):=by kernel_rfl
def innkeepref11_Trade.res:List Sh:=[.d tWorld,.d (.int .i64)]
@[reducible] def innkeepref11_Trade.R:Type:=dShL [.d tWorld,.d (.int .i64)]×Fresh
def innkeepref11_Trade (n:Nat) (a0:(den tWorld)) (a1:Int) (a2:(den tCmd)):Option innkeepref11_Trade.R:=gc n 28 [.dat tWorld a0 [],.dat (.int .i64) a1 [],.dat tCmd a2 []] [.d tWorld,.d (.int .i64)]
def innkeepref11_Trade.l0 (n m0:Nat) (t0:(den tWorld)) (t1:Int) (t2:(den tCmd)) (t7:Int) (t8:Int) (t10:Int) (o0:(den tWorld)) (o1:(den tCmd)) (o2:(den tWorld)) (o5:(List Int)):Option innkeepref11_Trade.R :=
  lpN n c28_14 m0 (kBlk 0 (kSeq (run (gc n) n) c28_12 (retK innkeepref11_Trade.fn innkeepref11_Trade.res) (retK innkeepref11_Trade.fn innkeepref11_Trade.res)) (retK innkeepref11_Trade.fn innkeepref11_Trade.res))
    [(0,.dat tWorld t0 []),(1,.dat (.int .i64) t1 []),(2,.dat tCmd t2 []),(3,.ptr 0 []),(5,.ptr 1 []),(6,.ptr 2 []),(7,.dat (.int .i64) t7 []),(8,.dat (.int .i64) t8 []),(9,.dat (.sl (.int .i64)) ([]:List Int) [([],some 5)]),(10,.dat (.int .i64) t10 [])]
    [.box tWorld o0 [],.box tCmd o1 [],.box tWorld o2 [],.dead,.dead,.arr (.int .i64) o5]
def innkeepref11_Trade.l1 (n m0:Nat) (t0_1:(den tWorld)) (t1_1:Int) (t2_1:(den tCmd)) (t7_1:Int) (t8_1:Int) (t10_1:Int) (t11_1:Int) (o0_1:(den tWorld)) (o1_1:(den tCmd)) (o2_1:(den tWorld)) (o5_1:(List Int)):Option innkeepref11_Trade.R :=
  lpN n c28_45 m0 (kBlk 2 (kSeq (run (gc n) n) c28_43 (retK innkeepref11_Trade.fn innkeepref11_Trade.res) (retK innkeepref11_Trade.fn innkeepref11_Trade.res)) (retK innkeepref11_Trade.fn innkeepref11_Trade.res))
    [(0,.dat tWorld t0_1 []),(1,.dat (.int .i64) t1_1 []),(2,.dat tCmd t2_1 []),(3,.ptr 0 []),(5,.ptr 1 []),(6,.ptr 2 []),(7,.dat (.int .i64) t7_1 []),(8,.dat (.int .i64) t8_1 []),(9,.dat (.sl (.int .i64)) ([]:List Int) [([],some 5)]),(10,.dat (.int .i64) t10_1 []),(11,.dat (.int .i64) t11_1 [])]
    [.box tWorld o0_1 [],.box tCmd o1_1 [],.box tWorld o2_1 [],.dead,.dead,.arr (.int .i64) o5_1]
def innkeepref11_Trade.l2 (n m0 m1:Nat) (t0_2:(den tWorld)) (t1_2:Int) (t2_2:(den tCmd)) (t7_2:Int) (t8_2:Int) (t10_2:Int) (t11_2:Int) (t12_2:Int) (o0_2:(den tWorld)) (o1_2:(den tCmd)) (o2_2:(den tWorld)) (o5_2:(List Int)):Option innkeepref11_Trade.R :=
  lpN n c28_53 m1 (kBlk 4 (kSeq (run (gc n) n) c28_51 (kSeq (run (gc n) n) c28_46 (fun _ s h=>lpN n c28_45 m0 (kBlk 2 (kSeq (run (gc n) n) c28_43 (retK innkeepref11_Trade.fn innkeepref11_Trade.res) (retK innkeepref11_Trade.fn innkeepref11_Trade.res)) (retK innkeepref11_Trade.fn innkeepref11_Trade.res)) s h) (kBlk 2 (kSeq (run (gc n) n) c28_43 (retK innkeepref11_Trade.fn innkeepref11_Trade.res) (retK innkeepref11_Trade.fn innkeepref11_Trade.res)) (retK innkeepref11_Trade.fn innkeepref11_Trade.res))) (kBlk 2 (kSeq (run (gc n) n) c28_43 (retK innkeepref11_Trade.fn innkeepref11_Trade.res) (retK innkeepref11_Trade.fn innkeepref11_Trade.res)) (retK innkeepref11_Trade.fn innkeepref11_Trade.res))) (kBlk 3 (kSeq (run (gc n) n) c28_51 (kSeq (run (gc n) n) c28_46 (fun _ s h=>lpN n c28_45 m0 (kBlk 2 (kSeq (run (gc n) n) c28_43 (retK innkeepref11_Trade.fn innkeepref11_Trade.res) (retK innkeepref11_Trade.fn innkeepref11_Trade.res)) (retK innkeepref11_Trade.fn innkeepref11_Trade.res)) s h) (kBlk 2 (kSeq (run (gc n) n) c28_43 (retK innkeepref11_Trade.fn innkeepref11_Trade.res) (retK innkeepref11_Trade.fn innkeepref11_Trade.res)) (retK innkeepref11_Trade.fn innkeepref11_Trade.res))) (kBlk 2 (kSeq (run (gc n) n) c28_43 (retK innkeepref11_Trade.fn innkeepref11_Trade.res) (retK innkeepref11_Trade.fn innkeepref11_Trade.res)) (retK innkeepref11_Trade.fn innkeepref11_Trade.res))) (kBlk 2 (kSeq (run (gc n) n) c28_43 (retK innkeepref11_Trade.fn innkeepref11_Trade.res) (retK innkeepref11_Trade.fn innkeepref11_Trade.res)) (retK innkeepref11_Trade.fn innkeepref11_Trade.res))))
    [(0,.dat tWorld t0_2 []),(1,.dat (.int .i64) t1_2 []),(2,.dat tCmd t2_2 []),(3,.ptr 0 []),(5,.ptr 1 []),(6,.ptr 2 []),(7,.dat (.int .i64) t7_2 []),(8,.dat (.int .i64) t8_2 []),(9,.dat (.sl (.int .i64)) ([]:List Int) [([],some 5)]),(10,.dat (.int .i64) t10_2 []),(11,.dat (.int .i64) t11_2 []),(12,.dat (.int .i64) t12_2 [])]
    [.box tWorld o0_2 [],.box tCmd o1_2 [],.box tWorld o2_2 [],.dead,.dead,.arr (.int .i64) o5_2]
def innkeepref11_Trade.l3 (n m0:Nat) (t0_3:(den tWorld)) (t1_3:Int) (t2_3:(den tCmd)) (t7_3:Int) (t8_3:Int) (t10_3:Int) (t11_3:Int) (t14_3:Int) (o0_3:(den tWorld)) (o1_3:(den tCmd)) (o2_3:(den tWorld)) (o5_3:(List Int)) (o6_3:(den tWorld)) (o7_3:(List (den tPlace))) (o8_3:(List Int)):Option innkeepref11_Trade.R :=
  lpN n c28_74 m0 (kBlk 6 (kSeq (run (gc n) n) c28_72 (retK innkeepref11_Trade.fn innkeepref11_Trade.res) (retK innkeepref11_Trade.fn innkeepref11_Trade.res)) (retK innkeepref11_Trade.fn innkeepref11_Trade.res))
    [(0,.dat tWorld t0_3 []),(1,.dat (.int .i64) t1_3 []),(2,.dat tCmd t2_3 []),(3,.ptr 0 []),(5,.ptr 1 []),(6,.ptr 2 []),(7,.dat (.int .i64) t7_3 []),(8,.dat (.int .i64) t8_3 []),(9,.dat (.sl (.int .i64)) ([]:List Int) [([],some 5)]),(10,.dat (.int .i64) t10_3 []),(11,.dat (.int .i64) t11_3 []),(13,.ptr 6 []),(14,.dat (.int .i64) t14_3 [])]
    [.box tWorld o0_3 [],.box tCmd o1_3 [],.box tWorld o2_3 [],.dead,.dead,.arr (.int .i64) o5_3,.box tWorld o6_3 [([2],some 8),([3],some 7)],.arr tPlace o7_3,.arr (.int .i64) o8_3]
theorem innkeepref11_Trade.l0_eq (n m0:Nat) (t0:(den tWorld)) (t1:Int) (t2:(den tCmd)) (t7:Int) (t8:Int) (t10:Int) (o0:(den tWorld)) (o1:(den tCmd)) (o2:(den tWorld)) (o5:(List Int)):innkeepref11_Trade.l0 n (m0+1) t0 t1 t2 t7 t8 t10 o0 o1 o2 o5 =
  bif (decide (t10<((List.length o5):Int))) then
    if (0:Int)≤t10∧t10<(((List.length o5):Nat):Int) then
    bif (decide ((List.getD o5 (Int.toNat t10) (0:Int):Int)<0)) then
      some ((o0,3,()),[])
    else
      if (0:Int)≤t10∧t10<(((List.length o5):Nat):Int) then
      bif (decide (((List.length (o0.2.2.2.1:(List (den tPlace)))):Int)≤(List.getD o5 (Int.toNat t10) (0:Int):Int))) then
        some ((o0,3,()),[])
      else
        innkeepref11_Trade.l0 n m0 t0 t1 t2 t7 t8 (IntKind.wrap .i64 (t10+1)) o0 o1 o2 o5
      else none
    else none
  else
    bif (decide (t1=t8)) then
      some ((o0,12,()),[])
    else
      if (0:Int)≤t1∧t1<(((List.length (o0.2.1:(List Int))):Nat):Int) then
      if (0:Int)≤t8∧t8<(((List.length (o0.2.1:(List Int))):Nat):Int) then
      bif (!(decide ((List.getD (o0.2.1:(List Int)) (Int.toNat t1) (0:Int):Int)=(List.getD (o0.2.1:(List Int)) (Int.toNat t8) (0:Int):Int)))) then
        some ((o0,5,()),[])
      else
        innkeepref11_Trade.l1 n n t0 t1 t2 t7 t8 t10 0 o0 o1 o2 o5
      else none
      else none:=by kernel_rfl
theorem innkeepref11_Trade.l1_eq (n m0:Nat) (t0_1:(den tWorld)) (t1_1:Int) (t2_1:(den tCmd)) (t7_1:Int) (t8_1:Int) (t10_1:Int) (t11_1:Int) (o0_1:(den tWorld)) (o1_1:(den tCmd)) (o2_1:(den tWorld)) (o5_1:(List Int)):innkeepref11_Trade.l1 n (m0+1) t0_1 t1_1 t2_1 t7_1 t8_1 t10_1 t11_1 o0_1 o1_1 o2_1 o5_1 =
  bif (decide (t11_1<((List.length o5_1):Int))) then
    innkeepref11_Trade.l2 n m0 n t0_1 t1_1 t2_1 t7_1 t8_1 t10_1 t11_1 0 o0_1 o1_1 o2_1 o5_1
  else
    Option.bind (innkeepref06_Copied n o0_1) fun r1 =>
    bif (keepAll r1.2 [((0,[3]),7),((0,[2]),8)]) then
      innkeepref11_Trade.l3 n n t0_1 t1_1 t2_1 t7_1 t8_1 t10_1 t11_1 0 o0_1 o1_1 o2_1 o5_1 (r1.1.1.1,(r1.1.1.2.1:(List Int)),([]:List Int),([]:List (den tPlace)),()) (r1.1.1.2.2.2.1:(List (den tPlace))) (r1.1.1.2.2.1:(List Int))
    else
      none:=by kernel_rfl
theorem innkeepref11_Trade.l2_eq (n m0 m1:Nat) (t0_2:(den tWorld)) (t1_2:Int) (t2_2:(den tCmd)) (t7_2:Int) (t8_2:Int) (t10_2:Int) (t11_2:Int) (t12_2:Int) (o0_2:(den tWorld)) (o1_2:(den tCmd)) (o2_2:(den tWorld)) (o5_2:(List Int)):innkeepref11_Trade.l2 n m0 (m1+1) t0_2 t1_2 t2_2 t7_2 t8_2 t10_2 t11_2 t12_2 o0_2 o1_2 o2_2 o5_2 =
  bif (decide (t12_2<t11_2)) then
    if (0:Int)≤t11_2∧t11_2<(((List.length o5_2):Nat):Int) then
    if (0:Int)≤t12_2∧t12_2<(((List.length o5_2):Nat):Int) then
    bif (decide ((List.getD o5_2 (Int.toNat t11_2) (0:Int):Int)=(List.getD o5_2 (Int.toNat t12_2) (0:Int):Int))) then
      some ((o0_2,13,()),[])
    else
      innkeepref11_Trade.l2 n m0 m1 t0_2 t1_2 t2_2 t7_2 t8_2 t10_2 t11_2 (IntKind.wrap .i64 (t12_2+1)) o0_2 o1_2 o2_2 o5_2
    else none
    else none
  else
    innkeepref11_Trade.l1 n m0 t0_2 t1_2 t2_2 t7_2 t8_2 t10_2 (IntKind.wrap .i64 (t11_2+1)) o0_2 o1_2 o2_2 o5_2:=by kernel_rfl
theorem innkeepref11_Trade.l3_eq (n m0:Nat) (t0_3:(den tWorld)) (t1_3:Int) (t2_3:(den tCmd)) (t7_3:Int) (t8_3:Int) (t10_3:Int) (t11_3:Int) (t14_3:Int) (o0_3:(den tWorld)) (o1_3:(den tCmd)) (o2_3:(den tWorld)) (o5_3:(List Int)) (o6_3:(den tWorld)) (o7_3:(List (den tPlace))) (o8_3:(List Int)):innkeepref11_Trade.l3 n (m0+1) t0_3 t1_3 t2_3 t7_3 t8_3 t10_3 t11_3 t14_3 o0_3 o1_3 o2_3 o5_3 o6_3 o7_3 o8_3 =
  bif (decide (t14_3<((List.length o5_3):Int))) then
    bif (decide (((List.length (o1_3.2.2.2.2.2.1:(List Int))):Int)≤t14_3)) then
      if (0:Int)≤t14_3∧t14_3<(((List.length o5_3):Nat):Int) then
      if (0:Int)≤(List.getD o5_3 (Int.toNat t14_3) (0:Int):Int)∧(List.getD o5_3 (Int.toNat t14_3) (0:Int):Int)<(((List.length (o0_3.2.2.2.1:(List (den tPlace)))):Nat):Int) then
      bif (!(eqT tPlace (List.getD (o0_3.2.2.2.1:(List (den tPlace))) (Int.toNat (List.getD o5_3 (Int.toNat t14_3) (0:Int):Int)) (dft tPlace):(den tPlace)) (1,t8_3,()))) then
        some ((o0_3,5,()),[])
      else
        if (0:Int)≤t14_3∧t14_3<(((List.length o5_3):Nat):Int) then
        if (0:Int)≤(List.getD o5_3 (Int.toNat t14_3) (0:Int):Int)∧(List.getD o5_3 (Int.toNat t14_3) (0:Int):Int)<(((List.length o7_3):Nat):Int) then
        innkeepref11_Trade.l3 n m0 t0_3 t1_3 t2_3 t7_3 t8_3 t10_3 t11_3 (IntKind.wrap .i64 (t14_3+1)) o0_3 o1_3 o2_3 o5_3 o6_3 (List.set o7_3 (Int.toNat (List.getD o5_3 (Int.toNat t14_3) (0:Int):Int)) (1,t1_3,()):(List (den tPlace))) o8_3
        else none
        else none
      else none
      else none
    else
      if (0:Int)≤t14_3∧t14_3<(((List.length o5_3):Nat):Int) then
      if (0:Int)≤(List.getD o5_3 (Int.toNat t14_3) (0:Int):Int)∧(List.getD o5_3 (Int.toNat t14_3) (0:Int):Int)<(((List.length (o0_3.2.2.2.1:(List (den tPlace)))):Nat):Int) then
      bif (!(eqT tPlace (List.getD (o0_3.2.2.2.1:(List (den tPlace))) (Int.toNat (List.getD o5_3 (Int.toNat t14_3) (0:Int):Int)) (dft tPlace):(den tPlace)) (1,t1_3,()))) then
        some ((o0_3,5,()),[])
      else
        if (0:Int)≤t14_3∧t14_3<(((List.length o5_3):Nat):Int) then
        if (0:Int)≤(List.getD o5_3 (Int.toNat t14_3) (0:Int):Int)∧(List.getD o5_3 (Int.toNat t14_3) (0:Int):Int)<(((List.length o7_3):Nat):Int) then
        innkeepref11_Trade.l3 n m0 t0_3 t1_3 t2_3 t7_3 t8_3 t10_3 t11_3 (IntKind.wrap .i64 (t14_3+1)) o0_3 o1_3 o2_3 o5_3 o6_3 (List.set o7_3 (Int.toNat (List.getD o5_3 (Int.toNat t14_3) (0:Int):Int)) (1,t8_3,()):(List (den tPlace))) o8_3
        else none
        else none
      else none
      else none
  else
    Option.bind (innkeepref07_Room n (o6_3.1,(o6_3.2.1:(List Int)),o8_3,o7_3,()) (1,t1_3,())) fun r2 =>
    bif (decide ((r2.1.1:Int)<0)) then
      some ((o0_3,9,()),[])
    else
      Option.bind (innkeepref07_Room n (o6_3.1,(o6_3.2.1:(List Int)),o8_3,o7_3,()) (1,t8_3,())) fun r3 =>
      bif (decide ((r3.1.1:Int)<0)) then
        some ((o0_3,9,()),[])
      else
        if (0:Int)≤t1_3∧t1_3<(((List.length (o0_3.2.2.1:(List Int))):Nat):Int) then
        if (0:Int)≤t8_3∧t8_3<(((List.length (o0_3.2.2.1:(List Int))):Nat):Int) then
        Option.bind (innkeepref01_Swap n (List.getD (o0_3.2.2.1:(List Int)) (Int.toNat t1_3) (0:Int):Int) (List.getD (o0_3.2.2.1:(List Int)) (Int.toNat t8_3) (0:Int):Int) (o1_3.2.2.2.2.2.2.1:Int) (o1_3.2.2.2.2.2.2.2.2.1:Int)) fun r4 =>
        bif (!(decide ((r4.1.2.2.1:Int)=0))) then
          some ((o0_3,(r4.1.2.2.1:Int),()),[])
        else
          if (0:Int)≤t1_3∧t1_3<(((List.length o8_3):Nat):Int) then
          if (0:Int)≤t8_3∧t8_3<(((List.length (List.set o8_3 (Int.toNat t1_3) (r4.1.1:Int):(List Int))):Nat):Int) then
          some (((o6_3.1,(o6_3.2.1:(List Int)),(List.set (List.set o8_3 (Int.toNat t1_3) (r4.1.1:Int):(List Int)) (Int.toNat t8_3) (r4.1.2.1:Int):(List Int)),o7_3,()),0,()),[(0,[2]),(0,[3])])
          else none
          else none
        else none
        else none:=by kernel_rfl
theorem innkeepref11_Trade.eq (n:Nat) (a0:(den tWorld)) (a1:Int) (a2:(den tCmd)):innkeepref11_Trade (n+1) a0 a1 a2 =
  if 0+(List.length (a2.2.2.2.2.2.1:(List Int)))≤1048576 then
  if (List.length (([]:List Int) ++ (a2.2.2.2.2.2.1:(List Int))))+(List.length (a2.2.2.2.2.2.2.2.1:(List Int)))≤1048576 then
  bif (decide ((a2.2.2.2.2.1:Int)<0)) then
    some ((a0,3,()),[])
  else
    bif (decide (((List.length (a0.2.1:(List Int))):Int)≤(a2.2.2.2.2.1:Int))) then
      some ((a0,3,()),[])
    else
      innkeepref11_Trade.l0 n n a0 a1 a2 0 (a2.2.2.2.2.1:Int) 0 a0 a2 ((([]:List (List Int)),([]:List Int),([]:List Int),([]:List Int),([]:List Bool),0,0,0,()),([]:List Int),([]:List Int),([]:List (den tPlace)),()) ((([]:List Int) ++ (a2.2.2.2.2.2.1:(List Int))) ++ (a2.2.2.2.2.2.2.2.1:(List Int)))
  else none
  else none:=by kernel_rfl
def innkeepref12_Present.res:List Sh:=[.d (.sl (.int .i64))]
@[reducible] def innkeepref12_Present.R:Type:=dShL [.d (.sl (.int .i64))]×Fresh
def innkeepref12_Present (n:Nat) (a0:(den tWorld)) (a1:Int):Option innkeepref12_Present.R:=gc n 52 [.dat tWorld a0 [],.dat (.int .i64) a1 []] [.d (.sl (.int .i64))]
def innkeepref12_Present.l0 (n m0:Nat) (t0:(den tWorld)) (t1:Int) (t4:(List Int)) (t6:Int) (o0:(den tWorld)) (o3:(List Int)):Option innkeepref12_Present.R :=
  lpN n c52_4 m0 (kBlk 0 (kSeq (run (gc n) n) c52_2 (retK innkeepref12_Present.fn innkeepref12_Present.res) (retK innkeepref12_Present.fn innkeepref12_Present.res)) (retK innkeepref12_Present.fn innkeepref12_Present.res))
    [(0,.dat tWorld t0 []),(1,.dat (.int .i64) t1 []),(2,.ptr 0 []),(4,.dat (.sl (.int .i64)) t4 []),(5,.dat (.sl (.int .i64)) ([]:List Int) [([],some 3)]),(6,.dat (.int .i64) t6 [])]
    [.box tWorld o0 [],.none,.none,.arr (.int .i64) o3]
theorem innkeepref12_Present.l0_eq (n m0:Nat) (t0:(den tWorld)) (t1:Int) (t4:(List Int)) (t6:Int) (o0:(den tWorld)) (o3:(List Int)):innkeepref12_Present.l0 n (m0+1) t0 t1 t4 t6 o0 o3 =
  bif (decide (t6<((List.length (o0.2.1:(List Int))):Int))) then
    if (0:Int)≤t6∧t6<(((List.length (o0.2.1:(List Int))):Nat):Int) then
    bif (decide ((List.getD (o0.2.1:(List Int)) (Int.toNat t6) (0:Int):Int)=t1)) then
      if (List.length o3)+1≤1048576 then
      innkeepref12_Present.l0 n m0 t0 t1 t4 (IntKind.wrap .i64 (t6+1)) o0 (o3 ++ ([t6]:List Int))
      else none
    else
      innkeepref12_Present.l0 n m0 t0 t1 t4 (IntKind.wrap .i64 (t6+1)) o0 o3
    else none
  else
    some ((o3,()),[(0,[])]):=by kernel_rfl
theorem innkeepref12_Present.eq (n:Nat) (a0:(den tWorld)) (a1:Int):innkeepref12_Present (n+1) a0 a1 =
  innkeepref12_Present.l0 n n a0 a1 ([]:List Int) 0 a0 ([]:List Int):=by kernel_rfl
def innkeepref07_Under.res:List Sh:=[.d (.sl tSeen)]
@[reducible] def innkeepref07_Under.R:Type:=dShL [.d (.sl tSeen)]×Fresh
def innkeepref07_Under (n:Nat) (a0:(den tWorld)) (a1:(den tPlace)):Option innkeepref07_Under.R:=gc n 53 [.dat tWorld a0 [],.dat tPlace a1 []] [.d (.sl tSeen)]
def innkeepref07_Under.l0 (n m0:Nat) (t0:(den tWorld)) (t1:(den tPlace)) (t4:(List (den tSeen))) (t6:Int) (o0:(den tWorld)) (o1:(den tPlace)) (o4:(List (den tSeen))):Option innkeepref07_Under.R :=
  lpN n c53_4 m0 (kBlk 0 (kSeq (run (gc n) n) c53_2 (retK innkeepref07_Under.fn innkeepref07_Under.res) (retK innkeepref07_Under.fn innkeepref07_Under.res)) (retK innkeepref07_Under.fn innkeepref07_Under.res))
    [(0,.dat tWorld t0 []),(1,.dat tPlace t1 []),(2,.ptr 0 []),(3,.ptr 1 []),(4,.dat (.sl tSeen) t4 []),(5,.dat (.sl tSeen) ([]:List (den tSeen)) [([],some 4)]),(6,.dat (.int .i64) t6 [])]
    [.box tWorld o0 [],.box tPlace o1 [],.none,.none,.arr tSeen o4]
theorem innkeepref07_Under.l0_eq (n m0:Nat) (t0:(den tWorld)) (t1:(den tPlace)) (t4:(List (den tSeen))) (t6:Int) (o0:(den tWorld)) (o1:(den tPlace)) (o4:(List (den tSeen))):innkeepref07_Under.l0 n (m0+1) t0 t1 t4 t6 o0 o1 o4 =
  bif (decide (t6<((List.length (o0.2.2.2.1:(List (den tPlace)))):Int))) then
    Option.bind (innkeepref07_Root n o0 t6) fun r1 =>
    bif (eqT tPlace r1.1.1 o1) then
      if (0:Int)≤t6∧t6<(((List.length (o0.2.2.2.1:(List (den tPlace)))):Nat):Int) then
      if (List.length o4)+1≤1048576 then
      innkeepref07_Under.l0 n m0 t0 t1 t4 (IntKind.wrap .i64 (t6+1)) o0 o1 (o4 ++ ([(t6,(List.getD (o0.2.2.2.1:(List (den tPlace))) (Int.toNat t6) (dft tPlace):(den tPlace)),())]:List (den tSeen)))
      else none
      else none
    else
      innkeepref07_Under.l0 n m0 t0 t1 t4 (IntKind.wrap .i64 (t6+1)) o0 o1 o4
  else
    some ((o4,()),[(0,[])]):=by kernel_rfl
theorem innkeepref07_Under.eq (n:Nat) (a0:(den tWorld)) (a1:(den tPlace)):innkeepref07_Under (n+1) a0 a1 =
  innkeepref07_Under.l0 n n a0 a1 ([]:List (den tSeen)) 0 a0 a1 ([]:List (den tSeen)):=by kernel_rfl
def innkeepref12_Look.res:List Sh:=[.d tReply]
@[reducible] def innkeepref12_Look.R:Type:=dShL [.d tReply]×Fresh
def innkeepref12_Look (n:Nat) (a0:(den tWorld)) (a1:Int):Option innkeepref12_Look.R:=gc n 29 [.dat tWorld a0 [],.dat (.int .i64) a1 []] [.d tReply]
theorem innkeepref12_Look.eq (n:Nat) (a0:(den tWorld)) (a1:Int):innkeepref12_Look (n+1) a0 a1 =
  if (0:Int)≤a1∧a1<(((List.length (a0.2.1:(List Int))):Nat):Int) then
  if (0:Int)≤a1∧a1<(((List.length (a0.2.1:(List Int))):Nat):Int) then
  Option.bind (innkeepref12_Present n a0 (List.getD (a0.2.1:(List Int)) (Int.toNat a1) (0:Int):Int)) fun r1 =>
  if (0:Int)≤a1∧a1<(((List.length (a0.2.1:(List Int))):Nat):Int) then
  Option.bind (innkeepref07_Under n a0 (0,(List.getD (a0.2.1:(List Int)) (Int.toNat a1) (0:Int):Int),())) fun r2 =>
  some (((0,9,(List.getD (a0.2.1:(List Int)) (Int.toNat a1) (0:Int):Int),(r1.1.1:(List Int)),(r2.1.1:(List (den tSeen))),0,()),()),[])
  else none
  else none
  else none:=by kernel_rfl
def innkeepref12_Own.res:List Sh:=[.d tReply]
@[reducible] def innkeepref12_Own.R:Type:=dShL [.d tReply]×Fresh
def innkeepref12_Own (n:Nat) (a0:(den tWorld)) (a1:Int):Option innkeepref12_Own.R:=gc n 30 [.dat tWorld a0 [],.dat (.int .i64) a1 []] [.d tReply]
theorem innkeepref12_Own.eq (n:Nat) (a0:(den tWorld)) (a1:Int):innkeepref12_Own (n+1) a0 a1 =
  if (0:Int)≤a1∧a1<(((List.length (a0.2.2.1:(List Int))):Nat):Int) then
  Option.bind (innkeepref07_Under n a0 (1,a1,())) fun r1 =>
  some (((0,10,0,([]:List Int),(r1.1.1:(List (den tSeen))),(List.getD (a0.2.2.1:(List Int)) (Int.toNat a1) (0:Int):Int),()),()),[])
  else none:=by kernel_rfl
def innkeepref13_Do.res:List Sh:=[.d tWorld,.d tReply]
@[reducible] def innkeepref13_Do.R:Type:=dShL [.d tWorld,.d tReply]×Fresh
def innkeepref13_Do (n:Nat) (a0:(den tWorld)) (a1:Int) (a2:(den tCmd)):Option innkeepref13_Do.R:=gc n 9 [.dat tWorld a0 [],.dat (.int .i64) a1 [],.dat tCmd a2 []] [.d tWorld,.d tReply]
theorem innkeepref13_Do.eq (n:Nat) (a0:(den tWorld)) (a1:Int) (a2:(den tCmd)):innkeepref13_Do (n+1) a0 a1 a2 =
  Option.bind (innkeepref03_May n a2) fun r1 =>
  bif (!(r1.1.1:Bool)) then
    some ((a0,(2,0,0,([]:List Int),([]:List (den tSeen)),0,()),()),[])
  else
    bif (decide ((a2.1:Int)=1)) then
      Option.bind (innkeepref08_Move n a0 a1 (a2.2.1:Int)) fun r2 =>
      bif (!(decide ((r2.1.2.2.1:Int)=0))) then
        some ((a0,((r2.1.2.2.1:Int),0,0,([]:List Int),([]:List (den tSeen)),0,()),()),[])
      else
        some ((r2.1.1,(0,(a2.1:Int),(r2.1.2.1:Int),([]:List Int),([]:List (den tSeen)),0,()),()),[])
    else
      bif (decide ((a2.1:Int)=2)) then
        Option.bind (innkeepref08_Push n a0 a1 (a2.2.2.2.2.1:Int) (a2.2.1:Int)) fun r3 =>
        bif (!(decide ((r3.1.2.2.1:Int)=0))) then
          some ((a0,((r3.1.2.2.1:Int),0,0,([]:List Int),([]:List (den tSeen)),0,()),()),[])
        else
          some ((r3.1.1,(0,(a2.1:Int),(r3.1.2.1:Int),([]:List Int),([]:List (den tSeen)),0,()),()),[])
      else
        bif (decide ((a2.1:Int)=3)) then
          Option.bind (innkeepref09_Get n a0 a1 (a2.2.2.1:Int)) fun r4 =>
          bif (!(decide ((r4.1.2.1:Int)=0))) then
            some ((a0,((r4.1.2.1:Int),0,0,([]:List Int),([]:List (den tSeen)),0,()),()),[])
          else
            some ((r4.1.1,(0,(a2.1:Int),0,([]:List Int),([]:List (den tSeen)),0,()),()),[])
        else
          bif (decide ((a2.1:Int)=4)) then
            Option.bind (innkeepref09_Drop n a0 a1 (a2.2.2.1:Int)) fun r5 =>
            bif (!(decide ((r5.1.2.1:Int)=0))) then
              some ((a0,((r5.1.2.1:Int),0,0,([]:List Int),([]:List (den tSeen)),0,()),()),[])
            else
              some ((r5.1.1,(0,(a2.1:Int),0,([]:List Int),([]:List (den tSeen)),0,()),()),[])
          else
            bif (decide ((a2.1:Int)=5)) then
              Option.bind (innkeepref10_Put n a0 a1 (a2.2.2.1:Int) (a2.2.2.2.1:Int)) fun r6 =>
              bif (!(decide ((r6.1.2.1:Int)=0))) then
                some ((a0,((r6.1.2.1:Int),0,0,([]:List Int),([]:List (den tSeen)),0,()),()),[])
              else
                some ((r6.1.1,(0,(a2.1:Int),0,([]:List Int),([]:List (den tSeen)),0,()),()),[])
            else
              bif (decide ((a2.1:Int)=6)) then
                Option.bind (innkeepref10_Take n a0 a1 (a2.2.2.1:Int) (a2.2.2.2.1:Int)) fun r7 =>
                bif (!(decide ((r7.1.2.1:Int)=0))) then
                  some ((a0,((r7.1.2.1:Int),0,0,([]:List Int),([]:List (den tSeen)),0,()),()),[])
                else
                  some ((r7.1.1,(0,(a2.1:Int),0,([]:List Int),([]:List (den tSeen)),0,()),()),[])
              else
                bif (decide ((a2.1:Int)=7)) then
                  Option.bind (innkeepref11_Give n a0 a1 (a2.2.2.1:Int) (a2.2.2.2.2.1:Int)) fun r8 =>
                  bif (!(decide ((r8.1.2.1:Int)=0))) then
                    some ((a0,((r8.1.2.1:Int),0,0,([]:List Int),([]:List (den tSeen)),0,()),()),[])
                  else
                    some ((r8.1.1,(0,(a2.1:Int),0,([]:List Int),([]:List (den tSeen)),0,()),()),[])
                else
                  bif (decide ((a2.1:Int)=8)) then
                    Option.bind (innkeepref11_Trade n a0 a1 a2) fun r9 =>
                    bif (!(decide ((r9.1.2.1:Int)=0))) then
                      some ((a0,((r9.1.2.1:Int),0,0,([]:List Int),([]:List (den tSeen)),0,()),()),[])
                    else
                      some ((r9.1.1,(0,(a2.1:Int),0,([]:List Int),([]:List (den tSeen)),0,()),()),[])
                  else
                    bif (decide ((a2.1:Int)=9)) then
                      Option.bind (innkeepref12_Look n a0 a1) fun r10 =>
                      some ((a0,r10.1.1,()),[])
                    else
                      bif (decide ((a2.1:Int)=10)) then
                        Option.bind (innkeepref12_Own n a0 a1) fun r11 =>
                        some ((a0,r11.1.1,()),[])
                      else
                        some ((a0,(0,(a2.1:Int),0,([]:List Int),([]:List (den tSeen)),0,()),()),[]):=by kernel_rfl
def innkeepref14_Less.res:List Sh:=[.d .bool]
@[reducible] def innkeepref14_Less.R:Type:=dShL [.d .bool]×Fresh
def innkeepref14_Less (n:Nat) (a0:(den tPlace)) (a1:(den tPlace)):Option innkeepref14_Less.R:=gc n 56 [.dat tPlace a0 [],.dat tPlace a1 []] [.d .bool]
theorem innkeepref14_Less.eq (n:Nat) (a0:(den tPlace)) (a1:(den tPlace)):innkeepref14_Less (n+1) a0 a1 =
  bif (decide ((a0.1:Int)<(a1.1:Int))) then
    some ((true,()),[])
  else
    bif (decide ((a0.1:Int)=(a1.1:Int))) then
      some (((decide ((a0.2.1:Int)<(a1.2.1:Int))),()),[])
    else
      some ((false,()),[]):=by kernel_rfl
def innkeepref14_Sort.res:List Sh:=[.d (.sl tPlace)]
@[reducible] def innkeepref14_Sort.R:Type:=dShL [.d (.sl tPlace)]×Fresh
def innkeepref14_Sort (n:Nat) (a0:(List (den tPlace))):Option innkeepref14_Sort.R:=gc n 33 [.dat (.sl tPlace) a0 []] [.d (.sl tPlace)]
def innkeepref14_Sort.l0 (n m0:Nat) (t0:(List (den tPlace))) (t2:(List (den tPlace))) (o3:(List (den tPlace))):Option innkeepref14_Sort.R :=
  lpN n c33_2 m0 (kBlk 0 (retK innkeepref14_Sort.fn innkeepref14_Sort.res) (retK innkeepref14_Sort.fn innkeepref14_Sort.res))
    [(0,.dat (.sl tPlace) t0 []),(2,.dat (.sl tPlace) t2 []),(3,.dat (.sl tPlace) ([]:List (den tPlace)) [([],some 3)])]
    [.none,.none,.none,.arr tPlace o3]
def innkeepref14_Sort.l1 (n m0 m1:Nat) (t0_1:(List (den tPlace))) (t2_1:(List (den tPlace))) (t4_1:Bool) (t6_1:Int) (o0_1:(den tPlace)) (o3_1:(List (den tPlace))):Option innkeepref14_Sort.R :=
  lpN n c33_8 m1 (kBlk 2 (kSeq (run (gc n) n) c33_6 (kSeq (run (gc n) n) c33_3 (fun _ s h=>lpN n c33_2 m0 (kBlk 0 (retK innkeepref14_Sort.fn innkeepref14_Sort.res) (retK innkeepref14_Sort.fn innkeepref14_Sort.res)) s h) (kBlk 0 (retK innkeepref14_Sort.fn innkeepref14_Sort.res) (retK innkeepref14_Sort.fn innkeepref14_Sort.res))) (kBlk 1 (kSeq (run (gc n) n) c33_3 (fun _ s h=>lpN n c33_2 m0 (kBlk 0 (retK innkeepref14_Sort.fn innkeepref14_Sort.res) (retK innkeepref14_Sort.fn innkeepref14_Sort.res)) s h) (kBlk 0 (retK innkeepref14_Sort.fn innkeepref14_Sort.res) (retK innkeepref14_Sort.fn innkeepref14_Sort.res))) (kBlk 0 (retK innkeepref14_Sort.fn innkeepref14_Sort.res) (retK innkeepref14_Sort.fn innkeepref14_Sort.res)))) (kBlk 1 (kSeq (run (gc n) n) c33_3 (fun _ s h=>lpN n c33_2 m0 (kBlk 0 (retK innkeepref14_Sort.fn innkeepref14_Sort.res) (retK innkeepref14_Sort.fn innkeepref14_Sort.res)) s h) (kBlk 0 (retK innkeepref14_Sort.fn innkeepref14_Sort.res) (retK innkeepref14_Sort.fn innkeepref14_Sort.res))) (kBlk 0 (retK innkeepref14_Sort.fn innkeepref14_Sort.res) (retK innkeepref14_Sort.fn innkeepref14_Sort.res))))
    [(0,.dat (.sl tPlace) t0_1 []),(2,.dat (.sl tPlace) t2_1 []),(3,.dat (.sl tPlace) ([]:List (den tPlace)) [([],some 3)]),(4,.dat .bool t4_1 []),(5,.ptr 0 []),(6,.dat (.int .i64) t6_1 [])]
    [.box tPlace o0_1 [],.none,.none,.arr tPlace o3_1]
theorem innkeepref14_Sort.l0_eq (n m0:Nat) (t0:(List (den tPlace))) (t2:(List (den tPlace))) (o3:(List (den tPlace))):innkeepref14_Sort.l0 n (m0+1) t0 t2 o3 =
  innkeepref14_Sort.l1 n m0 n t0 t2 false 0 (0,0,()) o3:=by kernel_rfl
theorem innkeepref14_Sort.l1_eq (n m0 m1:Nat) (t0_1:(List (den tPlace))) (t2_1:(List (den tPlace))) (t4_1:Bool) (t6_1:Int) (o0_1:(den tPlace)) (o3_1:(List (den tPlace))):innkeepref14_Sort.l1 n m0 (m1+1) t0_1 t2_1 t4_1 t6_1 o0_1 o3_1 =
  bif (decide (t6_1<((List.length t0_1):Int))) then
    bif (decide (0<((List.length o3_1):Int))) then
      if (0:Int)≤(IntKind.wrap .i64 (((List.length o3_1):Int) - 1))∧(IntKind.wrap .i64 (((List.length o3_1):Int) - 1))<(((List.length o3_1):Nat):Int) then
      if (0:Int)≤t6_1∧t6_1<(((List.length t0_1):Nat):Int) then
      Option.bind (innkeepref14_Less n (List.getD o3_1 (Int.toNat (IntKind.wrap .i64 (((List.length o3_1):Int) - 1))) (dft tPlace):(den tPlace)) (List.getD t0_1 (Int.toNat t6_1) (dft tPlace):(den tPlace))) fun r1 =>
      bif (!(r1.1.1:Bool)) then
        innkeepref14_Sort.l1 n m0 m1 t0_1 t2_1 t4_1 (IntKind.wrap .i64 (t6_1+1)) o0_1 o3_1
      else
        bif (!t4_1) then
          if (0:Int)≤t6_1∧t6_1<(((List.length t0_1):Nat):Int) then
          innkeepref14_Sort.l1 n m0 m1 t0_1 t2_1 true (IntKind.wrap .i64 (t6_1+1)) (List.getD t0_1 (Int.toNat t6_1) (dft tPlace):(den tPlace)) o3_1
          else none
        else
          if (0:Int)≤t6_1∧t6_1<(((List.length t0_1):Nat):Int) then
          Option.bind (innkeepref14_Less n (List.getD t0_1 (Int.toNat t6_1) (dft tPlace):(den tPlace)) o0_1) fun r2 =>
          bif (r2.1.1:Bool) then
            if (0:Int)≤t6_1∧t6_1<(((List.length t0_1):Nat):Int) then
            innkeepref14_Sort.l1 n m0 m1 t0_1 t2_1 true (IntKind.wrap .i64 (t6_1+1)) (List.getD t0_1 (Int.toNat t6_1) (dft tPlace):(den tPlace)) o3_1
            else none
          else
            innkeepref14_Sort.l1 n m0 m1 t0_1 t2_1 t4_1 (IntKind.wrap .i64 (t6_1+1)) o0_1 o3_1
          else none
      else none
      else none
    else
      bif (!t4_1) then
        if (0:Int)≤t6_1∧t6_1<(((List.length t0_1):Nat):Int) then
        innkeepref14_Sort.l1 n m0 m1 t0_1 t2_1 true (IntKind.wrap .i64 (t6_1+1)) (List.getD t0_1 (Int.toNat t6_1) (dft tPlace):(den tPlace)) o3_1
        else none
      else
        if (0:Int)≤t6_1∧t6_1<(((List.length t0_1):Nat):Int) then
        Option.bind (innkeepref14_Less n (List.getD t0_1 (Int.toNat t6_1) (dft tPlace):(den tPlace)) o0_1) fun r3 =>
        bif (r3.1.1:Bool) then
          if (0:Int)≤t6_1∧t6_1<(((List.length t0_1):Nat):Int) then
          innkeepref14_Sort.l1 n m0 m1 t0_1 t2_1 true (IntKind.wrap .i64 (t6_1+1)) (List.getD t0_1 (Int.toNat t6_1) (dft tPlace):(den tPlace)) o3_1
          else none
        else
          innkeepref14_Sort.l1 n m0 m1 t0_1 t2_1 t4_1 (IntKind.wrap .i64 (t6_1+1)) o0_1 o3_1
        else none
  else
    bif (!t4_1) then
      some ((o3_1,()),[(0,[])])
    else
      if (List.length o3_1)+1≤1048576 then
      innkeepref14_Sort.l0 n m0 t0_1 t2_1 (o3_1 ++ ([o0_1]:List (den tPlace)))
      else none:=by kernel_rfl
theorem innkeepref14_Sort.eq (n:Nat) (a0:(List (den tPlace))):innkeepref14_Sort (n+1) a0 =
  innkeepref14_Sort.l0 n n a0 ([]:List (den tPlace)) ([]:List (den tPlace)):=by kernel_rfl
def innkeepref16_Of.res:List Sh:=[.d (.sl tPlace)]
@[reducible] def innkeepref16_Of.R:Type:=dShL [.d (.sl tPlace)]×Fresh
def innkeepref16_Of (n:Nat) (a0:(den tWorld)) (a1:Int) (a2:(den tCmd)):Option innkeepref16_Of.R:=gc n 12 [.dat tWorld a0 [],.dat (.int .i64) a1 [],.dat tCmd a2 []] [.d (.sl tPlace)]
theorem innkeepref16_Of.eq (n:Nat) (a0:(den tWorld)) (a1:Int) (a2:(den tCmd)):innkeepref16_Of (n+1) a0 a1 a2 =
  if (0:Int)≤a1∧a1<(((List.length (a0.2.1:(List Int))):Nat):Int) then
  bif (decide ((a2.1:Int)=1)) then
    if (0:Int)≤a1∧a1<(((List.length (a0.2.1:(List Int))):Nat):Int) then
    if (0:Int)≤(List.getD (a0.2.1:(List Int)) (Int.toNat a1) (0:Int):Int)∧(List.getD (a0.2.1:(List Int)) (Int.toNat a1) (0:Int):Int)<(((List.length (a0.1.1:(List (List Int)))):Nat):Int) then
    if (0:Int)≤(a2.2.1:Int)∧(a2.2.1:Int)<((4:Nat):Int) then
    bif (!(decide ((List.getD (List.getD (a0.1.1:(List (List Int))) (Int.toNat (List.getD (a0.2.1:(List Int)) (Int.toNat a1) (0:Int):Int)) (dft (.arr 4 (.int .i64))):(List Int)) (Int.toNat (a2.2.1:Int)) (0:Int):Int)=(-1)))) then
      if (0:Int)≤a1∧a1<(((List.length (a0.2.1:(List Int))):Nat):Int) then
      if (0:Int)≤(List.getD (a0.2.1:(List Int)) (Int.toNat a1) (0:Int):Int)∧(List.getD (a0.2.1:(List Int)) (Int.toNat a1) (0:Int):Int)<(((List.length (a0.1.1:(List (List Int)))):Nat):Int) then
      if (0:Int)≤(a2.2.1:Int)∧(a2.2.1:Int)<((4:Nat):Int) then
      bif (decide ((a2.1:Int)=2)) then
        bif (decide (0≤(a2.2.2.2.2.1:Int))) then
          bif (decide ((a2.2.2.2.2.1:Int)<((List.length (a0.2.1:(List Int))):Int))) then
            Option.bind (innkeepref14_Sort n ([(0,(List.getD (a0.2.1:(List Int)) (Int.toNat a1) (0:Int):Int),()),(1,a1,()),(0,(List.getD (List.getD (a0.1.1:(List (List Int))) (Int.toNat (List.getD (a0.2.1:(List Int)) (Int.toNat a1) (0:Int):Int)) (dft (.arr 4 (.int .i64))):(List Int)) (Int.toNat (a2.2.1:Int)) (0:Int):Int),()),(1,(a2.2.2.2.2.1:Int),())]:List (den tPlace))) fun r1 =>
            some (((r1.1.1:(List (den tPlace))),()),[])
          else
            Option.bind (innkeepref14_Sort n ([(0,(List.getD (a0.2.1:(List Int)) (Int.toNat a1) (0:Int):Int),()),(1,a1,()),(0,(List.getD (List.getD (a0.1.1:(List (List Int))) (Int.toNat (List.getD (a0.2.1:(List Int)) (Int.toNat a1) (0:Int):Int)) (dft (.arr 4 (.int .i64))):(List Int)) (Int.toNat (a2.2.1:Int)) (0:Int):Int),())]:List (den tPlace))) fun r2 =>
            some (((r2.1.1:(List (den tPlace))),()),[])
        else
          Option.bind (innkeepref14_Sort n ([(0,(List.getD (a0.2.1:(List Int)) (Int.toNat a1) (0:Int):Int),()),(1,a1,()),(0,(List.getD (List.getD (a0.1.1:(List (List Int))) (Int.toNat (List.getD (a0.2.1:(List Int)) (Int.toNat a1) (0:Int):Int)) (dft (.arr 4 (.int .i64))):(List Int)) (Int.toNat (a2.2.1:Int)) (0:Int):Int),())]:List (den tPlace))) fun r3 =>
          some (((r3.1.1:(List (den tPlace))),()),[])
      else
        bif (decide ((a2.1:Int)=7)) then
          bif (decide (0≤(a2.2.2.2.2.1:Int))) then
            bif (decide ((a2.2.2.2.2.1:Int)<((List.length (a0.2.1:(List Int))):Int))) then
              Option.bind (innkeepref14_Sort n ([(0,(List.getD (a0.2.1:(List Int)) (Int.toNat a1) (0:Int):Int),()),(1,a1,()),(0,(List.getD (List.getD (a0.1.1:(List (List Int))) (Int.toNat (List.getD (a0.2.1:(List Int)) (Int.toNat a1) (0:Int):Int)) (dft (.arr 4 (.int .i64))):(List Int)) (Int.toNat (a2.2.1:Int)) (0:Int):Int),()),(1,(a2.2.2.2.2.1:Int),())]:List (den tPlace))) fun r4 =>
              some (((r4.1.1:(List (den tPlace))),()),[])
            else
              Option.bind (innkeepref14_Sort n ([(0,(List.getD (a0.2.1:(List Int)) (Int.toNat a1) (0:Int):Int),()),(1,a1,()),(0,(List.getD (List.getD (a0.1.1:(List (List Int))) (Int.toNat (List.getD (a0.2.1:(List Int)) (Int.toNat a1) (0:Int):Int)) (dft (.arr 4 (.int .i64))):(List Int)) (Int.toNat (a2.2.1:Int)) (0:Int):Int),())]:List (den tPlace))) fun r5 =>
              some (((r5.1.1:(List (den tPlace))),()),[])
          else
            Option.bind (innkeepref14_Sort n ([(0,(List.getD (a0.2.1:(List Int)) (Int.toNat a1) (0:Int):Int),()),(1,a1,()),(0,(List.getD (List.getD (a0.1.1:(List (List Int))) (Int.toNat (List.getD (a0.2.1:(List Int)) (Int.toNat a1) (0:Int):Int)) (dft (.arr 4 (.int .i64))):(List Int)) (Int.toNat (a2.2.1:Int)) (0:Int):Int),())]:List (den tPlace))) fun r6 =>
            some (((r6.1.1:(List (den tPlace))),()),[])
        else
          bif (decide ((a2.1:Int)=8)) then
            bif (decide (0≤(a2.2.2.2.2.1:Int))) then
              bif (decide ((a2.2.2.2.2.1:Int)<((List.length (a0.2.1:(List Int))):Int))) then
                Option.bind (innkeepref14_Sort n ([(0,(List.getD (a0.2.1:(List Int)) (Int.toNat a1) (0:Int):Int),()),(1,a1,()),(0,(List.getD (List.getD (a0.1.1:(List (List Int))) (Int.toNat (List.getD (a0.2.1:(List Int)) (Int.toNat a1) (0:Int):Int)) (dft (.arr 4 (.int .i64))):(List Int)) (Int.toNat (a2.2.1:Int)) (0:Int):Int),()),(1,(a2.2.2.2.2.1:Int),())]:List (den tPlace))) fun r7 =>
                some (((r7.1.1:(List (den tPlace))),()),[])
              else
                Option.bind (innkeepref14_Sort n ([(0,(List.getD (a0.2.1:(List Int)) (Int.toNat a1) (0:Int):Int),()),(1,a1,()),(0,(List.getD (List.getD (a0.1.1:(List (List Int))) (Int.toNat (List.getD (a0.2.1:(List Int)) (Int.toNat a1) (0:Int):Int)) (dft (.arr 4 (.int .i64))):(List Int)) (Int.toNat (a2.2.1:Int)) (0:Int):Int),())]:List (den tPlace))) fun r8 =>
                some (((r8.1.1:(List (den tPlace))),()),[])
            else
              Option.bind (innkeepref14_Sort n ([(0,(List.getD (a0.2.1:(List Int)) (Int.toNat a1) (0:Int):Int),()),(1,a1,()),(0,(List.getD (List.getD (a0.1.1:(List (List Int))) (Int.toNat (List.getD (a0.2.1:(List Int)) (Int.toNat a1) (0:Int):Int)) (dft (.arr 4 (.int .i64))):(List Int)) (Int.toNat (a2.2.1:Int)) (0:Int):Int),())]:List (den tPlace))) fun r9 =>
              some (((r9.1.1:(List (den tPlace))),()),[])
          else
            Option.bind (innkeepref14_Sort n ([(0,(List.getD (a0.2.1:(List Int)) (Int.toNat a1) (0:Int):Int),()),(1,a1,()),(0,(List.getD (List.getD (a0.1.1:(List (List Int))) (Int.toNat (List.getD (a0.2.1:(List Int)) (Int.toNat a1) (0:Int):Int)) (dft (.arr 4 (.int .i64))):(List Int)) (Int.toNat (a2.2.1:Int)) (0:Int):Int),())]:List (den tPlace))) fun r10 =>
            some (((r10.1.1:(List (den tPlace))),()),[])
      else none
      else none
      else none
    else
      bif (decide ((a2.1:Int)=2)) then
        bif (decide (0≤(a2.2.2.2.2.1:Int))) then
          bif (decide ((a2.2.2.2.2.1:Int)<((List.length (a0.2.1:(List Int))):Int))) then
            Option.bind (innkeepref14_Sort n ([(0,(List.getD (a0.2.1:(List Int)) (Int.toNat a1) (0:Int):Int),()),(1,a1,()),(1,(a2.2.2.2.2.1:Int),())]:List (den tPlace))) fun r11 =>
            some (((r11.1.1:(List (den tPlace))),()),[])
          else
            Option.bind (innkeepref14_Sort n ([(0,(List.getD (a0.2.1:(List Int)) (Int.toNat a1) (0:Int):Int),()),(1,a1,())]:List (den tPlace))) fun r12 =>
            some (((r12.1.1:(List (den tPlace))),()),[])
        else
          Option.bind (innkeepref14_Sort n ([(0,(List.getD (a0.2.1:(List Int)) (Int.toNat a1) (0:Int):Int),()),(1,a1,())]:List (den tPlace))) fun r13 =>
          some (((r13.1.1:(List (den tPlace))),()),[])
      else
        bif (decide ((a2.1:Int)=7)) then
          bif (decide (0≤(a2.2.2.2.2.1:Int))) then
            bif (decide ((a2.2.2.2.2.1:Int)<((List.length (a0.2.1:(List Int))):Int))) then
              Option.bind (innkeepref14_Sort n ([(0,(List.getD (a0.2.1:(List Int)) (Int.toNat a1) (0:Int):Int),()),(1,a1,()),(1,(a2.2.2.2.2.1:Int),())]:List (den tPlace))) fun r14 =>
              some (((r14.1.1:(List (den tPlace))),()),[])
            else
              Option.bind (innkeepref14_Sort n ([(0,(List.getD (a0.2.1:(List Int)) (Int.toNat a1) (0:Int):Int),()),(1,a1,())]:List (den tPlace))) fun r15 =>
              some (((r15.1.1:(List (den tPlace))),()),[])
          else
            Option.bind (innkeepref14_Sort n ([(0,(List.getD (a0.2.1:(List Int)) (Int.toNat a1) (0:Int):Int),()),(1,a1,())]:List (den tPlace))) fun r16 =>
            some (((r16.1.1:(List (den tPlace))),()),[])
        else
          bif (decide ((a2.1:Int)=8)) then
            bif (decide (0≤(a2.2.2.2.2.1:Int))) then
              bif (decide ((a2.2.2.2.2.1:Int)<((List.length (a0.2.1:(List Int))):Int))) then
                Option.bind (innkeepref14_Sort n ([(0,(List.getD (a0.2.1:(List Int)) (Int.toNat a1) (0:Int):Int),()),(1,a1,()),(1,(a2.2.2.2.2.1:Int),())]:List (den tPlace))) fun r17 =>
                some (((r17.1.1:(List (den tPlace))),()),[])
              else
                Option.bind (innkeepref14_Sort n ([(0,(List.getD (a0.2.1:(List Int)) (Int.toNat a1) (0:Int):Int),()),(1,a1,())]:List (den tPlace))) fun r18 =>
                some (((r18.1.1:(List (den tPlace))),()),[])
            else
              Option.bind (innkeepref14_Sort n ([(0,(List.getD (a0.2.1:(List Int)) (Int.toNat a1) (0:Int):Int),()),(1,a1,())]:List (den tPlace))) fun r19 =>
              some (((r19.1.1:(List (den tPlace))),()),[])
          else
            Option.bind (innkeepref14_Sort n ([(0,(List.getD (a0.2.1:(List Int)) (Int.toNat a1) (0:Int):Int),()),(1,a1,())]:List (den tPlace))) fun r20 =>
            some (((r20.1.1:(List (den tPlace))),()),[])
    else none
    else none
    else none
  else
    bif (decide ((a2.1:Int)=2)) then
      if (0:Int)≤a1∧a1<(((List.length (a0.2.1:(List Int))):Nat):Int) then
      if (0:Int)≤(List.getD (a0.2.1:(List Int)) (Int.toNat a1) (0:Int):Int)∧(List.getD (a0.2.1:(List Int)) (Int.toNat a1) (0:Int):Int)<(((List.length (a0.1.1:(List (List Int)))):Nat):Int) then
      if (0:Int)≤(a2.2.1:Int)∧(a2.2.1:Int)<((4:Nat):Int) then
      bif (!(decide ((List.getD (List.getD (a0.1.1:(List (List Int))) (Int.toNat (List.getD (a0.2.1:(List Int)) (Int.toNat a1) (0:Int):Int)) (dft (.arr 4 (.int .i64))):(List Int)) (Int.toNat (a2.2.1:Int)) (0:Int):Int)=(-1)))) then
        if (0:Int)≤a1∧a1<(((List.length (a0.2.1:(List Int))):Nat):Int) then
        if (0:Int)≤(List.getD (a0.2.1:(List Int)) (Int.toNat a1) (0:Int):Int)∧(List.getD (a0.2.1:(List Int)) (Int.toNat a1) (0:Int):Int)<(((List.length (a0.1.1:(List (List Int)))):Nat):Int) then
        if (0:Int)≤(a2.2.1:Int)∧(a2.2.1:Int)<((4:Nat):Int) then
        bif (decide ((a2.1:Int)=2)) then
          bif (decide (0≤(a2.2.2.2.2.1:Int))) then
            bif (decide ((a2.2.2.2.2.1:Int)<((List.length (a0.2.1:(List Int))):Int))) then
              Option.bind (innkeepref14_Sort n ([(0,(List.getD (a0.2.1:(List Int)) (Int.toNat a1) (0:Int):Int),()),(1,a1,()),(0,(List.getD (List.getD (a0.1.1:(List (List Int))) (Int.toNat (List.getD (a0.2.1:(List Int)) (Int.toNat a1) (0:Int):Int)) (dft (.arr 4 (.int .i64))):(List Int)) (Int.toNat (a2.2.1:Int)) (0:Int):Int),()),(1,(a2.2.2.2.2.1:Int),())]:List (den tPlace))) fun r21 =>
              some (((r21.1.1:(List (den tPlace))),()),[])
            else
              Option.bind (innkeepref14_Sort n ([(0,(List.getD (a0.2.1:(List Int)) (Int.toNat a1) (0:Int):Int),()),(1,a1,()),(0,(List.getD (List.getD (a0.1.1:(List (List Int))) (Int.toNat (List.getD (a0.2.1:(List Int)) (Int.toNat a1) (0:Int):Int)) (dft (.arr 4 (.int .i64))):(List Int)) (Int.toNat (a2.2.1:Int)) (0:Int):Int),())]:List (den tPlace))) fun r22 =>
              some (((r22.1.1:(List (den tPlace))),()),[])
          else
            Option.bind (innkeepref14_Sort n ([(0,(List.getD (a0.2.1:(List Int)) (Int.toNat a1) (0:Int):Int),()),(1,a1,()),(0,(List.getD (List.getD (a0.1.1:(List (List Int))) (Int.toNat (List.getD (a0.2.1:(List Int)) (Int.toNat a1) (0:Int):Int)) (dft (.arr 4 (.int .i64))):(List Int)) (Int.toNat (a2.2.1:Int)) (0:Int):Int),())]:List (den tPlace))) fun r23 =>
            some (((r23.1.1:(List (den tPlace))),()),[])
        else
          bif (decide ((a2.1:Int)=7)) then
            bif (decide (0≤(a2.2.2.2.2.1:Int))) then
              bif (decide ((a2.2.2.2.2.1:Int)<((List.length (a0.2.1:(List Int))):Int))) then
                Option.bind (innkeepref14_Sort n ([(0,(List.getD (a0.2.1:(List Int)) (Int.toNat a1) (0:Int):Int),()),(1,a1,()),(0,(List.getD (List.getD (a0.1.1:(List (List Int))) (Int.toNat (List.getD (a0.2.1:(List Int)) (Int.toNat a1) (0:Int):Int)) (dft (.arr 4 (.int .i64))):(List Int)) (Int.toNat (a2.2.1:Int)) (0:Int):Int),()),(1,(a2.2.2.2.2.1:Int),())]:List (den tPlace))) fun r24 =>
                some (((r24.1.1:(List (den tPlace))),()),[])
              else
                Option.bind (innkeepref14_Sort n ([(0,(List.getD (a0.2.1:(List Int)) (Int.toNat a1) (0:Int):Int),()),(1,a1,()),(0,(List.getD (List.getD (a0.1.1:(List (List Int))) (Int.toNat (List.getD (a0.2.1:(List Int)) (Int.toNat a1) (0:Int):Int)) (dft (.arr 4 (.int .i64))):(List Int)) (Int.toNat (a2.2.1:Int)) (0:Int):Int),())]:List (den tPlace))) fun r25 =>
                some (((r25.1.1:(List (den tPlace))),()),[])
            else
              Option.bind (innkeepref14_Sort n ([(0,(List.getD (a0.2.1:(List Int)) (Int.toNat a1) (0:Int):Int),()),(1,a1,()),(0,(List.getD (List.getD (a0.1.1:(List (List Int))) (Int.toNat (List.getD (a0.2.1:(List Int)) (Int.toNat a1) (0:Int):Int)) (dft (.arr 4 (.int .i64))):(List Int)) (Int.toNat (a2.2.1:Int)) (0:Int):Int),())]:List (den tPlace))) fun r26 =>
              some (((r26.1.1:(List (den tPlace))),()),[])
          else
            bif (decide ((a2.1:Int)=8)) then
              bif (decide (0≤(a2.2.2.2.2.1:Int))) then
                bif (decide ((a2.2.2.2.2.1:Int)<((List.length (a0.2.1:(List Int))):Int))) then
                  Option.bind (innkeepref14_Sort n ([(0,(List.getD (a0.2.1:(List Int)) (Int.toNat a1) (0:Int):Int),()),(1,a1,()),(0,(List.getD (List.getD (a0.1.1:(List (List Int))) (Int.toNat (List.getD (a0.2.1:(List Int)) (Int.toNat a1) (0:Int):Int)) (dft (.arr 4 (.int .i64))):(List Int)) (Int.toNat (a2.2.1:Int)) (0:Int):Int),()),(1,(a2.2.2.2.2.1:Int),())]:List (den tPlace))) fun r27 =>
                  some (((r27.1.1:(List (den tPlace))),()),[])
                else
                  Option.bind (innkeepref14_Sort n ([(0,(List.getD (a0.2.1:(List Int)) (Int.toNat a1) (0:Int):Int),()),(1,a1,()),(0,(List.getD (List.getD (a0.1.1:(List (List Int))) (Int.toNat (List.getD (a0.2.1:(List Int)) (Int.toNat a1) (0:Int):Int)) (dft (.arr 4 (.int .i64))):(List Int)) (Int.toNat (a2.2.1:Int)) (0:Int):Int),())]:List (den tPlace))) fun r28 =>
                  some (((r28.1.1:(List (den tPlace))),()),[])
              else
                Option.bind (innkeepref14_Sort n ([(0,(List.getD (a0.2.1:(List Int)) (Int.toNat a1) (0:Int):Int),()),(1,a1,()),(0,(List.getD (List.getD (a0.1.1:(List (List Int))) (Int.toNat (List.getD (a0.2.1:(List Int)) (Int.toNat a1) (0:Int):Int)) (dft (.arr 4 (.int .i64))):(List Int)) (Int.toNat (a2.2.1:Int)) (0:Int):Int),())]:List (den tPlace))) fun r29 =>
                some (((r29.1.1:(List (den tPlace))),()),[])
            else
              Option.bind (innkeepref14_Sort n ([(0,(List.getD (a0.2.1:(List Int)) (Int.toNat a1) (0:Int):Int),()),(1,a1,()),(0,(List.getD (List.getD (a0.1.1:(List (List Int))) (Int.toNat (List.getD (a0.2.1:(List Int)) (Int.toNat a1) (0:Int):Int)) (dft (.arr 4 (.int .i64))):(List Int)) (Int.toNat (a2.2.1:Int)) (0:Int):Int),())]:List (den tPlace))) fun r30 =>
              some (((r30.1.1:(List (den tPlace))),()),[])
        else none
        else none
        else none
      else
        bif (decide ((a2.1:Int)=2)) then
          bif (decide (0≤(a2.2.2.2.2.1:Int))) then
            bif (decide ((a2.2.2.2.2.1:Int)<((List.length (a0.2.1:(List Int))):Int))) then
              Option.bind (innkeepref14_Sort n ([(0,(List.getD (a0.2.1:(List Int)) (Int.toNat a1) (0:Int):Int),()),(1,a1,()),(1,(a2.2.2.2.2.1:Int),())]:List (den tPlace))) fun r31 =>
              some (((r31.1.1:(List (den tPlace))),()),[])
            else
              Option.bind (innkeepref14_Sort n ([(0,(List.getD (a0.2.1:(List Int)) (Int.toNat a1) (0:Int):Int),()),(1,a1,())]:List (den tPlace))) fun r32 =>
              some (((r32.1.1:(List (den tPlace))),()),[])
          else
            Option.bind (innkeepref14_Sort n ([(0,(List.getD (a0.2.1:(List Int)) (Int.toNat a1) (0:Int):Int),()),(1,a1,())]:List (den tPlace))) fun r33 =>
            some (((r33.1.1:(List (den tPlace))),()),[])
        else
          bif (decide ((a2.1:Int)=7)) then
            bif (decide (0≤(a2.2.2.2.2.1:Int))) then
              bif (decide ((a2.2.2.2.2.1:Int)<((List.length (a0.2.1:(List Int))):Int))) then
                Option.bind (innkeepref14_Sort n ([(0,(List.getD (a0.2.1:(List Int)) (Int.toNat a1) (0:Int):Int),()),(1,a1,()),(1,(a2.2.2.2.2.1:Int),())]:List (den tPlace))) fun r34 =>
                some (((r34.1.1:(List (den tPlace))),()),[])
              else
                Option.bind (innkeepref14_Sort n ([(0,(List.getD (a0.2.1:(List Int)) (Int.toNat a1) (0:Int):Int),()),(1,a1,())]:List (den tPlace))) fun r35 =>
                some (((r35.1.1:(List (den tPlace))),()),[])
            else
              Option.bind (innkeepref14_Sort n ([(0,(List.getD (a0.2.1:(List Int)) (Int.toNat a1) (0:Int):Int),()),(1,a1,())]:List (den tPlace))) fun r36 =>
              some (((r36.1.1:(List (den tPlace))),()),[])
          else
            bif (decide ((a2.1:Int)=8)) then
              bif (decide (0≤(a2.2.2.2.2.1:Int))) then
                bif (decide ((a2.2.2.2.2.1:Int)<((List.length (a0.2.1:(List Int))):Int))) then
                  Option.bind (innkeepref14_Sort n ([(0,(List.getD (a0.2.1:(List Int)) (Int.toNat a1) (0:Int):Int),()),(1,a1,()),(1,(a2.2.2.2.2.1:Int),())]:List (den tPlace))) fun r37 =>
                  some (((r37.1.1:(List (den tPlace))),()),[])
                else
                  Option.bind (innkeepref14_Sort n ([(0,(List.getD (a0.2.1:(List Int)) (Int.toNat a1) (0:Int):Int),()),(1,a1,())]:List (den tPlace))) fun r38 =>
                  some (((r38.1.1:(List (den tPlace))),()),[])
              else
                Option.bind (innkeepref14_Sort n ([(0,(List.getD (a0.2.1:(List Int)) (Int.toNat a1) (0:Int):Int),()),(1,a1,())]:List (den tPlace))) fun r39 =>
                some (((r39.1.1:(List (den tPlace))),()),[])
            else
              Option.bind (innkeepref14_Sort n ([(0,(List.getD (a0.2.1:(List Int)) (Int.toNat a1) (0:Int):Int),()),(1,a1,())]:List (den tPlace))) fun r40 =>
              some (((r40.1.1:(List (den tPlace))),()),[])
      else none
      else none
      else none
    else
      bif (decide ((a2.1:Int)=2)) then
        bif (decide (0≤(a2.2.2.2.2.1:Int))) then
          bif (decide ((a2.2.2.2.2.1:Int)<((List.length (a0.2.1:(List Int))):Int))) then
            Option.bind (innkeepref14_Sort n ([(0,(List.getD (a0.2.1:(List Int)) (Int.toNat a1) (0:Int):Int),()),(1,a1,()),(1,(a2.2.2.2.2.1:Int),())]:List (den tPlace))) fun r41 =>
            some (((r41.1.1:(List (den tPlace))),()),[])
          else
            Option.bind (innkeepref14_Sort n ([(0,(List.getD (a0.2.1:(List Int)) (Int.toNat a1) (0:Int):Int),()),(1,a1,())]:List (den tPlace))) fun r42 =>
            some (((r42.1.1:(List (den tPlace))),()),[])
        else
          Option.bind (innkeepref14_Sort n ([(0,(List.getD (a0.2.1:(List Int)) (Int.toNat a1) (0:Int):Int),()),(1,a1,())]:List (den tPlace))) fun r43 =>
          some (((r43.1.1:(List (den tPlace))),()),[])
      else
        bif (decide ((a2.1:Int)=7)) then
          bif (decide (0≤(a2.2.2.2.2.1:Int))) then
            bif (decide ((a2.2.2.2.2.1:Int)<((List.length (a0.2.1:(List Int))):Int))) then
              Option.bind (innkeepref14_Sort n ([(0,(List.getD (a0.2.1:(List Int)) (Int.toNat a1) (0:Int):Int),()),(1,a1,()),(1,(a2.2.2.2.2.1:Int),())]:List (den tPlace))) fun r44 =>
              some (((r44.1.1:(List (den tPlace))),()),[])
            else
              Option.bind (innkeepref14_Sort n ([(0,(List.getD (a0.2.1:(List Int)) (Int.toNat a1) (0:Int):Int),()),(1,a1,())]:List (den tPlace))) fun r45 =>
              some (((r45.1.1:(List (den tPlace))),()),[])
          else
            Option.bind (innkeepref14_Sort n ([(0,(List.getD (a0.2.1:(List Int)) (Int.toNat a1) (0:Int):Int),()),(1,a1,())]:List (den tPlace))) fun r46 =>
            some (((r46.1.1:(List (den tPlace))),()),[])
        else
          bif (decide ((a2.1:Int)=8)) then
            bif (decide (0≤(a2.2.2.2.2.1:Int))) then
              bif (decide ((a2.2.2.2.2.1:Int)<((List.length (a0.2.1:(List Int))):Int))) then
                Option.bind (innkeepref14_Sort n ([(0,(List.getD (a0.2.1:(List Int)) (Int.toNat a1) (0:Int):Int),()),(1,a1,()),(1,(a2.2.2.2.2.1:Int),())]:List (den tPlace))) fun r47 =>
                some (((r47.1.1:(List (den tPlace))),()),[])
              else
                Option.bind (innkeepref14_Sort n ([(0,(List.getD (a0.2.1:(List Int)) (Int.toNat a1) (0:Int):Int),()),(1,a1,())]:List (den tPlace))) fun r48 =>
                some (((r48.1.1:(List (den tPlace))),()),[])
            else
              Option.bind (innkeepref14_Sort n ([(0,(List.getD (a0.2.1:(List Int)) (Int.toNat a1) (0:Int):Int),()),(1,a1,())]:List (den tPlace))) fun r49 =>
              some (((r49.1.1:(List (den tPlace))),()),[])
          else
            Option.bind (innkeepref14_Sort n ([(0,(List.getD (a0.2.1:(List Int)) (Int.toNat a1) (0:Int):Int),()),(1,a1,())]:List (den tPlace))) fun r50 =>
            some (((r50.1.1:(List (den tPlace))),()),[])
  else none:=by kernel_rfl
def innkeepref16_Has.res:List Sh:=[.d .bool]
@[reducible] def innkeepref16_Has.R:Type:=dShL [.d .bool]×Fresh
def innkeepref16_Has (n:Nat) (a0:(List (den tPlace))) (a1:Int) (a2:Int):Option innkeepref16_Has.R:=gc n 37 [.dat (.sl tPlace) a0 [],.dat (.int .i64) a1 [],.dat (.int .i64) a2 []] [.d .bool]
def innkeepref16_Has.l0 (n m0:Nat) (t0:(List (den tPlace))) (t1:Int) (t2:Int) (t6:Bool) (t7:Int):Option innkeepref16_Has.R :=
  lpN n c37_3 m0 (kBlk 0 (kSeq (run (gc n) n) c37_1 (retK innkeepref16_Has.fn innkeepref16_Has.res) (retK innkeepref16_Has.fn innkeepref16_Has.res)) (retK innkeepref16_Has.fn innkeepref16_Has.res))
    [(0,.dat (.sl tPlace) t0 []),(1,.dat (.int .i64) t1 []),(2,.dat (.int .i64) t2 []),(6,.dat .bool t6 []),(7,.dat (.int .i64) t7 [])]
    []
theorem innkeepref16_Has.l0_eq (n m0:Nat) (t0:(List (den tPlace))) (t1:Int) (t2:Int) (t6:Bool) (t7:Int):innkeepref16_Has.l0 n (m0+1) t0 t1 t2 t6 t7 =
  bif (decide (t7<((List.length t0):Int))) then
    if (0:Int)≤t7∧t7<(((List.length t0):Nat):Int) then
    bif (decide (((List.getD t0 (Int.toNat t7) (dft tPlace):(den tPlace)).1:Int)=t1)) then
      if (0:Int)≤t7∧t7<(((List.length t0):Nat):Int) then
      bif (decide (((List.getD t0 (Int.toNat t7) (dft tPlace):(den tPlace)).2.1:Int)=t2)) then
        some ((true,()),[])
      else
        innkeepref16_Has.l0 n m0 t0 t1 t2 t6 (IntKind.wrap .i64 (t7+1))
      else none
    else
      innkeepref16_Has.l0 n m0 t0 t1 t2 t6 (IntKind.wrap .i64 (t7+1))
    else none
  else
    some ((false,()),[]):=by kernel_rfl
theorem innkeepref16_Has.eq (n:Nat) (a0:(List (den tPlace))) (a1:Int) (a2:Int):innkeepref16_Has (n+1) a0 a1 a2 =
  innkeepref16_Has.l0 n n a0 a1 a2 false 0:=by kernel_rfl
def innkeepref16_Covers.res:List Sh:=[.d .bool]
@[reducible] def innkeepref16_Covers.R:Type:=dShL [.d .bool]×Fresh
def innkeepref16_Covers (n:Nat) (a0:(List (den tPlace))) (a1:(den tWorld)) (a2:(den tWorld)):Option innkeepref16_Covers.R:=gc n 14 [.dat (.sl tPlace) a0 [],.dat tWorld a1 [],.dat tWorld a2 []] [.d .bool]
def innkeepref16_Covers.l0 (n m0:Nat) (t0:(List (den tPlace))) (t1:(den tWorld)) (t2:(den tWorld)) (t6:Bool) (t7:Int) (o0:(den tWorld)) (o1:(den tWorld)):Option innkeepref16_Covers.R :=
  lpN n c14_3 m0 (kBlk 0 (kSeq (run (gc n) n) c14_1 (retK innkeepref16_Covers.fn innkeepref16_Covers.res) (retK innkeepref16_Covers.fn innkeepref16_Covers.res)) (retK innkeepref16_Covers.fn innkeepref16_Covers.res))
    [(0,.dat (.sl tPlace) t0 []),(1,.dat tWorld t1 []),(2,.dat tWorld t2 []),(4,.ptr 0 []),(5,.ptr 1 []),(6,.dat .bool t6 []),(7,.dat (.int .i64) t7 [])]
    [.box tWorld o0 [],.box tWorld o1 []]
def innkeepref16_Covers.l1 (n m0:Nat) (t0_1:(List (den tPlace))) (t1_1:(den tWorld)) (t2_1:(den tWorld)) (t6_1:Bool) (t7_1:Int) (t9_1:Int) (o0_1:(den tWorld)) (o1_1:(den tWorld)):Option innkeepref16_Covers.R :=
  lpN n c14_21 m0 (kBlk 2 (kSeq (run (gc n) n) c14_19 (retK innkeepref16_Covers.fn innkeepref16_Covers.res) (retK innkeepref16_Covers.fn innkeepref16_Covers.res)) (retK innkeepref16_Covers.fn innkeepref16_Covers.res))
    [(0,.dat (.sl tPlace) t0_1 []),(1,.dat tWorld t1_1 []),(2,.dat tWorld t2_1 []),(4,.ptr 0 []),(5,.ptr 1 []),(6,.dat .bool t6_1 []),(7,.dat (.int .i64) t7_1 []),(9,.dat (.int .i64) t9_1 [])]
    [.box tWorld o0_1 [],.box tWorld o1_1 []]
theorem innkeepref16_Covers.l0_eq (n m0:Nat) (t0:(List (den tPlace))) (t1:(den tWorld)) (t2:(den tWorld)) (t6:Bool) (t7:Int) (o0:(den tWorld)) (o1:(den tWorld)):innkeepref16_Covers.l0 n (m0+1) t0 t1 t2 t6 t7 o0 o1 =
  bif (decide (t7<((List.length (o0.2.1:(List Int))):Int))) then
    if (0:Int)≤t7∧t7<(((List.length (o0.2.1:(List Int))):Nat):Int) then
    if (0:Int)≤t7∧t7<(((List.length (o1.2.1:(List Int))):Nat):Int) then
    bif (decide ((List.getD (o0.2.1:(List Int)) (Int.toNat t7) (0:Int):Int)=(List.getD (o1.2.1:(List Int)) (Int.toNat t7) (0:Int):Int))) then
      if (0:Int)≤t7∧t7<(((List.length (o0.2.2.1:(List Int))):Nat):Int) then
      if (0:Int)≤t7∧t7<(((List.length (o1.2.2.1:(List Int))):Nat):Int) then
      bif (!(decide ((List.getD (o0.2.2.1:(List Int)) (Int.toNat t7) (0:Int):Int)=(List.getD (o1.2.2.1:(List Int)) (Int.toNat t7) (0:Int):Int)))) then
        Option.bind (innkeepref16_Has n t0 1 t7) fun r1 =>
        bif (!(r1.1.1:Bool)) then
          some ((false,()),[])
        else
          innkeepref16_Covers.l0 n m0 t0 t1 t2 t6 (IntKind.wrap .i64 (t7+1)) o0 o1
      else
        innkeepref16_Covers.l0 n m0 t0 t1 t2 t6 (IntKind.wrap .i64 (t7+1)) o0 o1
      else none
      else none
    else
      Option.bind (innkeepref16_Has n t0 1 t7) fun r2 =>
      bif (!(r2.1.1:Bool)) then
        some ((false,()),[])
      else
        innkeepref16_Covers.l0 n m0 t0 t1 t2 t6 (IntKind.wrap .i64 (t7+1)) o0 o1
    else none
    else none
  else
    innkeepref16_Covers.l1 n n t0 t1 t2 t6 t7 0 o0 o1:=by kernel_rfl
theorem innkeepref16_Covers.l1_eq (n m0:Nat) (t0_1:(List (den tPlace))) (t1_1:(den tWorld)) (t2_1:(den tWorld)) (t6_1:Bool) (t7_1:Int) (t9_1:Int) (o0_1:(den tWorld)) (o1_1:(den tWorld)):innkeepref16_Covers.l1 n (m0+1) t0_1 t1_1 t2_1 t6_1 t7_1 t9_1 o0_1 o1_1 =
  bif (decide (t9_1<((List.length (o0_1.2.2.2.1:(List (den tPlace)))):Int))) then
    if (0:Int)≤t9_1∧t9_1<(((List.length (o0_1.2.2.2.1:(List (den tPlace)))):Nat):Int) then
    if (0:Int)≤t9_1∧t9_1<(((List.length (o1_1.2.2.2.1:(List (den tPlace)))):Nat):Int) then
    bif (eqT tPlace (List.getD (o0_1.2.2.2.1:(List (den tPlace))) (Int.toNat t9_1) (dft tPlace):(den tPlace)) (List.getD (o1_1.2.2.2.1:(List (den tPlace))) (Int.toNat t9_1) (dft tPlace):(den tPlace))) then
      innkeepref16_Covers.l1 n m0 t0_1 t1_1 t2_1 t6_1 t7_1 (IntKind.wrap .i64 (t9_1+1)) o0_1 o1_1
    else
      Option.bind (innkeepref07_Root n o0_1 t9_1) fun r3 =>
      Option.bind (innkeepref07_Root n o1_1 t9_1) fun r4 =>
      Option.bind (innkeepref16_Has n t0_1 (r3.1.1.1:Int) (r3.1.1.2.1:Int)) fun r5 =>
      bif (!(r5.1.1:Bool)) then
        some ((false,()),[])
      else
        Option.bind (innkeepref16_Has n t0_1 (r4.1.1.1:Int) (r4.1.1.2.1:Int)) fun r6 =>
        bif (!(r6.1.1:Bool)) then
          some ((false,()),[])
        else
          innkeepref16_Covers.l1 n m0 t0_1 t1_1 t2_1 t6_1 t7_1 (IntKind.wrap .i64 (t9_1+1)) o0_1 o1_1
    else none
    else none
  else
    some ((true,()),[]):=by kernel_rfl
theorem innkeepref16_Covers.eq (n:Nat) (a0:(List (den tPlace))) (a1:(den tWorld)) (a2:(den tWorld)):innkeepref16_Covers (n+1) a0 a1 a2 =
  innkeepref16_Covers.l0 n n a0 a1 a2 false 0 a1 a2:=by kernel_rfl
def innkeeplaw16_FootTells.res:List Sh:=[.d .bool]
@[reducible] def innkeeplaw16_FootTells.R:Type:=dShL [.d .bool]×Fresh
def innkeeplaw16_FootTells (n:Nat) (a0:(den tWorld)) (a1:Int) (a2:(den tCmd)) (a3:(List (den tPlace))):Option innkeeplaw16_FootTells.R:=gc n 3 [.dat tWorld a0 [],.dat (.int .u8) a1 [],.dat tCmd a2 [],.dat (.sl tPlace) a3 []] [.d .bool]
theorem innkeeplaw16_FootTells.eq (n:Nat) (a0:(den tWorld)) (a1:Int) (a2:(den tCmd)) (a3:(List (den tPlace))):innkeeplaw16_FootTells (n+1) a0 a1 a2 a3 =
  Option.bind (innkeeplaw16_awake n) fun r1 =>
  bif (!(r1.1.1:Bool)) then
    Option.bind (innkeeplaw16_awake n) fun r2 =>
    some (((r2.1.1:Bool),()),[])
  else
    Option.bind (innkeeplaw16_fits n a0) fun r3 =>
    bif (!(r3.1.1:Bool)) then
      Option.bind (innkeeplaw16_awake n) fun r4 =>
      some (((r4.1.1:Bool),()),[])
    else
      Option.bind (innkeepref03_Few n a2) fun r5 =>
      bif (!(r5.1.1:Bool)) then
        Option.bind (innkeeplaw16_awake n) fun r6 =>
        some (((r6.1.1:Bool),()),[])
      else
        Option.bind (innkeepref03_May n a2) fun r7 =>
        bif (!(r7.1.1:Bool)) then
          Option.bind (innkeeplaw16_awake n) fun r8 =>
          some (((r8.1.1:Bool),()),[])
        else
          bif (decide (40<((List.length a3):Int))) then
            Option.bind (innkeeplaw16_awake n) fun r9 =>
            some (((r9.1.1:Bool),()),[])
          else
            if ((List.length (a0.2.1:(List Int))):Int)=0 then none else
            Option.bind (innkeepref13_Do n a0 (Int.tmod (IntKind.wrap .i64 (a1)) ((List.length (a0.2.1:(List Int))):Int)) a2) fun r10 =>
            Option.bind (foot_Of n a0 (Int.tmod (IntKind.wrap .i64 (a1)) ((List.length (a0.2.1:(List Int))):Int)) a2) fun r11 =>
            Option.bind (innkeepref16_Of n a0 (Int.tmod (IntKind.wrap .i64 (a1)) ((List.length (a0.2.1:(List Int))):Int)) a2) fun r12 =>
            Option.bind (innkeepref14_Same n (r11.1.1:(List (den tPlace))) (r12.1.1:(List (den tPlace)))) fun r13 =>
            bif (r13.1.1:Bool) then
              Option.bind (foot_Covers n a3 a0 r10.1.1) fun r14 =>
              Option.bind (innkeepref16_Covers n a3 a0 r10.1.1) fun r15 =>
              some (((eqT .bool (r14.1.1:Bool) (r15.1.1:Bool)),()),[])
            else
              some ((false,()),[]):=by kernel_rfl
def innkeeplaw16_FootFew.res:List Sh:=[.d .bool]
@[reducible] def innkeeplaw16_FootFew.R:Type:=dShL [.d .bool]×Fresh
def innkeeplaw16_FootFew (n:Nat) (a0:(den tWorld)) (a1:Int) (a2:(den tCmd)):Option innkeeplaw16_FootFew.R:=gc n 4 [.dat tWorld a0 [],.dat (.int .u8) a1 [],.dat tCmd a2 []] [.d .bool]
def innkeeplaw16_FootFew.l0 (n m0:Nat) (t0:(den tWorld)) (t1:Int) (t2:(den tCmd)) (t6:Bool) (t7:Int) (t8:(List (den tPlace))) (t9:Int) (t10:Int) (t11:Int) (o0:(den tWorld)) (o1:(den tCmd)):Option innkeeplaw16_FootFew.R :=
  lpN n c4_16 m0 (kBlk 0 (kSeq (run (gc n) n) c4_14 (retK innkeeplaw16_FootFew.fn innkeeplaw16_FootFew.res) (retK innkeeplaw16_FootFew.fn innkeeplaw16_FootFew.res)) (retK innkeeplaw16_FootFew.fn innkeeplaw16_FootFew.res))
    [(0,.dat tWorld t0 []),(1,.dat (.int .u8) t1 []),(2,.dat tCmd t2 []),(3,.ptr 0 []),(5,.ptr 1 []),(6,.dat .bool t6 []),(7,.dat (.int .i64) t7 []),(8,.dat (.sl tPlace) t8 []),(9,.dat (.int .i64) t9 []),(10,.dat (.int .i64) t10 []),(11,.dat (.int .i64) t11 [])]
    [.box tWorld o0 [],.box tCmd o1 []]
theorem innkeeplaw16_FootFew.l0_eq (n m0:Nat) (t0:(den tWorld)) (t1:Int) (t2:(den tCmd)) (t6:Bool) (t7:Int) (t8:(List (den tPlace))) (t9:Int) (t10:Int) (t11:Int) (o0:(den tWorld)) (o1:(den tCmd)):innkeeplaw16_FootFew.l0 n (m0+1) t0 t1 t2 t6 t7 t8 t9 t10 t11 o0 o1 =
  bif (decide (t11<((List.length t8):Int))) then
    if (0:Int)≤t11∧t11<(((List.length t8):Nat):Int) then
    bif (decide (((List.getD t8 (Int.toNat t11) (dft tPlace):(den tPlace)).1:Int)=0)) then
      innkeeplaw16_FootFew.l0 n m0 t0 t1 t2 t6 t7 t8 (IntKind.wrap .i64 (t9+1)) t10 (IntKind.wrap .i64 (t11+1)) o0 o1
    else
      innkeeplaw16_FootFew.l0 n m0 t0 t1 t2 t6 t7 t8 t9 (IntKind.wrap .i64 (t10+1)) (IntKind.wrap .i64 (t11+1)) o0 o1
    else none
  else
    bif (decide ((o1.1:Int)=1)) then
      bif (decide ((o1.1:Int)=2)) then
        bif (decide ((o1.2.2.2.2.1:Int)<((List.length (o0.2.1:(List Int))):Int))) then
          bif (decide (1≤t9)) then
            bif (decide (t9≤2)) then
              bif (decide (t9=1)) then
                bif (decide (1≤t10)) then
                  bif (decide (t10≤2)) then
                    some (((eqT .bool (decide (t10=2)) (!(decide ((o1.2.2.2.2.1:Int)=t7)))),()),[])
                  else
                    some ((false,()),[])
                else
                  some ((false,()),[])
              else
                bif (decide (1≤t10)) then
                  bif (decide (t10≤2)) then
                    some (((eqT .bool (decide (t10=2)) (!(decide ((o1.2.2.2.2.1:Int)=t7)))),()),[])
                  else
                    some ((false,()),[])
                else
                  some ((false,()),[])
            else
              some ((false,()),[])
          else
            some ((false,()),[])
        else
          bif (decide (1≤t9)) then
            bif (decide (t9≤2)) then
              bif (decide (t9=1)) then
                bif (decide (1≤t10)) then
                  bif (decide (t10≤2)) then
                    some (((eqT .bool (decide (t10=2)) false),()),[])
                  else
                    some ((false,()),[])
                else
                  some ((false,()),[])
              else
                bif (decide (1≤t10)) then
                  bif (decide (t10≤2)) then
                    some (((eqT .bool (decide (t10=2)) false),()),[])
                  else
                    some ((false,()),[])
                else
                  some ((false,()),[])
            else
              some ((false,()),[])
          else
            some ((false,()),[])
      else
        bif (decide ((o1.1:Int)=7)) then
          bif (decide ((o1.2.2.2.2.1:Int)<((List.length (o0.2.1:(List Int))):Int))) then
            bif (decide (1≤t9)) then
              bif (decide (t9≤2)) then
                bif (decide (t9=1)) then
                  bif (decide (1≤t10)) then
                    bif (decide (t10≤2)) then
                      some (((eqT .bool (decide (t10=2)) (!(decide ((o1.2.2.2.2.1:Int)=t7)))),()),[])
                    else
                      some ((false,()),[])
                  else
                    some ((false,()),[])
                else
                  bif (decide (1≤t10)) then
                    bif (decide (t10≤2)) then
                      some (((eqT .bool (decide (t10=2)) (!(decide ((o1.2.2.2.2.1:Int)=t7)))),()),[])
                    else
                      some ((false,()),[])
                  else
                    some ((false,()),[])
              else
                some ((false,()),[])
            else
              some ((false,()),[])
          else
            bif (decide (1≤t9)) then
              bif (decide (t9≤2)) then
                bif (decide (t9=1)) then
                  bif (decide (1≤t10)) then
                    bif (decide (t10≤2)) then
                      some (((eqT .bool (decide (t10=2)) false),()),[])
                    else
                      some ((false,()),[])
                  else
                    some ((false,()),[])
                else
                  bif (decide (1≤t10)) then
                    bif (decide (t10≤2)) then
                      some (((eqT .bool (decide (t10=2)) false),()),[])
                    else
                      some ((false,()),[])
                  else
                    some ((false,()),[])
              else
                some ((false,()),[])
            else
              some ((false,()),[])
        else
          bif (decide ((o1.1:Int)=8)) then
            bif (decide ((o1.2.2.2.2.1:Int)<((List.length (o0.2.1:(List Int))):Int))) then
              bif (decide (1≤t9)) then
                bif (decide (t9≤2)) then
                  bif (decide (t9=1)) then
                    bif (decide (1≤t10)) then
                      bif (decide (t10≤2)) then
                        some (((eqT .bool (decide (t10=2)) (!(decide ((o1.2.2.2.2.1:Int)=t7)))),()),[])
                      else
                        some ((false,()),[])
                    else
                      some ((false,()),[])
                  else
                    bif (decide (1≤t10)) then
                      bif (decide (t10≤2)) then
                        some (((eqT .bool (decide (t10=2)) (!(decide ((o1.2.2.2.2.1:Int)=t7)))),()),[])
                      else
                        some ((false,()),[])
                    else
                      some ((false,()),[])
                else
                  some ((false,()),[])
              else
                some ((false,()),[])
            else
              bif (decide (1≤t9)) then
                bif (decide (t9≤2)) then
                  bif (decide (t9=1)) then
                    bif (decide (1≤t10)) then
                      bif (decide (t10≤2)) then
                        some (((eqT .bool (decide (t10=2)) false),()),[])
                      else
                        some ((false,()),[])
                    else
                      some ((false,()),[])
                  else
                    bif (decide (1≤t10)) then
                      bif (decide (t10≤2)) then
                        some (((eqT .bool (decide (t10=2)) false),()),[])
                      else
                        some ((false,()),[])
                    else
                      some ((false,()),[])
                else
                  some ((false,()),[])
              else
                some ((false,()),[])
          else
            bif (decide (1≤t9)) then
              bif (decide (t9≤2)) then
                bif (decide (t9=1)) then
                  bif (decide (1≤t10)) then
                    bif (decide (t10≤2)) then
                      some (((eqT .bool (decide (t10=2)) false),()),[])
                    else
                      some ((false,()),[])
                  else
                    some ((false,()),[])
                else
                  bif (decide (1≤t10)) then
                    bif (decide (t10≤2)) then
                      some (((eqT .bool (decide (t10=2)) false),()),[])
                    else
                      some ((false,()),[])
                  else
                    some ((false,()),[])
              else
                some ((false,()),[])
            else
              some ((false,()),[])
    else
      bif (decide ((o1.1:Int)=2)) then
        bif (decide ((o1.2.2.2.2.1:Int)<((List.length (o0.2.1:(List Int))):Int))) then
          bif (decide (1≤t9)) then
            bif (decide (t9≤2)) then
              bif (decide (t9=1)) then
                bif (decide (1≤t10)) then
                  bif (decide (t10≤2)) then
                    some (((eqT .bool (decide (t10=2)) (!(decide ((o1.2.2.2.2.1:Int)=t7)))),()),[])
                  else
                    some ((false,()),[])
                else
                  some ((false,()),[])
              else
                bif (decide ((o1.1:Int)=2)) then
                  bif (decide (1≤t10)) then
                    bif (decide (t10≤2)) then
                      some (((eqT .bool (decide (t10=2)) (!(decide ((o1.2.2.2.2.1:Int)=t7)))),()),[])
                    else
                      some ((false,()),[])
                  else
                    some ((false,()),[])
                else
                  some ((false,()),[])
            else
              some ((false,()),[])
          else
            some ((false,()),[])
        else
          bif (decide (1≤t9)) then
            bif (decide (t9≤2)) then
              bif (decide (t9=1)) then
                bif (decide (1≤t10)) then
                  bif (decide (t10≤2)) then
                    some (((eqT .bool (decide (t10=2)) false),()),[])
                  else
                    some ((false,()),[])
                else
                  some ((false,()),[])
              else
                bif (decide ((o1.1:Int)=2)) then
                  bif (decide (1≤t10)) then
                    bif (decide (t10≤2)) then
                      some (((eqT .bool (decide (t10=2)) false),()),[])
                    else
                      some ((false,()),[])
                  else
                    some ((false,()),[])
                else
                  some ((false,()),[])
            else
              some ((false,()),[])
          else
            some ((false,()),[])
      else
        bif (decide ((o1.1:Int)=7)) then
          bif (decide ((o1.2.2.2.2.1:Int)<((List.length (o0.2.1:(List Int))):Int))) then
            bif (decide (1≤t9)) then
              bif (decide (t9≤2)) then
                bif (decide (t9=1)) then
                  bif (decide (1≤t10)) then
                    bif (decide (t10≤2)) then
                      some (((eqT .bool (decide (t10=2)) (!(decide ((o1.2.2.2.2.1:Int)=t7)))),()),[])
                    else
                      some ((false,()),[])
                  else
                    some ((false,()),[])
                else
                  bif (decide ((o1.1:Int)=2)) then
                    bif (decide (1≤t10)) then
                      bif (decide (t10≤2)) then
                        some (((eqT .bool (decide (t10=2)) (!(decide ((o1.2.2.2.2.1:Int)=t7)))),()),[])
                      else
                        some ((false,()),[])
                    else
                      some ((false,()),[])
                  else
                    some ((false,()),[])
              else
                some ((false,()),[])
            else
              some ((false,()),[])
          else
            bif (decide (1≤t9)) then
              bif (decide (t9≤2)) then
                bif (decide (t9=1)) then
                  bif (decide (1≤t10)) then
                    bif (decide (t10≤2)) then
                      some (((eqT .bool (decide (t10=2)) false),()),[])
                    else
                      some ((false,()),[])
                  else
                    some ((false,()),[])
                else
                  bif (decide ((o1.1:Int)=2)) then
                    bif (decide (1≤t10)) then
                      bif (decide (t10≤2)) then
                        some (((eqT .bool (decide (t10=2)) false),()),[])
                      else
                        some ((false,()),[])
                    else
                      some ((false,()),[])
                  else
                    some ((false,()),[])
              else
                some ((false,()),[])
            else
              some ((false,()),[])
        else
          bif (decide ((o1.1:Int)=8)) then
            bif (decide ((o1.2.2.2.2.1:Int)<((List.length (o0.2.1:(List Int))):Int))) then
              bif (decide (1≤t9)) then
                bif (decide (t9≤2)) then
                  bif (decide (t9=1)) then
                    bif (decide (1≤t10)) then
                      bif (decide (t10≤2)) then
                        some (((eqT .bool (decide (t10=2)) (!(decide ((o1.2.2.2.2.1:Int)=t7)))),()),[])
                      else
                        some ((false,()),[])
                    else
                      some ((false,()),[])
                  else
                    bif (decide ((o1.1:Int)=2)) then
                      bif (decide (1≤t10)) then
                        bif (decide (t10≤2)) then
                          some (((eqT .bool (decide (t10=2)) (!(decide ((o1.2.2.2.2.1:Int)=t7)))),()),[])
                        else
                          some ((false,()),[])
                      else
                        some ((false,()),[])
                    else
                      some ((false,()),[])
                else
                  some ((false,()),[])
              else
                some ((false,()),[])
            else
              bif (decide (1≤t9)) then
                bif (decide (t9≤2)) then
                  bif (decide (t9=1)) then
                    bif (decide (1≤t10)) then
                      bif (decide (t10≤2)) then
                        some (((eqT .bool (decide (t10=2)) false),()),[])
                      else
                        some ((false,()),[])
                    else
                      some ((false,()),[])
                  else
                    bif (decide ((o1.1:Int)=2)) then
                      bif (decide (1≤t10)) then
                        bif (decide (t10≤2)) then
                          some (((eqT .bool (decide (t10=2)) false),()),[])
                        else
                          some ((false,()),[])
                      else
                        some ((false,()),[])
                    else
                      some ((false,()),[])
                else
                  some ((false,()),[])
              else
                some ((false,()),[])
          else
            bif (decide (1≤t9)) then
              bif (decide (t9≤2)) then
                bif (decide (t9=1)) then
                  bif (decide (1≤t10)) then
                    bif (decide (t10≤2)) then
                      some (((eqT .bool (decide (t10=2)) false),()),[])
                    else
                      some ((false,()),[])
                  else
                    some ((false,()),[])
                else
                  bif (decide ((o1.1:Int)=2)) then
                    bif (decide (1≤t10)) then
                      bif (decide (t10≤2)) then
                        some (((eqT .bool (decide (t10=2)) false),()),[])
                      else
                        some ((false,()),[])
                    else
                      some ((false,()),[])
                  else
                    some ((false,()),[])
              else
                some ((false,()),[])
            else
              some ((false,()),[]):=by kernel_rfl
theorem innkeeplaw16_FootFew.eq (n:Nat) (a0:(den tWorld)) (a1:Int) (a2:(den tCmd)):innkeeplaw16_FootFew (n+1) a0 a1 a2 =
  Option.bind (innkeeplaw16_awake n) fun r1 =>
  bif (!(r1.1.1:Bool)) then
    Option.bind (innkeeplaw16_awake n) fun r2 =>
    some (((r2.1.1:Bool),()),[])
  else
    Option.bind (innkeeplaw16_fits n a0) fun r3 =>
    bif (!(r3.1.1:Bool)) then
      Option.bind (innkeeplaw16_awake n) fun r4 =>
      some (((r4.1.1:Bool),()),[])
    else
      Option.bind (innkeepref03_Few n a2) fun r5 =>
      bif (!(r5.1.1:Bool)) then
        Option.bind (innkeeplaw16_awake n) fun r6 =>
        some (((r6.1.1:Bool),()),[])
      else
        Option.bind (innkeepref03_May n a2) fun r7 =>
        bif (!(r7.1.1:Bool)) then
          Option.bind (innkeeplaw16_awake n) fun r8 =>
          some (((r8.1.1:Bool),()),[])
        else
          if ((List.length (a0.2.1:(List Int))):Int)=0 then none else
          Option.bind (foot_Of n a0 (Int.tmod (IntKind.wrap .i64 (a1)) ((List.length (a0.2.1:(List Int))):Int)) a2) fun r9 =>
          innkeeplaw16_FootFew.l0 n n a0 a1 a2 false (Int.tmod (IntKind.wrap .i64 (a1)) ((List.length (a0.2.1:(List Int))):Int)) (r9.1.1:(List (den tPlace))) 0 0 0 a0 a2:=by kernel_rfl
end Go.Proofs.Ytmemggdjnfccfaa.Ghost
