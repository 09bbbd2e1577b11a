/- What each function and each loop comes to, one step. Conditions: none. -/
import Derived.Test.YtjobjooccgledaaDoorGSp
import Derived.KernelRfl
set_option linter.unusedVariables false
set_option linter.unusedSimpArgs false
set_option linter.unusedSectionVars false
set_option linter.unnecessarySimpa false
namespace Go.Proofs.YtjobjooccgledaaDoor.Ghost
open Go
abbrev gc (n:Nat):Calls:=gcall prog sp n
abbrev lpN {R:Type} (n:Nat) (c:Cd) (m:Nat) (K:Kt R) (s:Slots) (h:Heap):Option R:=loopN (fun Kn K s h=>run (gc n) n c Kn K s h) m K s h
def innkeepref06_New.res:List Sh:=[.d tWorld]
@[reducible] def innkeepref06_New.R:Type:=dShL [.d tWorld]×Fresh
def innkeepref06_New (n:Nat) (a0:(den tDesc)):Option innkeepref06_New.R:=gc n 22 [.dat tDesc a0 []] [.d tWorld]
def innkeepref06_New.l0 (n m0:Nat) (t0:(den tDesc)) (t4:Int) (o0:(den tDesc)) (o1:(den tWorld)) (o2:(den tWorld)) (o3:(List Int)) (o4:(List Int)) (o9:(List (den tPlace))):Option innkeepref06_New.R :=
  lpN n c22_9 m0 (kBlk 0 (kSeq (run (gc n) n) c22_7 (retK innkeepref06_New.fn innkeepref06_New.res) (retK innkeepref06_New.fn innkeepref06_New.res)) (retK innkeepref06_New.fn innkeepref06_New.res))
    [(0,.dat tDesc t0 []),(1,.ptr 0 []),(2,.ptr 1 []),(3,.ptr 2 []),(4,.dat (.int .i64) t4 [])]
    [.box tDesc o0 [],.box tWorld o1 [],.box tWorld o2 [([1],some 3),([2],some 4),([3],some 9)],.arr (.int .i64) o3,.arr (.int .i64) o4,.none,.none,.dead,.dead,.arr tPlace o9]
theorem innkeepref06_New.l0_eq (n m0:Nat) (t0:(den tDesc)) (t4:Int) (o0:(den tDesc)) (o1:(den tWorld)) (o2:(den tWorld)) (o3:(List Int)) (o4:(List Int)) (o9:(List (den tPlace))):innkeepref06_New.l0 n (m0+1) t0 t4 o0 o1 o2 o3 o4 o9 =
  bif (decide (t4<((List.length (o0.2.2.2.1:(List Int))):Int))) then
    if (0:Int)≤t4∧t4<(((List.length (o0.2.2.2.1:(List Int))):Nat):Int) then
    if (List.length o9)+1≤1048576 then
    innkeepref06_New.l0 n m0 t0 (IntKind.wrap .i64 (t4+1)) o0 o1 (o2.1,(o2.2.1:(List Int)),(o2.2.2.1:(List Int)),([]:List (den tPlace)),()) o3 o4 (o9 ++ ([(0,(List.getD (o0.2.2.2.1:(List Int)) (Int.toNat t4) (0:Int):Int),())]:List (den tPlace)))
    else none
    else none
  else
    some (((o2.1,o3,o4,o9,()),()),[(0,[1]),(0,[2]),(0,[3])]):=by kernel_rfl
theorem innkeepref06_New.eq (n:Nat) (a0:(den tDesc)):innkeepref06_New (n+1) a0 =
  if 0+(List.length (a0.2.1:(List Int)))≤1048576 then
  if 0+(List.length (a0.2.2.1:(List Int)))≤1048576 then
  innkeepref06_New.l0 n n a0 0 a0 ((([]:List (List Int)),([]:List Int),([]:List Int),([]:List Int),([]:List Bool),0,0,0,()),([]:List Int),([]:List Int),([]:List (den tPlace)),()) (a0,([]:List Int),([]:List Int),([]:List (den tPlace)),()) (([]:List Int) ++ (a0.2.1:(List Int))) (([]:List Int) ++ (a0.2.2.1:(List Int))) ([]:List (den tPlace))
  else none
  else none:=by kernel_rfl
def innkeepref06_Copied.res:List Sh:=[.d tWorld]
@[reducible] def innkeepref06_Copied.R:Type:=dShL [.d tWorld]×Fresh
def innkeepref06_Copied (n:Nat) (a0:(den tWorld)):Option innkeepref06_Copied.R:=gc n 21 [.dat tWorld a0 []] [.d tWorld]
theorem innkeepref06_Copied.eq (n:Nat) (a0:(den tWorld)):innkeepref06_Copied (n+1) a0 =
  if 0+(List.length (a0.2.1:(List Int)))≤1048576 then
  if 0+(List.length (a0.2.2.1:(List Int)))≤1048576 then
  if 0+(List.length (a0.2.2.2.1:(List (den tPlace))))≤1048576 then
  some (((a0.1,(([]:List Int) ++ (a0.2.1:(List Int))),(([]:List Int) ++ (a0.2.2.1:(List Int))),(([]:List (den tPlace)) ++ (a0.2.2.2.1:(List (den tPlace)))),()),()),[(0,[1]),(0,[2]),(0,[3])])
  else none
  else none
  else none:=by kernel_rfl
def plan_From.res:List Sh:=[.d (.sl tWrite)]
@[reducible] def plan_From.R:Type:=dShL [.d (.sl tWrite)]×Fresh
def plan_From (n:Nat) (a0:(den tWorld)) (a1:(den tWorld)):Option plan_From.R:=gc n 11 [.dat tWorld a0 [],.dat tWorld a1 []] [.d (.sl tWrite)]
def plan_From.l0 (n m0:Nat) (t0:(den tWorld)) (t1:(den tWorld)) (t4:(List (den tWrite))) (t13:(List Int)) (t14:Int) (t15:Int) (o0:(den tWorld)) (o1:(den tWorld)) (o9:(List (den tWrite))):Option plan_From.R :=
  lpN n c11_5 m0 (kBlk 0 (kSeq (run (gc n) n) c11_2 (retK plan_From.fn plan_From.res) (retK plan_From.fn plan_From.res)) (retK plan_From.fn plan_From.res))
    [(0,.dat tWorld t0 []),(1,.dat tWorld t1 []),(2,.ptr 0 []),(3,.ptr 1 []),(4,.dat (.sl tWrite) t4 []),(5,.dat (.sl tWrite) ([]:List (den tWrite)) [([],some 9)]),(13,.dat (.sl (.int .i64)) t13 []),(14,.dat (.int .i64) t14 []),(15,.dat (.int .i64) t15 [])]
    [.box tWorld o0 [],.box tWorld o1 [],.none,.none,.none,.none,.none,.none,.none,.arr tWrite o9]
def plan_From.l1 (n m0:Nat) (t0_1:(den tWorld)) (t1_1:(den tWorld)) (t4_1:(List (den tWrite))) (t13_1:(List Int)) (t14_1:Int) (t15_1:Int) (t35_1:(List Int)) (t36_1:Int) (t37_1:Int) (o0_1:(den tWorld)) (o1_1:(den tWorld)) (o9_1:(List (den tWrite))):Option plan_From.R :=
  lpN n c11_23 m0 (kBlk 2 (kSeq (run (gc n) n) c11_20 (retK plan_From.fn plan_From.res) (retK plan_From.fn plan_From.res)) (retK plan_From.fn plan_From.res))
    [(0,.dat tWorld t0_1 []),(1,.dat tWorld t1_1 []),(2,.ptr 0 []),(3,.ptr 1 []),(4,.dat (.sl tWrite) t4_1 []),(5,.dat (.sl tWrite) ([]:List (den tWrite)) [([],some 9)]),(13,.dat (.sl (.int .i64)) t13_1 []),(14,.dat (.int .i64) t14_1 []),(15,.dat (.int .i64) t15_1 []),(35,.dat (.sl (.int .i64)) t35_1 []),(36,.dat (.int .i64) t36_1 []),(37,.dat (.int .i64) t37_1 [])]
    [.box tWorld o0_1 [],.box tWorld o1_1 [],.none,.none,.none,.none,.none,.none,.none,.arr tWrite o9_1]
def plan_From.l2 (n m0:Nat) (t0_2:(den tWorld)) (t1_2:(den tWorld)) (t4_2:(List (den tWrite))) (t13_2:(List Int)) (t14_2:Int) (t15_2:Int) (t35_2:(List Int)) (t36_2:Int) (t37_2:Int) (t57_2:(List (den tPlace))) (t58_2:Int) (t59_2:Int) (o0_2:(den tWorld)) (o1_2:(den tWorld)) (o9_2:(List (den tWrite))):Option plan_From.R :=
  lpN n c11_41 m0 (kBlk 4 (kSeq (run (gc n) n) c11_38 (retK plan_From.fn plan_From.res) (retK plan_From.fn plan_From.res)) (retK plan_From.fn plan_From.res))
    [(0,.dat tWorld t0_2 []),(1,.dat tWorld t1_2 []),(2,.ptr 0 []),(3,.ptr 1 []),(4,.dat (.sl tWrite) t4_2 []),(5,.dat (.sl tWrite) ([]:List (den tWrite)) [([],some 9)]),(13,.dat (.sl (.int .i64)) t13_2 []),(14,.dat (.int .i64) t14_2 []),(15,.dat (.int .i64) t15_2 []),(35,.dat (.sl (.int .i64)) t35_2 []),(36,.dat (.int .i64) t36_2 []),(37,.dat (.int .i64) t37_2 []),(57,.dat (.sl tPlace) t57_2 []),(58,.dat (.int .i64) t58_2 []),(59,.dat (.int .i64) t59_2 [])]
    [.box tWorld o0_2 [],.box tWorld o1_2 [],.none,.none,.none,.none,.none,.none,.none,.arr tWrite o9_2]
theorem plan_From.l0_eq (n m0:Nat) (t0:(den tWorld)) (t1:(den tWorld)) (t4:(List (den tWrite))) (t13:(List Int)) (t14:Int) (t15:Int) (o0:(den tWorld)) (o1:(den tWorld)) (o9:(List (den tWrite))):plan_From.l0 n (m0+1) t0 t1 t4 t13 t14 t15 o0 o1 o9 =
  bif (decide (t15<t14)) then
    if (0:Int)≤t15∧t15<(((List.length t13):Nat):Int) then
    if (0:Int)≤t15∧t15<(((List.length (o0.2.1:(List Int))):Nat):Int) then
    bif (!(decide ((List.getD (o0.2.1:(List Int)) (Int.toNat t15) (0:Int):Int)=(List.getD t13 (Int.toNat t15) (0:Int):Int)))) then
      if (List.length o9)+1≤1048576 then
      plan_From.l0 n m0 t0 t1 t4 t13 t14 (IntKind.wrap .i64 (t15+1)) o0 o1 (o9 ++ ([(0,t15,(List.getD t13 (Int.toNat t15) (0:Int):Int),(0,0,()),())]:List (den tWrite)))
      else none
    else
      plan_From.l0 n m0 t0 t1 t4 t13 t14 (IntKind.wrap .i64 (t15+1)) o0 o1 o9
    else none
    else none
  else
    plan_From.l1 n n t0 t1 t4 t13 t14 t15 (o1.2.2.1:(List Int)) ((List.length (o1.2.2.1:(List Int))):Int) 0 o0 o1 o9:=by kernel_rfl
theorem plan_From.l1_eq (n m0:Nat) (t0_1:(den tWorld)) (t1_1:(den tWorld)) (t4_1:(List (den tWrite))) (t13_1:(List Int)) (t14_1:Int) (t15_1:Int) (t35_1:(List Int)) (t36_1:Int) (t37_1:Int) (o0_1:(den tWorld)) (o1_1:(den tWorld)) (o9_1:(List (den tWrite))):plan_From.l1 n (m0+1) t0_1 t1_1 t4_1 t13_1 t14_1 t15_1 t35_1 t36_1 t37_1 o0_1 o1_1 o9_1 =
  bif (decide (t37_1<t36_1)) then
    if (0:Int)≤t37_1∧t37_1<(((List.length t35_1):Nat):Int) then
    if (0:Int)≤t37_1∧t37_1<(((List.length (o0_1.2.2.1:(List Int))):Nat):Int) then
    bif (!(decide ((List.getD (o0_1.2.2.1:(List Int)) (Int.toNat t37_1) (0:Int):Int)=(List.getD t35_1 (Int.toNat t37_1) (0:Int):Int)))) then
      if (List.length o9_1)+1≤1048576 then
      plan_From.l1 n m0 t0_1 t1_1 t4_1 t13_1 t14_1 t15_1 t35_1 t36_1 (IntKind.wrap .i64 (t37_1+1)) o0_1 o1_1 (o9_1 ++ ([(1,t37_1,(List.getD t35_1 (Int.toNat t37_1) (0:Int):Int),(0,0,()),())]:List (den tWrite)))
      else none
    else
      plan_From.l1 n m0 t0_1 t1_1 t4_1 t13_1 t14_1 t15_1 t35_1 t36_1 (IntKind.wrap .i64 (t37_1+1)) o0_1 o1_1 o9_1
    else none
    else none
  else
    plan_From.l2 n n t0_1 t1_1 t4_1 t13_1 t14_1 t15_1 t35_1 t36_1 t37_1 (o1_1.2.2.2.1:(List (den tPlace))) ((List.length (o1_1.2.2.2.1:(List (den tPlace)))):Int) 0 o0_1 o1_1 o9_1:=by kernel_rfl
theorem plan_From.l2_eq (n m0:Nat) (t0_2:(den tWorld)) (t1_2:(den tWorld)) (t4_2:(List (den tWrite))) (t13_2:(List Int)) (t14_2:Int) (t15_2:Int) (t35_2:(List Int)) (t36_2:Int) (t37_2:Int) (t57_2:(List (den tPlace))) (t58_2:Int) (t59_2:Int) (o0_2:(den tWorld)) (o1_2:(den tWorld)) (o9_2:(List (den tWrite))):plan_From.l2 n (m0+1) t0_2 t1_2 t4_2 t13_2 t14_2 t15_2 t35_2 t36_2 t37_2 t57_2 t58_2 t59_2 o0_2 o1_2 o9_2 =
  bif (decide (t59_2<t58_2)) then
    if (0:Int)≤t59_2∧t59_2<(((List.length t57_2):Nat):Int) then
    if (0:Int)≤t59_2∧t59_2<(((List.length (o0_2.2.2.2.1:(List (den tPlace)))):Nat):Int) then
    bif (!(eqT tPlace (List.getD (o0_2.2.2.2.1:(List (den tPlace))) (Int.toNat t59_2) (dft tPlace):(den tPlace)) (List.getD t57_2 (Int.toNat t59_2) (dft tPlace):(den tPlace)))) then
      if (List.length o9_2)+1≤1048576 then
      plan_From.l2 n m0 t0_2 t1_2 t4_2 t13_2 t14_2 t15_2 t35_2 t36_2 t37_2 t57_2 t58_2 (IntKind.wrap .i64 (t59_2+1)) o0_2 o1_2 (o9_2 ++ ([(2,t59_2,0,(List.getD t57_2 (Int.toNat t59_2) (dft tPlace):(den tPlace)),())]:List (den tWrite)))
      else none
    else
      plan_From.l2 n m0 t0_2 t1_2 t4_2 t13_2 t14_2 t15_2 t35_2 t36_2 t37_2 t57_2 t58_2 (IntKind.wrap .i64 (t59_2+1)) o0_2 o1_2 o9_2
    else none
    else none
  else
    some ((o9_2,()),[(0,[])]):=by kernel_rfl
theorem plan_From.eq (n:Nat) (a0:(den tWorld)) (a1:(den tWorld)):plan_From (n+1) a0 a1 =
  plan_From.l0 n n a0 a1 ([]:List (den tWrite)) (a1.2.1:(List Int)) ((List.length (a1.2.1:(List Int))):Int) 0 a0 a1 ([]:List (den tWrite)):=by kernel_rfl
def slices_Clone_sint_int.res:List Sh:=[.d (.sl (.int .i64))]
@[reducible] def slices_Clone_sint_int.R:Type:=dShL [.d (.sl (.int .i64))]×Fresh
def slices_Clone_sint_int (n:Nat) (a0:(List Int)):Option slices_Clone_sint_int.R:=gc n 26 [.dat (.sl (.int .i64)) a0 []] [.d (.sl (.int .i64))]
def slices_Clone_sapi_Place_api_Place.res:List Sh:=[.d (.sl tPlace)]
@[reducible] def slices_Clone_sapi_Place_api_Place.R:Type:=dShL [.d (.sl tPlace)]×Fresh
def slices_Clone_sapi_Place_api_Place (n:Nat) (a0:(List (den tPlace))):Option slices_Clone_sapi_Place_api_Place.R:=gc n 27 [.dat (.sl tPlace) a0 []] [.d (.sl tPlace)]
def desc_Copy.res:List Sh:=[.d tWorld]
@[reducible] def desc_Copy.R:Type:=dShL [.d tWorld]×Fresh
def desc_Copy (n:Nat) (a0:(den tWorld)):Option desc_Copy.R:=gc n 25 [.dat tWorld a0 []] [.d tWorld]
theorem desc_Copy.eq (n:Nat) (a0:(den tWorld)):desc_Copy (n+1) a0 =
  Option.bind (slices_Clone_sint_int n (a0.2.1:(List Int))) fun r1 =>
  bif (keepAll r1.2 [((0,[]),2)]) then
    Option.bind (slices_Clone_sint_int n (a0.2.2.1:(List Int))) fun r2 =>
    bif (keepAll r2.2 [((0,[]),3)]) then
      Option.bind (slices_Clone_sapi_Place_api_Place n (a0.2.2.2.1:(List (den tPlace)))) fun r3 =>
      bif (keepAll r3.2 [((0,[]),4)]) then
        some (((a0.1,(r1.1.1:(List Int)),(r2.1.1:(List Int)),(r3.1.1:(List (den tPlace))),()),()),[(0,[1]),(0,[2]),(0,[3])])
      else
        none
    else
      none
  else
    none:=by kernel_rfl
def plan_All.res:List Sh:=[.d tWorld]
@[reducible] def plan_All.R:Type:=dShL [.d tWorld]×Fresh
def plan_All (n:Nat) (a0:(den tWorld)) (a1:(List (den tWrite))):Option plan_All.R:=gc n 15 [.dat tWorld a0 [],.dat (.sl tWrite) a1 []] [.d tWorld]
def plan_Settled.res:List Sh:=[.d tWorld]
@[reducible] def plan_Settled.R:Type:=dShL [.d tWorld]×Fresh
def plan_Settled (n:Nat) (a0:(den tWorld)) (a1:(List (den tSess))):Option plan_Settled.R:=gc n 19 [.dat tWorld a0 [],.dat (.sl tSess) a1 []] [.d tWorld]
def plan_Settled.l0 (n m0:Nat) (t0:(den tWorld)) (t1:(List (den tSess))) (t10:(List (den tSess))) (t11:Int) (t12:Int) (o0:(den tWorld)) (o1:(den tWorld)) (o2:(den tWorld)) (o4:(List Int)) (o6:(List (den tPlace))):Option plan_Settled.R :=
  lpN n c19_5 m0 (kBlk 0 (kSeq (run (gc n) n) c19_3 (retK plan_Settled.fn plan_Settled.res) (retK plan_Settled.fn plan_Settled.res)) (retK plan_Settled.fn plan_Settled.res))
    [(0,.dat tWorld t0 []),(1,.dat (.sl tSess) t1 []),(2,.ptr 0 []),(4,.ptr 1 []),(5,.ptr 2 []),(10,.dat (.sl tSess) t10 []),(11,.dat (.int .i64) t11 []),(12,.dat (.int .i64) t12 [])]
    [.box tWorld o0 [],.box tWorld o1 [],.box tWorld o2 [([1],some 4),([3],some 6)],.none,.arr (.int .i64) o4,.none,.arr tPlace o6]
theorem plan_Settled.l0_eq (n m0:Nat) (t0:(den tWorld)) (t1:(List (den tSess))) (t10:(List (den tSess))) (t11:Int) (t12:Int) (o0:(den tWorld)) (o1:(den tWorld)) (o2:(den tWorld)) (o4:(List Int)) (o6:(List (den tPlace))):plan_Settled.l0 n (m0+1) t0 t1 t10 t11 t12 o0 o1 o2 o4 o6 =
  bif (decide (t12<t11)) then
    if (0:Int)≤t12∧t12<(((List.length t10):Nat):Int) then
    bif (decide (((List.getD t10 (Int.toNat t12) (dft tSess):(den tSess)).2.2.2.1:Int)=5)) then
      if (0:Int)≤((List.getD t10 (Int.toNat t12) (dft tSess):(den tSess)).2.2.2.2.1:Int)∧((List.getD t10 (Int.toNat t12) (dft tSess):(den tSess)).2.2.2.2.1:Int)≤((List.length ((List.getD t10 (Int.toNat t12) (dft tSess):(den tSess)).2.2.2.2.2.2.2.2.1:(List (den tWrite))):Nat):Int)∧((List.length ((List.getD t10 (Int.toNat t12) (dft tSess):(den tSess)).2.2.2.2.2.2.2.2.1:(List (den tWrite))):Nat):Int)≤((List.length ((List.getD t10 (Int.toNat t12) (dft tSess):(den tSess)).2.2.2.2.2.2.2.2.1:(List (den tWrite))):Nat):Int) then
      Option.bind (plan_All n (o2.1,o4,(o2.2.2.1:(List Int)),o6,()) (List.drop (Int.toNat ((List.getD t10 (Int.toNat t12) (dft tSess):(den tSess)).2.2.2.2.1:Int)) (List.take (Int.toNat ((List.length ((List.getD t10 (Int.toNat t12) (dft tSess):(den tSess)).2.2.2.2.2.2.2.2.1:(List (den tWrite))):Nat):Int)) ((List.getD t10 (Int.toNat t12) (dft tSess):(den tSess)).2.2.2.2.2.2.2.2.1:(List (den tWrite)))):(List (den tWrite)))) fun r2 =>
      bif (keepAll r2.2 [((0,[1]),5),((0,[3]),7)]) then
        plan_Settled.l0 n m0 t0 t1 t10 t11 (IntKind.wrap .i64 (t12+1)) o0 o1 (r2.1.1.1,([]:List Int),(r2.1.1.2.2.1:(List Int)),([]:List (den tPlace)),()) (r2.1.1.2.1:(List Int)) (r2.1.1.2.2.2.1:(List (den tPlace)))
      else
        none
      else none
    else
      plan_Settled.l0 n m0 t0 t1 t10 t11 (IntKind.wrap .i64 (t12+1)) o0 o1 o2 o4 o6
    else none
  else
    some (((o2.1,o4,(o2.2.2.1:(List Int)),o6,()),()),[(0,[1]),(0,[3])]):=by kernel_rfl
theorem plan_Settled.eq (n:Nat) (a0:(den tWorld)) (a1:(List (den tSess))):plan_Settled (n+1) a0 a1 =
  Option.bind (desc_Copy n a0) fun r1 =>
  bif (keepAll r1.2 [((0,[1]),4),((0,[3]),6)]) then
    plan_Settled.l0 n n a0 a1 a1 ((List.length a1):Int) 0 a0 ((([]:List (List Int)),([]:List Int),([]:List Int),([]:List Int),([]:List Bool),0,0,0,()),([]:List Int),([]:List Int),([]:List (den tPlace)),()) (r1.1.1.1,([]:List Int),(r1.1.1.2.2.1:(List Int)),([]:List (den tPlace)),()) (r1.1.1.2.1:(List Int)) (r1.1.1.2.2.2.1:(List (den tPlace)))
  else
    none:=by kernel_rfl
def innkeepref18_Same.res:List Sh:=[.d .bool]
@[reducible] def innkeepref18_Same.R:Type:=dShL [.d .bool]×Fresh
def innkeepref18_Same (n:Nat) (a0:(List (den tWrite))) (a1:(List (den tWrite))):Option innkeepref18_Same.R:=gc n 10 [.dat (.sl tWrite) a0 [],.dat (.sl tWrite) a1 []] [.d .bool]
def innkeepref18_Same.l0 (n m0:Nat) (t0:(List (den tWrite))) (t1:(List (den tWrite))) (t4:Bool) (t5:Int):Option innkeepref18_Same.R :=
  lpN n c10_9 m0 (kBlk 0 (kSeq (run (gc n) n) c10_7 (retK innkeepref18_Same.fn innkeepref18_Same.res) (retK innkeepref18_Same.fn innkeepref18_Same.res)) (retK innkeepref18_Same.fn innkeepref18_Same.res))
    [(0,.dat (.sl tWrite) t0 []),(1,.dat (.sl tWrite) t1 []),(4,.dat .bool t4 []),(5,.dat (.int .i64) t5 [])]
    []
theorem innkeepref18_Same.l0_eq (n m0:Nat) (t0:(List (den tWrite))) (t1:(List (den tWrite))) (t4:Bool) (t5:Int):innkeepref18_Same.l0 n (m0+1) t0 t1 t4 t5 =
  bif (decide (t5<((List.length t0):Int))) then
    if (0:Int)≤t5∧t5<(((List.length t0):Nat):Int) then
    if (0:Int)≤t5∧t5<(((List.length t1):Nat):Int) then
    bif (!(eqT tWrite (List.getD t0 (Int.toNat t5) (dft tWrite):(den tWrite)) (List.getD t1 (Int.toNat t5) (dft tWrite):(den tWrite)))) then
      some ((false,()),[])
    else
      innkeepref18_Same.l0 n m0 t0 t1 t4 (IntKind.wrap .i64 (t5+1))
    else none
    else none
  else
    some ((true,()),[]):=by kernel_rfl
theorem innkeepref18_Same.eq (n:Nat) (a0:(List (den tWrite))) (a1:(List (den tWrite))):innkeepref18_Same (n+1) a0 a1 =
  bif (!(decide (((List.length a0):Int)=((List.length a1):Int)))) then
    some ((false,()),[])
  else
    innkeepref18_Same.l0 n n a0 a1 false 0:=by kernel_rfl
def innkeepref03_Ints.res:List Sh:=[.d .bool]
@[reducible] def innkeepref03_Ints.R:Type:=dShL [.d .bool]×Fresh
def innkeepref03_Ints (n:Nat) (a0:(List Int)) (a1:(List Int)):Option innkeepref03_Ints.R:=gc n 23 [.dat (.sl (.int .i64)) a0 [],.dat (.sl (.int .i64)) a1 []] [.d .bool]
def innkeepref03_Ints.l0 (n m0:Nat) (t0:(List Int)) (t1:(List Int)) (t4:Bool) (t5:Int):Option innkeepref03_Ints.R :=
  lpN n c23_9 m0 (kBlk 0 (kSeq (run (gc n) n) c23_7 (retK innkeepref03_Ints.fn innkeepref03_Ints.res) (retK innkeepref03_Ints.fn innkeepref03_Ints.res)) (retK innkeepref03_Ints.fn innkeepref03_Ints.res))
    [(0,.dat (.sl (.int .i64)) t0 []),(1,.dat (.sl (.int .i64)) t1 []),(4,.dat .bool t4 []),(5,.dat (.int .i64) t5 [])]
    []
theorem innkeepref03_Ints.l0_eq (n m0:Nat) (t0:(List Int)) (t1:(List Int)) (t4:Bool) (t5:Int):innkeepref03_Ints.l0 n (m0+1) t0 t1 t4 t5 =
  bif (decide (t5<((List.length t0):Int))) then
    if (0:Int)≤t5∧t5<(((List.length t0):Nat):Int) then
    if (0:Int)≤t5∧t5<(((List.length t1):Nat):Int) then
    bif (!(decide ((List.getD t0 (Int.toNat t5) (0:Int):Int)=(List.getD t1 (Int.toNat t5) (0:Int):Int)))) then
      some ((false,()),[])
    else
      innkeepref03_Ints.l0 n m0 t0 t1 t4 (IntKind.wrap .i64 (t5+1))
    else none
    else none
  else
    some ((true,()),[]):=by kernel_rfl
theorem innkeepref03_Ints.eq (n:Nat) (a0:(List Int)) (a1:(List Int)):innkeepref03_Ints (n+1) a0 a1 =
  bif (!(decide (((List.length a0):Int)=((List.length a1):Int)))) then
    some ((false,()),[])
  else
    innkeepref03_Ints.l0 n n a0 a1 false 0:=by kernel_rfl
def innkeepref06_Places.res:List Sh:=[.d .bool]
@[reducible] def innkeepref06_Places.R:Type:=dShL [.d .bool]×Fresh
def innkeepref06_Places (n:Nat) (a0:(List (den tPlace))) (a1:(List (den tPlace))):Option innkeepref06_Places.R:=gc n 24 [.dat (.sl tPlace) a0 [],.dat (.sl tPlace) a1 []] [.d .bool]
def innkeepref06_Places.l0 (n m0:Nat) (t0:(List (den tPlace))) (t1:(List (den tPlace))) (t4:Bool) (t5:Int):Option innkeepref06_Places.R :=
  lpN n c24_9 m0 (kBlk 0 (kSeq (run (gc n) n) c24_7 (retK innkeepref06_Places.fn innkeepref06_Places.res) (retK innkeepref06_Places.fn innkeepref06_Places.res)) (retK innkeepref06_Places.fn innkeepref06_Places.res))
    [(0,.dat (.sl tPlace) t0 []),(1,.dat (.sl tPlace) t1 []),(4,.dat .bool t4 []),(5,.dat (.int .i64) t5 [])]
    []
theorem innkeepref06_Places.l0_eq (n m0:Nat) (t0:(List (den tPlace))) (t1:(List (den tPlace))) (t4:Bool) (t5:Int):innkeepref06_Places.l0 n (m0+1) t0 t1 t4 t5 =
  bif (decide (t5<((List.length t0):Int))) then
    if (0:Int)≤t5∧t5<(((List.length t0):Nat):Int) then
    if (0:Int)≤t5∧t5<(((List.length t1):Nat):Int) then
    bif (!(eqT tPlace (List.getD t0 (Int.toNat t5) (dft tPlace):(den tPlace)) (List.getD t1 (Int.toNat t5) (dft tPlace):(den tPlace)))) then
      some ((false,()),[])
    else
      innkeepref06_Places.l0 n m0 t0 t1 t4 (IntKind.wrap .i64 (t5+1))
    else none
    else none
  else
    some ((true,()),[]):=by kernel_rfl
theorem innkeepref06_Places.eq (n:Nat) (a0:(List (den tPlace))) (a1:(List (den tPlace))):innkeepref06_Places (n+1) a0 a1 =
  bif (!(decide (((List.length a0):Int)=((List.length a1):Int)))) then
    some ((false,()),[])
  else
    innkeepref06_Places.l0 n n a0 a1 false 0:=by kernel_rfl
def innkeepref06_Same.res:List Sh:=[.d .bool]
@[reducible] def innkeepref06_Same.R:Type:=dShL [.d .bool]×Fresh
def innkeepref06_Same (n:Nat) (a0:(den tWorld)) (a1:(den tWorld)):Option innkeepref06_Same.R:=gc n 14 [.dat tWorld a0 [],.dat tWorld a1 []] [.d .bool]
def innkeepref06_Same.l0 (n m0:Nat) (t0:(den tWorld)) (t1:(den tWorld)) (t4:Bool) (t7:Int) (o0:(den tWorld)) (o1:(den tWorld)) (o2:(den tDesc)) (o3:(den tDesc)):Option innkeepref06_Same.R :=
  lpN n c14_13 m0 (kBlk 0 (kSeq (run (gc n) n) c14_11 (retK innkeepref06_Same.fn innkeepref06_Same.res) (retK innkeepref06_Same.fn innkeepref06_Same.res)) (retK innkeepref06_Same.fn innkeepref06_Same.res))
    [(0,.dat tWorld t0 []),(1,.dat tWorld t1 []),(2,.ptr 0 []),(3,.ptr 1 []),(4,.dat .bool t4 []),(5,.ptr 2 []),(6,.ptr 3 []),(7,.dat (.int .i64) t7 [])]
    [.box tWorld o0 [],.box tWorld o1 [],.box tDesc o2 [],.box tDesc o3 []]
def innkeepref06_Same.l1 (n m0:Nat) (t0_1:(den tWorld)) (t1_1:(den tWorld)) (t4_1:Bool) (t7_1:Int) (t8_1:Int) (o0_1:(den tWorld)) (o1_1:(den tWorld)) (o2_1:(den tDesc)) (o3_1:(den tDesc)):Option innkeepref06_Same.R :=
  lpN n c14_29 m0 (kBlk 2 (kSeq (run (gc n) n) c14_27 (retK innkeepref06_Same.fn innkeepref06_Same.res) (retK innkeepref06_Same.fn innkeepref06_Same.res)) (retK innkeepref06_Same.fn innkeepref06_Same.res))
    [(0,.dat tWorld t0_1 []),(1,.dat tWorld t1_1 []),(2,.ptr 0 []),(3,.ptr 1 []),(4,.dat .bool t4_1 []),(5,.ptr 2 []),(6,.ptr 3 []),(7,.dat (.int .i64) t7_1 []),(8,.dat (.int .i64) t8_1 [])]
    [.box tWorld o0_1 [],.box tWorld o1_1 [],.box tDesc o2_1 [],.box tDesc o3_1 []]
theorem innkeepref06_Same.l0_eq (n m0:Nat) (t0:(den tWorld)) (t1:(den tWorld)) (t4:Bool) (t7:Int) (o0:(den tWorld)) (o1:(den tWorld)) (o2:(den tDesc)) (o3:(den tDesc)):innkeepref06_Same.l0 n (m0+1) t0 t1 t4 t7 o0 o1 o2 o3 =
  bif (decide (t7<((List.length (o2.1:(List (List Int)))):Int))) then
    if (0:Int)≤t7∧t7<(((List.length (o2.1:(List (List Int)))):Nat):Int) then
    if (0:Int)≤t7∧t7<(((List.length (o3.1:(List (List Int)))):Nat):Int) then
    bif (!(eqT (.arr 4 (.int .i64)) (List.getD (o2.1:(List (List Int))) (Int.toNat t7) (dft (.arr 4 (.int .i64))):(List Int)) (List.getD (o3.1:(List (List Int))) (Int.toNat t7) (dft (.arr 4 (.int .i64))):(List Int)))) then
      some ((false,()),[])
    else
      innkeepref06_Same.l0 n m0 t0 t1 t4 (IntKind.wrap .i64 (t7+1)) o0 o1 o2 o3
    else none
    else none
  else
    innkeepref06_Same.l1 n n t0 t1 t4 t7 0 o0 o1 o2 o3:=by kernel_rfl
theorem innkeepref06_Same.l1_eq (n m0:Nat) (t0_1:(den tWorld)) (t1_1:(den tWorld)) (t4_1:Bool) (t7_1:Int) (t8_1:Int) (o0_1:(den tWorld)) (o1_1:(den tWorld)) (o2_1:(den tDesc)) (o3_1:(den tDesc)):innkeepref06_Same.l1 n (m0+1) t0_1 t1_1 t4_1 t7_1 t8_1 o0_1 o1_1 o2_1 o3_1 =
  bif (decide (t8_1<((List.length (o2_1.2.2.2.2.1:(List Bool))):Int))) then
    if (0:Int)≤t8_1∧t8_1<(((List.length (o2_1.2.2.2.2.1:(List Bool))):Nat):Int) then
    if (0:Int)≤t8_1∧t8_1<(((List.length (o3_1.2.2.2.2.1:(List Bool))):Nat):Int) then
    bif (!(eqT .bool (List.getD (o2_1.2.2.2.2.1:(List Bool)) (Int.toNat t8_1) false:Bool) (List.getD (o3_1.2.2.2.2.1:(List Bool)) (Int.toNat t8_1) false:Bool))) then
      some ((false,()),[])
    else
      innkeepref06_Same.l1 n m0 t0_1 t1_1 t4_1 t7_1 (IntKind.wrap .i64 (t8_1+1)) o0_1 o1_1 o2_1 o3_1
    else none
    else none
  else
    Option.bind (innkeepref03_Ints n (o2_1.2.1:(List Int)) (o3_1.2.1:(List Int))) fun r1 =>
    bif (r1.1.1:Bool) then
      Option.bind (innkeepref03_Ints n (o2_1.2.2.1:(List Int)) (o3_1.2.2.1:(List Int))) fun r2 =>
      bif (r2.1.1:Bool) then
        Option.bind (innkeepref03_Ints n (o2_1.2.2.2.1:(List Int)) (o3_1.2.2.2.1:(List Int))) fun r3 =>
        bif (r3.1.1:Bool) then
          Option.bind (innkeepref03_Ints n (o0_1.2.1:(List Int)) (o1_1.2.1:(List Int))) fun r4 =>
          bif (r4.1.1:Bool) then
            Option.bind (innkeepref03_Ints n (o0_1.2.2.1:(List Int)) (o1_1.2.2.1:(List Int))) fun r5 =>
            bif (r5.1.1:Bool) then
              Option.bind (innkeepref06_Places n (o0_1.2.2.2.1:(List (den tPlace))) (o1_1.2.2.2.1:(List (den tPlace)))) fun r6 =>
              some (((r6.1.1:Bool),()),[])
            else
              some ((false,()),[])
          else
            some ((false,()),[])
        else
          some ((false,()),[])
      else
        some ((false,()),[])
    else
      some ((false,()),[]):=by kernel_rfl
theorem innkeepref06_Same.eq (n:Nat) (a0:(den tWorld)) (a1:(den tWorld)):innkeepref06_Same (n+1) a0 a1 =
  bif (!(decide ((a0.1.2.2.2.2.2.1:Int)=(a1.1.2.2.2.2.2.1:Int)))) then
    some ((false,()),[])
  else
    bif (!(decide ((a0.1.2.2.2.2.2.2.1:Int)=(a1.1.2.2.2.2.2.2.1:Int)))) then
      some ((false,()),[])
    else
      bif (!(decide ((a0.1.2.2.2.2.2.2.2.1:Int)=(a1.1.2.2.2.2.2.2.2.1:Int)))) then
        some ((false,()),[])
      else
        bif (!(decide (((List.length (a0.1.1:(List (List Int)))):Int)=((List.length (a1.1.1:(List (List Int)))):Int)))) then
          some ((false,()),[])
        else
          bif (!(decide (((List.length (a0.1.2.2.2.2.1:(List Bool))):Int)=((List.length (a1.1.2.2.2.2.1:(List Bool))):Int)))) then
            some ((false,()),[])
          else
            innkeepref06_Same.l0 n n a0 a1 false 0 a0 a1 a0.1 a1.1:=by kernel_rfl
def plan_Do.res:List Sh:=[.d tWorld]
@[reducible] def plan_Do.R:Type:=dShL [.d tWorld]×Fresh
def plan_Do (n:Nat) (a0:(den tWorld)) (a1:(den tWrite)):Option plan_Do.R:=gc n 17 [.dat tWorld a0 [],.dat tWrite a1 []] [.d tWorld]
theorem plan_Do.eq (n:Nat) (a0:(den tWorld)) (a1:(den tWrite)):plan_Do (n+1) a0 a1 =
  Option.bind (plan_All n a0 ([a1]:List (den tWrite))) fun r1 =>
  some ((r1.1.1,()),[]):=by kernel_rfl
def innkeeplaw18_awake.res:List Sh:=[.d .bool]
@[reducible] def innkeeplaw18_awake.R:Type:=dShL [.d .bool]×Fresh
def innkeeplaw18_awake (n:Nat):Option innkeeplaw18_awake.R:=gc n 7 [] [.d .bool]
theorem innkeeplaw18_awake.eq (n:Nat):innkeeplaw18_awake (n+1) =
  Option.bind (innkeepref06_New n ((List.replicate 2 (dft (.arr 4 (.int .i64)))),([0,0]:List Int),([5,2]:List Int),([0]:List Int),([false]:List Bool),4,2,1,())) fun r1 =>
  Option.bind (innkeepref06_Copied n r1.1.1) fun r2 =>
  bif (keepAll r2.2 [((0,[1]),10),((0,[2]),11),((0,[3]),12)]) then
    if (0:Int)≤1∧1<(((List.length (r2.1.1.2.1:(List Int))):Nat):Int) then
    if (0:Int)≤0∧0<(((List.length (r2.1.1.2.2.1:(List Int))):Nat):Int) then
    if (0:Int)≤0∧0<(((List.length (r2.1.1.2.2.2.1:(List (den tPlace)))):Nat):Int) then
    Option.bind (plan_From n r1.1.1 (r2.1.1.1,(List.set (r2.1.1.2.1:(List Int)) 1 1:(List Int)),(List.set (r2.1.1.2.2.1:(List Int)) 0 9:(List Int)),(List.set (r2.1.1.2.2.2.1:(List (den tPlace))) 0 (1,0,()):(List (den tPlace))),())) fun r3 =>
    bif (!(decide (((List.length (r3.1.1:(List (den tWrite)))):Int)=3))) then
      some ((false,()),[])
    else
      Option.bind (plan_Settled n r1.1.1 ([(0,([]:List ByteArray),0,5,1,(0,0,0,0,0,([]:List Int),0,([]:List Int),0,()),([]:List (den tPlace)),0,(r3.1.1:(List (den tWrite))),(0,0,0,([]:List Int),([]:List (den tSeen)),0,()),false,0,0,0,([]:List (den tPlace)),([]:List Int),0,()),(0,([]:List ByteArray),0,4,0,(0,0,0,0,0,([]:List Int),0,([]:List Int),0,()),([]:List (den tPlace)),0,(r3.1.1:(List (den tWrite))),(0,0,0,([]:List Int),([]:List (den tSeen)),0,()),false,0,0,0,([]:List (den tPlace)),([]:List Int),0,())]:List (den tSess))) fun r4 =>
      Option.bind (innkeepref18_Same n (r3.1.1:(List (den tWrite))) ([(0,1,1,(0,0,()),()),(1,0,9,(0,0,()),()),(2,0,0,(1,0,()),())]:List (den tWrite))) fun r5 =>
      bif (r5.1.1:Bool) then
        Option.bind (plan_All n r1.1.1 (r3.1.1:(List (den tWrite)))) fun r6 =>
        Option.bind (innkeepref06_Same n r6.1.1 (r2.1.1.1,(List.set (r2.1.1.2.1:(List Int)) 1 1:(List Int)),(List.set (r2.1.1.2.2.1:(List Int)) 0 9:(List Int)),(List.set (r2.1.1.2.2.2.1:(List (den tPlace))) 0 (1,0,()):(List (den tPlace))),())) fun r7 =>
        bif (r7.1.1:Bool) then
          if (0:Int)≤1∧1<(((List.length (r3.1.1:(List (den tWrite)))):Nat):Int) then
          Option.bind (plan_Do n r1.1.1 (List.getD (r3.1.1:(List (den tWrite))) 1 (dft tWrite):(den tWrite))) fun r8 =>
          if (0:Int)≤0∧0<(((List.length (r8.1.1.2.2.1:(List Int))):Nat):Int) then
          bif (decide ((List.getD (r8.1.1.2.2.1:(List Int)) 0 (0:Int):Int)=9)) then
            if (0:Int)≤1∧1<(((List.length (r4.1.1.2.1:(List Int))):Nat):Int) then
            bif (decide ((List.getD (r4.1.1.2.1:(List Int)) 1 (0:Int):Int)=0)) then
              if (0:Int)≤0∧0<(((List.length (r4.1.1.2.2.1:(List Int))):Nat):Int) then
              bif (decide ((List.getD (r4.1.1.2.2.1:(List Int)) 0 (0:Int):Int)=9)) then
                if (0:Int)≤0∧0<(((List.length (r4.1.1.2.2.2.1:(List (den tPlace)))):Nat):Int) then
                some (((decide (((List.getD (r4.1.1.2.2.2.1:(List (den tPlace))) 0 (dft tPlace):(den tPlace)).1:Int)=1)),()),[])
                else none
              else
                some ((false,()),[])
              else none
            else
              some ((false,()),[])
            else none
          else
            some ((false,()),[])
          else none
          else none
        else
          some ((false,()),[])
      else
        some ((false,()),[])
    else none
    else none
    else none
  else
    none:=by kernel_rfl
def innkeepref06_Few.res:List Sh:=[.d .bool]
@[reducible] def innkeepref06_Few.R:Type:=dShL [.d .bool]×Fresh
def innkeepref06_Few (n:Nat) (a0:(den tWorld)):Option innkeepref06_Few.R:=gc n 8 [.dat tWorld a0 []] [.d .bool]
theorem innkeepref06_Few.eq (n:Nat) (a0:(den tWorld)):innkeepref06_Few (n+1) a0 =
  bif (decide (((List.length (a0.1.1:(List (List Int)))):Int)≤20)) then
    bif (decide (((List.length (a0.1.2.1:(List Int))):Int)≤20)) then
      bif (decide (((List.length (a0.1.2.2.1:(List Int))):Int)≤20)) then
        bif (decide (((List.length (a0.1.2.2.2.1:(List Int))):Int)≤40)) then
          bif (decide (((List.length (a0.1.2.2.2.2.1:(List Bool))):Int)≤40)) then
            bif (decide (((List.length (a0.2.1:(List Int))):Int)≤40)) then
              bif (decide (((List.length (a0.2.2.1:(List Int))):Int)≤40)) then
                some (((decide (((List.length (a0.2.2.2.1:(List (den tPlace)))):Int)≤40)),()),[])
              else
                some ((false,()),[])
            else
              some ((false,()),[])
          else
            some ((false,()),[])
        else
          some ((false,()),[])
      else
        some ((false,()),[])
    else
      some ((false,()),[])
  else
    some ((false,()),[]):=by kernel_rfl
def innkeepref18_Full.res:List Sh:=[.d .bool]
@[reducible] def innkeepref18_Full.R:Type:=dShL [.d .bool]×Fresh
def innkeepref18_Full (n:Nat) (a0:(den tWorld)):Option innkeepref18_Full.R:=gc n 9 [.dat tWorld a0 []] [.d .bool]
theorem innkeepref18_Full.eq (n:Nat) (a0:(den tWorld)):innkeepref18_Full (n+1) a0 =
  bif (decide (((List.length (a0.2.1:(List Int))):Int)=((List.length (a0.1.2.1:(List Int))):Int))) then
    bif (decide (((List.length (a0.2.2.1:(List Int))):Int)=((List.length (a0.1.2.1:(List Int))):Int))) then
      some (((decide (((List.length (a0.2.2.2.1:(List (den tPlace)))):Int)=((List.length (a0.1.2.2.2.1:(List Int))):Int))),()),[])
    else
      some ((false,()),[])
  else
    some ((false,()),[]):=by kernel_rfl
def innkeepref18_From.res:List Sh:=[.d (.sl tWrite)]
@[reducible] def innkeepref18_From.R:Type:=dShL [.d (.sl tWrite)]×Fresh
def innkeepref18_From (n:Nat) (a0:(den tWorld)) (a1:(den tWorld)):Option innkeepref18_From.R:=gc n 12 [.dat tWorld a0 [],.dat tWorld a1 []] [.d (.sl tWrite)]
def innkeepref18_From.l0 (n m0:Nat) (t0:(den tWorld)) (t1:(den tWorld)) (t4:(List (den tWrite))) (t6:Int) (o0:(den tWorld)) (o1:(den tWorld)) (o8:(List (den tWrite))):Option innkeepref18_From.R :=
  lpN n c12_4 m0 (kBlk 0 (kSeq (run (gc n) n) c12_2 (retK innkeepref18_From.fn innkeepref18_From.res) (retK innkeepref18_From.fn innkeepref18_From.res)) (retK innkeepref18_From.fn innkeepref18_From.res))
    [(0,.dat tWorld t0 []),(1,.dat tWorld t1 []),(2,.ptr 0 []),(3,.ptr 1 []),(4,.dat (.sl tWrite) t4 []),(5,.dat (.sl tWrite) ([]:List (den tWrite)) [([],some 8)]),(6,.dat (.int .i64) t6 [])]
    [.box tWorld o0 [],.box tWorld o1 [],.none,.none,.none,.none,.none,.none,.arr tWrite o8]
def innkeepref18_From.l1 (n m0:Nat) (t0_1:(den tWorld)) (t1_1:(den tWorld)) (t4_1:(List (den tWrite))) (t6_1:Int) (t7_1:Int) (o0_1:(den tWorld)) (o1_1:(den tWorld)) (o8_1:(List (den tWrite))):Option innkeepref18_From.R :=
  lpN n c12_20 m0 (kBlk 2 (kSeq (run (gc n) n) c12_18 (retK innkeepref18_From.fn innkeepref18_From.res) (retK innkeepref18_From.fn innkeepref18_From.res)) (retK innkeepref18_From.fn innkeepref18_From.res))
    [(0,.dat tWorld t0_1 []),(1,.dat tWorld t1_1 []),(2,.ptr 0 []),(3,.ptr 1 []),(4,.dat (.sl tWrite) t4_1 []),(5,.dat (.sl tWrite) ([]:List (den tWrite)) [([],some 8)]),(6,.dat (.int .i64) t6_1 []),(7,.dat (.int .i64) t7_1 [])]
    [.box tWorld o0_1 [],.box tWorld o1_1 [],.none,.none,.none,.none,.none,.none,.arr tWrite o8_1]
def innkeepref18_From.l2 (n m0:Nat) (t0_2:(den tWorld)) (t1_2:(den tWorld)) (t4_2:(List (den tWrite))) (t6_2:Int) (t7_2:Int) (t8_2:Int) (o0_2:(den tWorld)) (o1_2:(den tWorld)) (o8_2:(List (den tWrite))):Option innkeepref18_From.R :=
  lpN n c12_36 m0 (kBlk 4 (kSeq (run (gc n) n) c12_34 (retK innkeepref18_From.fn innkeepref18_From.res) (retK innkeepref18_From.fn innkeepref18_From.res)) (retK innkeepref18_From.fn innkeepref18_From.res))
    [(0,.dat tWorld t0_2 []),(1,.dat tWorld t1_2 []),(2,.ptr 0 []),(3,.ptr 1 []),(4,.dat (.sl tWrite) t4_2 []),(5,.dat (.sl tWrite) ([]:List (den tWrite)) [([],some 8)]),(6,.dat (.int .i64) t6_2 []),(7,.dat (.int .i64) t7_2 []),(8,.dat (.int .i64) t8_2 [])]
    [.box tWorld o0_2 [],.box tWorld o1_2 [],.none,.none,.none,.none,.none,.none,.arr tWrite o8_2]
theorem innkeepref18_From.l0_eq (n m0:Nat) (t0:(den tWorld)) (t1:(den tWorld)) (t4:(List (den tWrite))) (t6:Int) (o0:(den tWorld)) (o1:(den tWorld)) (o8:(List (den tWrite))):innkeepref18_From.l0 n (m0+1) t0 t1 t4 t6 o0 o1 o8 =
  bif (decide (t6<((List.length (o0.2.1:(List Int))):Int))) then
    if (0:Int)≤t6∧t6<(((List.length (o0.2.1:(List Int))):Nat):Int) then
    if (0:Int)≤t6∧t6<(((List.length (o1.2.1:(List Int))):Nat):Int) then
    bif (!(decide ((List.getD (o0.2.1:(List Int)) (Int.toNat t6) (0:Int):Int)=(List.getD (o1.2.1:(List Int)) (Int.toNat t6) (0:Int):Int)))) then
      if (0:Int)≤t6∧t6<(((List.length (o1.2.1:(List Int))):Nat):Int) then
      if (List.length o8)+1≤1048576 then
      innkeepref18_From.l0 n m0 t0 t1 t4 (IntKind.wrap .i64 (t6+1)) o0 o1 (o8 ++ ([(0,t6,(List.getD (o1.2.1:(List Int)) (Int.toNat t6) (0:Int):Int),(0,0,()),())]:List (den tWrite)))
      else none
      else none
    else
      innkeepref18_From.l0 n m0 t0 t1 t4 (IntKind.wrap .i64 (t6+1)) o0 o1 o8
    else none
    else none
  else
    innkeepref18_From.l1 n n t0 t1 t4 t6 0 o0 o1 o8:=by kernel_rfl
theorem innkeepref18_From.l1_eq (n m0:Nat) (t0_1:(den tWorld)) (t1_1:(den tWorld)) (t4_1:(List (den tWrite))) (t6_1:Int) (t7_1:Int) (o0_1:(den tWorld)) (o1_1:(den tWorld)) (o8_1:(List (den tWrite))):innkeepref18_From.l1 n (m0+1) t0_1 t1_1 t4_1 t6_1 t7_1 o0_1 o1_1 o8_1 =
  bif (decide (t7_1<((List.length (o0_1.2.2.1:(List Int))):Int))) then
    if (0:Int)≤t7_1∧t7_1<(((List.length (o0_1.2.2.1:(List Int))):Nat):Int) then
    if (0:Int)≤t7_1∧t7_1<(((List.length (o1_1.2.2.1:(List Int))):Nat):Int) then
    bif (!(decide ((List.getD (o0_1.2.2.1:(List Int)) (Int.toNat t7_1) (0:Int):Int)=(List.getD (o1_1.2.2.1:(List Int)) (Int.toNat t7_1) (0:Int):Int)))) then
      if (0:Int)≤t7_1∧t7_1<(((List.length (o1_1.2.2.1:(List Int))):Nat):Int) then
      if (List.length o8_1)+1≤1048576 then
      innkeepref18_From.l1 n m0 t0_1 t1_1 t4_1 t6_1 (IntKind.wrap .i64 (t7_1+1)) o0_1 o1_1 (o8_1 ++ ([(1,t7_1,(List.getD (o1_1.2.2.1:(List Int)) (Int.toNat t7_1) (0:Int):Int),(0,0,()),())]:List (den tWrite)))
      else none
      else none
    else
      innkeepref18_From.l1 n m0 t0_1 t1_1 t4_1 t6_1 (IntKind.wrap .i64 (t7_1+1)) o0_1 o1_1 o8_1
    else none
    else none
  else
    innkeepref18_From.l2 n n t0_1 t1_1 t4_1 t6_1 t7_1 0 o0_1 o1_1 o8_1:=by kernel_rfl
theorem innkeepref18_From.l2_eq (n m0:Nat) (t0_2:(den tWorld)) (t1_2:(den tWorld)) (t4_2:(List (den tWrite))) (t6_2:Int) (t7_2:Int) (t8_2:Int) (o0_2:(den tWorld)) (o1_2:(den tWorld)) (o8_2:(List (den tWrite))):innkeepref18_From.l2 n (m0+1) t0_2 t1_2 t4_2 t6_2 t7_2 t8_2 o0_2 o1_2 o8_2 =
  bif (decide (t8_2<((List.length (o0_2.2.2.2.1:(List (den tPlace)))):Int))) then
    if (0:Int)≤t8_2∧t8_2<(((List.length (o0_2.2.2.2.1:(List (den tPlace)))):Nat):Int) then
    if (0:Int)≤t8_2∧t8_2<(((List.length (o1_2.2.2.2.1:(List (den tPlace)))):Nat):Int) then
    bif (!(eqT tPlace (List.getD (o0_2.2.2.2.1:(List (den tPlace))) (Int.toNat t8_2) (dft tPlace):(den tPlace)) (List.getD (o1_2.2.2.2.1:(List (den tPlace))) (Int.toNat t8_2) (dft tPlace):(den tPlace)))) then
      if (0:Int)≤t8_2∧t8_2<(((List.length (o1_2.2.2.2.1:(List (den tPlace)))):Nat):Int) then
      if (List.length o8_2)+1≤1048576 then
      innkeepref18_From.l2 n m0 t0_2 t1_2 t4_2 t6_2 t7_2 (IntKind.wrap .i64 (t8_2+1)) o0_2 o1_2 (o8_2 ++ ([(2,t8_2,0,(List.getD (o1_2.2.2.2.1:(List (den tPlace))) (Int.toNat t8_2) (dft tPlace):(den tPlace)),())]:List (den tWrite)))
      else none
      else none
    else
      innkeepref18_From.l2 n m0 t0_2 t1_2 t4_2 t6_2 t7_2 (IntKind.wrap .i64 (t8_2+1)) o0_2 o1_2 o8_2
    else none
    else none
  else
    some ((o8_2,()),[(0,[])]):=by kernel_rfl
theorem innkeepref18_From.eq (n:Nat) (a0:(den tWorld)) (a1:(den tWorld)):innkeepref18_From (n+1) a0 a1 =
  innkeepref18_From.l0 n n a0 a1 ([]:List (den tWrite)) 0 a0 a1 ([]:List (den tWrite)):=by kernel_rfl
def innkeepref18_May.res:List Sh:=[.d .bool]
@[reducible] def innkeepref18_May.R:Type:=dShL [.d .bool]×Fresh
def innkeepref18_May (n:Nat) (a0:(den tWorld)) (a1:(den tWrite)):Option innkeepref18_May.R:=gc n 13 [.dat tWorld a0 [],.dat tWrite a1 []] [.d .bool]
theorem innkeepref18_May.eq (n:Nat) (a0:(den tWorld)) (a1:(den tWrite)):innkeepref18_May (n+1) a0 a1 =
  bif (decide (0≤(a1.2.1:Int))) then
    bif (decide ((a1.1:Int)=0)) then
      bif (decide ((a1.2.1:Int)<((List.length (a0.2.1:(List Int))):Int))) then
        some ((true,()),[])
      else
        bif (decide ((a1.1:Int)=1)) then
          bif (decide ((a1.2.1:Int)<((List.length (a0.2.2.1:(List Int))):Int))) then
            some ((true,()),[])
          else
            bif (decide ((a1.1:Int)=2)) then
              some (((decide ((a1.2.1:Int)<((List.length (a0.2.2.2.1:(List (den tPlace)))):Int))),()),[])
            else
              some ((false,()),[])
        else
          bif (decide ((a1.1:Int)=2)) then
            some (((decide ((a1.2.1:Int)<((List.length (a0.2.2.2.1:(List (den tPlace)))):Int))),()),[])
          else
            some ((false,()),[])
    else
      bif (decide ((a1.1:Int)=1)) then
        bif (decide ((a1.2.1:Int)<((List.length (a0.2.2.1:(List Int))):Int))) then
          some ((true,()),[])
        else
          bif (decide ((a1.1:Int)=2)) then
            some (((decide ((a1.2.1:Int)<((List.length (a0.2.2.2.1:(List (den tPlace)))):Int))),()),[])
          else
            some ((false,()),[])
      else
        bif (decide ((a1.1:Int)=2)) then
          some (((decide ((a1.2.1:Int)<((List.length (a0.2.2.2.1:(List (den tPlace)))):Int))),()),[])
        else
          some ((false,()),[])
  else
    some ((false,()),[]):=by kernel_rfl
def innkeepref18_Do.res:List Sh:=[.d tWorld]
@[reducible] def innkeepref18_Do.R:Type:=dShL [.d tWorld]×Fresh
def innkeepref18_Do (n:Nat) (a0:(den tWorld)) (a1:(den tWrite)):Option innkeepref18_Do.R:=gc n 18 [.dat tWorld a0 [],.dat tWrite a1 []] [.d tWorld]
theorem innkeepref18_Do.eq (n:Nat) (a0:(den tWorld)) (a1:(den tWrite)):innkeepref18_Do (n+1) a0 a1 =
  Option.bind (innkeepref06_Copied n a0) fun r1 =>
  bif (keepAll r1.2 [((0,[1]),4),((0,[2]),5),((0,[3]),6)]) then
    bif (decide ((a1.1:Int)=0)) then
      if (0:Int)≤(a1.2.1:Int)∧(a1.2.1:Int)<(((List.length (r1.1.1.2.1:(List Int))):Nat):Int) then
      bif (decide ((a1.1:Int)=1)) then
        if (0:Int)≤(a1.2.1:Int)∧(a1.2.1:Int)<(((List.length (r1.1.1.2.2.1:(List Int))):Nat):Int) then
        bif (decide ((a1.1:Int)=2)) then
          if (0:Int)≤(a1.2.1:Int)∧(a1.2.1:Int)<(((List.length (r1.1.1.2.2.2.1:(List (den tPlace)))):Nat):Int) then
          some (((r1.1.1.1,(List.set (r1.1.1.2.1:(List Int)) (Int.toNat (a1.2.1:Int)) (a1.2.2.1:Int):(List Int)),(List.set (r1.1.1.2.2.1:(List Int)) (Int.toNat (a1.2.1:Int)) (a1.2.2.1:Int):(List Int)),(List.set (r1.1.1.2.2.2.1:(List (den tPlace))) (Int.toNat (a1.2.1:Int)) a1.2.2.2.1:(List (den tPlace))),()),()),[(0,[1]),(0,[2]),(0,[3])])
          else none
        else
          some (((r1.1.1.1,(List.set (r1.1.1.2.1:(List Int)) (Int.toNat (a1.2.1:Int)) (a1.2.2.1:Int):(List Int)),(List.set (r1.1.1.2.2.1:(List Int)) (Int.toNat (a1.2.1:Int)) (a1.2.2.1:Int):(List Int)),(r1.1.1.2.2.2.1:(List (den tPlace))),()),()),[(0,[1]),(0,[2]),(0,[3])])
        else none
      else
        bif (decide ((a1.1:Int)=2)) then
          if (0:Int)≤(a1.2.1:Int)∧(a1.2.1:Int)<(((List.length (r1.1.1.2.2.2.1:(List (den tPlace)))):Nat):Int) then
          some (((r1.1.1.1,(List.set (r1.1.1.2.1:(List Int)) (Int.toNat (a1.2.1:Int)) (a1.2.2.1:Int):(List Int)),(r1.1.1.2.2.1:(List Int)),(List.set (r1.1.1.2.2.2.1:(List (den tPlace))) (Int.toNat (a1.2.1:Int)) a1.2.2.2.1:(List (den tPlace))),()),()),[(0,[1]),(0,[2]),(0,[3])])
          else none
        else
          some (((r1.1.1.1,(List.set (r1.1.1.2.1:(List Int)) (Int.toNat (a1.2.1:Int)) (a1.2.2.1:Int):(List Int)),(r1.1.1.2.2.1:(List Int)),(r1.1.1.2.2.2.1:(List (den tPlace))),()),()),[(0,[1]),(0,[2]),(0,[3])])
      else none
    else
      bif (decide ((a1.1:Int)=1)) then
        if (0:Int)≤(a1.2.1:Int)∧(a1.2.1:Int)<(((List.length (r1.1.1.2.2.1:(List Int))):Nat):Int) then
        bif (decide ((a1.1:Int)=2)) then
          if (0:Int)≤(a1.2.1:Int)∧(a1.2.1:Int)<(((List.length (r1.1.1.2.2.2.1:(List (den tPlace)))):Nat):Int) then
          some (((r1.1.1.1,(r1.1.1.2.1:(List Int)),(List.set (r1.1.1.2.2.1:(List Int)) (Int.toNat (a1.2.1:Int)) (a1.2.2.1:Int):(List Int)),(List.set (r1.1.1.2.2.2.1:(List (den tPlace))) (Int.toNat (a1.2.1:Int)) a1.2.2.2.1:(List (den tPlace))),()),()),[(0,[1]),(0,[2]),(0,[3])])
          else none
        else
          some (((r1.1.1.1,(r1.1.1.2.1:(List Int)),(List.set (r1.1.1.2.2.1:(List Int)) (Int.toNat (a1.2.1:Int)) (a1.2.2.1:Int):(List Int)),(r1.1.1.2.2.2.1:(List (den tPlace))),()),()),[(0,[1]),(0,[2]),(0,[3])])
        else none
      else
        bif (decide ((a1.1:Int)=2)) then
          if (0:Int)≤(a1.2.1:Int)∧(a1.2.1:Int)<(((List.length (r1.1.1.2.2.2.1:(List (den tPlace)))):Nat):Int) then
          some (((r1.1.1.1,(r1.1.1.2.1:(List Int)),(r1.1.1.2.2.1:(List Int)),(List.set (r1.1.1.2.2.2.1:(List (den tPlace))) (Int.toNat (a1.2.1:Int)) a1.2.2.2.1:(List (den tPlace))),()),()),[(0,[1]),(0,[2]),(0,[3])])
          else none
        else
          some (((r1.1.1.1,(r1.1.1.2.1:(List Int)),(r1.1.1.2.2.1:(List Int)),(r1.1.1.2.2.2.1:(List (den tPlace))),()),()),[(0,[1]),(0,[2]),(0,[3])])
  else
    none:=by kernel_rfl
def innkeepref18_All.res:List Sh:=[.d tWorld]
@[reducible] def innkeepref18_All.R:Type:=dShL [.d tWorld]×Fresh
def innkeepref18_All (n:Nat) (a0:(den tWorld)) (a1:(List (den tWrite))):Option innkeepref18_All.R:=gc n 16 [.dat tWorld a0 [],.dat (.sl tWrite) a1 []] [.d tWorld]
def innkeepref18_All.l0 (n m0:Nat) (t0:(den tWorld)) (t1:(List (den tWrite))) (t6:Int) (o0:(den tWorld)) (o1:(den tWorld)) (o2:(den tWorld)):Option innkeepref18_All.R :=
  lpN n c16_5 m0 (kBlk 0 (kSeq (run (gc n) n) c16_3 (retK innkeepref18_All.fn innkeepref18_All.res) (retK innkeepref18_All.fn innkeepref18_All.res)) (retK innkeepref18_All.fn innkeepref18_All.res))
    [(0,.dat tWorld t0 []),(1,.dat (.sl tWrite) t1 []),(2,.ptr 0 []),(4,.ptr 1 []),(5,.ptr 2 []),(6,.dat (.int .i64) t6 [])]
    [.box tWorld o0 [],.box tWorld o1 [],.box tWorld o2 []]
theorem innkeepref18_All.l0_eq (n m0:Nat) (t0:(den tWorld)) (t1:(List (den tWrite))) (t6:Int) (o0:(den tWorld)) (o1:(den tWorld)) (o2:(den tWorld)):innkeepref18_All.l0 n (m0+1) t0 t1 t6 o0 o1 o2 =
  bif (decide (t6<((List.length t1):Int))) then
    if (0:Int)≤t6∧t6<(((List.length t1):Nat):Int) then
    Option.bind (innkeepref18_Do n o2 (List.getD t1 (Int.toNat t6) (dft tWrite):(den tWrite))) fun r2 =>
    innkeepref18_All.l0 n m0 t0 t1 (IntKind.wrap .i64 (t6+1)) o0 o1 r2.1.1
    else none
  else
    some ((o2,()),[]):=by kernel_rfl
theorem innkeepref18_All.eq (n:Nat) (a0:(den tWorld)) (a1:(List (den tWrite))):innkeepref18_All (n+1) a0 a1 =
  Option.bind (innkeepref06_Copied n a0) fun r1 =>
  innkeepref18_All.l0 n n a0 a1 0 a0 ((([]:List (List Int)),([]:List Int),([]:List Int),([]:List Int),([]:List Bool),0,0,0,()),([]:List Int),([]:List Int),([]:List (den tPlace)),()) r1.1.1:=by kernel_rfl
def innkeeplaw18_PlanTells.res:List Sh:=[.d .bool]
@[reducible] def innkeeplaw18_PlanTells.R:Type:=dShL [.d .bool]×Fresh
def innkeeplaw18_PlanTells (n:Nat) (a0:(den tWorld)) (a1:(den tWorld)) (a2:(List (den tWrite))):Option innkeeplaw18_PlanTells.R:=gc n 3 [.dat tWorld a0 [],.dat tWorld a1 [],.dat (.sl tWrite) a2 []] [.d .bool]
def innkeeplaw18_PlanTells.l0 (n m0:Nat) (t0:(den tWorld)) (t1:(den tWorld)) (t2:(List (den tWrite))) (t6:Bool) (t7:Int) (o0:(den tWorld)) (o1:(den tWorld)):Option innkeeplaw18_PlanTells.R :=
  lpN n c3_18 m0 (kBlk 0 (kSeq (run (gc n) n) c3_16 (retK innkeeplaw18_PlanTells.fn innkeeplaw18_PlanTells.res) (retK innkeeplaw18_PlanTells.fn innkeeplaw18_PlanTells.res)) (retK innkeeplaw18_PlanTells.fn innkeeplaw18_PlanTells.res))
    [(0,.dat tWorld t0 []),(1,.dat tWorld t1 []),(2,.dat (.sl tWrite) t2 []),(3,.ptr 0 []),(4,.ptr 1 []),(6,.dat .bool t6 []),(7,.dat (.int .i64) t7 [])]
    [.box tWorld o0 [],.box tWorld o1 []]
theorem innkeeplaw18_PlanTells.l0_eq (n m0:Nat) (t0:(den tWorld)) (t1:(den tWorld)) (t2:(List (den tWrite))) (t6:Bool) (t7:Int) (o0:(den tWorld)) (o1:(den tWorld)):innkeeplaw18_PlanTells.l0 n (m0+1) t0 t1 t2 t6 t7 o0 o1 =
  bif (decide (t7<((List.length t2):Int))) then
    if (0:Int)≤t7∧t7<(((List.length t2):Nat):Int) then
    Option.bind (innkeepref18_May n o0 (List.getD t2 (Int.toNat t7) (dft tWrite):(den tWrite))) fun r17 =>
    bif (!(r17.1.1:Bool)) then
      some ((true,()),[])
    else
      innkeeplaw18_PlanTells.l0 n m0 t0 t1 t2 t6 (IntKind.wrap .i64 (t7+1)) o0 o1
    else none
  else
    Option.bind (plan_All n o0 t2) fun r18 =>
    Option.bind (innkeepref18_All n o0 t2) fun r19 =>
    Option.bind (innkeepref06_Same n r18.1.1 r19.1.1) fun r20 =>
    bif (r20.1.1:Bool) then
      bif (decide (((List.length t2):Int)=0)) then
        some ((true,()),[])
      else
        if (0:Int)≤0∧0<(((List.length t2):Nat):Int) then
        Option.bind (plan_Do n o0 (List.getD t2 0 (dft tWrite):(den tWrite))) fun r21 =>
        if (0:Int)≤0∧0<(((List.length t2):Nat):Int) then
        Option.bind (innkeepref18_Do n o0 (List.getD t2 0 (dft tWrite):(den tWrite))) fun r22 =>
        Option.bind (innkeepref06_Same n r21.1.1 r22.1.1) fun r23 =>
        some (((r23.1.1:Bool),()),[])
        else none
        else none
    else
      some ((false,()),[]):=by kernel_rfl
theorem innkeeplaw18_PlanTells.eq (n:Nat) (a0:(den tWorld)) (a1:(den tWorld)) (a2:(List (den tWrite))):innkeeplaw18_PlanTells (n+1) a0 a1 a2 =
  Option.bind (innkeeplaw18_awake n) fun r1 =>
  bif (!(r1.1.1:Bool)) then
    Option.bind (innkeeplaw18_awake n) fun r2 =>
    some (((r2.1.1:Bool),()),[])
  else
    Option.bind (innkeepref06_Few n a0) fun r3 =>
    bif (!(r3.1.1:Bool)) then
      Option.bind (innkeeplaw18_awake n) fun r4 =>
      some (((r4.1.1:Bool),()),[])
    else
      Option.bind (innkeepref06_Few n a1) fun r5 =>
      bif (!(r5.1.1:Bool)) then
        Option.bind (innkeeplaw18_awake n) fun r6 =>
        some (((r6.1.1:Bool),()),[])
      else
        Option.bind (innkeepref18_Full n a0) fun r7 =>
        bif (!(r7.1.1:Bool)) then
          Option.bind (innkeeplaw18_awake n) fun r8 =>
          some (((r8.1.1:Bool),()),[])
        else
          Option.bind (innkeepref18_Full n a1) fun r9 =>
          bif (!(r9.1.1:Bool)) then
            Option.bind (innkeeplaw18_awake n) fun r10 =>
            some (((r10.1.1:Bool),()),[])
          else
            bif (!(decide (((List.length (a0.2.1:(List Int))):Int)=((List.length (a1.2.1:(List Int))):Int)))) then
              Option.bind (innkeeplaw18_awake n) fun r11 =>
              some (((r11.1.1:Bool),()),[])
            else
              bif (!(decide (((List.length (a0.2.2.2.1:(List (den tPlace)))):Int)=((List.length (a1.2.2.2.1:(List (den tPlace)))):Int)))) then
                Option.bind (innkeeplaw18_awake n) fun r12 =>
                some (((r12.1.1:Bool),()),[])
              else
                bif (decide (60<((List.length a2):Int))) then
                  Option.bind (innkeeplaw18_awake n) fun r13 =>
                  some (((r13.1.1:Bool),()),[])
                else
                  Option.bind (plan_From n a0 (a0.1,(a1.2.1:(List Int)),(a1.2.2.1:(List Int)),(a1.2.2.2.1:(List (den tPlace))),())) fun r14 =>
                  Option.bind (innkeepref18_From n a0 (a0.1,(a1.2.1:(List Int)),(a1.2.2.1:(List Int)),(a1.2.2.2.1:(List (den tPlace))),())) fun r15 =>
                  Option.bind (innkeepref18_Same n (r14.1.1:(List (den tWrite))) (r15.1.1:(List (den tWrite)))) fun r16 =>
                  bif (!(r16.1.1:Bool)) then
                    some ((false,()),[])
                  else
                    innkeeplaw18_PlanTells.l0 n n a0 a1 a2 false 0 a0 (a0.1,(a1.2.1:(List Int)),(a1.2.2.1:(List Int)),(a1.2.2.2.1:(List (den tPlace))),()):=by kernel_rfl
def innkeepref18_Settled.res:List Sh:=[.d tWorld]
@[reducible] def innkeepref18_Settled.R:Type:=dShL [.d tWorld]×Fresh
def innkeepref18_Settled (n:Nat) (a0:(den tWorld)) (a1:(List (den tSess))):Option innkeepref18_Settled.R:=gc n 20 [.dat tWorld a0 [],.dat (.sl tSess) a1 []] [.d tWorld]
def innkeepref18_Settled.l0 (n m0:Nat) (t0:(den tWorld)) (t1:(List (den tSess))) (t6:Int) (o0:(den tWorld)) (o1:(den tWorld)) (o2:(den tWorld)):Option innkeepref18_Settled.R :=
  lpN n c20_5 m0 (kBlk 0 (kSeq (run (gc n) n) c20_3 (retK innkeepref18_Settled.fn innkeepref18_Settled.res) (retK innkeepref18_Settled.fn innkeepref18_Settled.res)) (retK innkeepref18_Settled.fn innkeepref18_Settled.res))
    [(0,.dat tWorld t0 []),(1,.dat (.sl tSess) t1 []),(2,.ptr 0 []),(4,.ptr 1 []),(5,.ptr 2 []),(6,.dat (.int .i64) t6 [])]
    [.box tWorld o0 [],.box tWorld o1 [],.box tWorld o2 []]
theorem innkeepref18_Settled.l0_eq (n m0:Nat) (t0:(den tWorld)) (t1:(List (den tSess))) (t6:Int) (o0:(den tWorld)) (o1:(den tWorld)) (o2:(den tWorld)):innkeepref18_Settled.l0 n (m0+1) t0 t1 t6 o0 o1 o2 =
  bif (decide (t6<((List.length t1):Int))) then
    if (0:Int)≤t6∧t6<(((List.length t1):Nat):Int) then
    bif (decide (((List.getD t1 (Int.toNat t6) (dft tSess):(den tSess)).2.2.2.1:Int)=5)) then
      if (0:Int)≤t6∧t6<(((List.length t1):Nat):Int) then
      if (0:Int)≤t6∧t6<(((List.length t1):Nat):Int) then
      if (0:Int)≤((List.getD t1 (Int.toNat t6) (dft tSess):(den tSess)).2.2.2.2.1:Int)∧((List.getD t1 (Int.toNat t6) (dft tSess):(den tSess)).2.2.2.2.1:Int)≤((List.length ((List.getD t1 (Int.toNat t6) (dft tSess):(den tSess)).2.2.2.2.2.2.2.2.1:(List (den tWrite))):Nat):Int)∧((List.length ((List.getD t1 (Int.toNat t6) (dft tSess):(den tSess)).2.2.2.2.2.2.2.2.1:(List (den tWrite))):Nat):Int)≤((List.length ((List.getD t1 (Int.toNat t6) (dft tSess):(den tSess)).2.2.2.2.2.2.2.2.1:(List (den tWrite))):Nat):Int) then
      Option.bind (innkeepref18_All n o2 (List.drop (Int.toNat ((List.getD t1 (Int.toNat t6) (dft tSess):(den tSess)).2.2.2.2.1:Int)) (List.take (Int.toNat ((List.length ((List.getD t1 (Int.toNat t6) (dft tSess):(den tSess)).2.2.2.2.2.2.2.2.1:(List (den tWrite))):Nat):Int)) ((List.getD t1 (Int.toNat t6) (dft tSess):(den tSess)).2.2.2.2.2.2.2.2.1:(List (den tWrite)))):(List (den tWrite)))) fun r2 =>
      innkeepref18_Settled.l0 n m0 t0 t1 (IntKind.wrap .i64 (t6+1)) o0 o1 r2.1.1
      else none
      else none
      else none
    else
      innkeepref18_Settled.l0 n m0 t0 t1 (IntKind.wrap .i64 (t6+1)) o0 o1 o2
    else none
  else
    some ((o2,()),[]):=by kernel_rfl
theorem innkeepref18_Settled.eq (n:Nat) (a0:(den tWorld)) (a1:(List (den tSess))):innkeepref18_Settled (n+1) a0 a1 =
  Option.bind (innkeepref06_Copied n a0) fun r1 =>
  innkeepref18_Settled.l0 n n a0 a1 0 a0 ((([]:List (List Int)),([]:List Int),([]:List Int),([]:List Int),([]:List Bool),0,0,0,()),([]:List Int),([]:List Int),([]:List (den tPlace)),()) r1.1.1:=by kernel_rfl
def innkeeplaw18_PlanSettles.res:List Sh:=[.d .bool]
@[reducible] def innkeeplaw18_PlanSettles.R:Type:=dShL [.d .bool]×Fresh
def innkeeplaw18_PlanSettles (n:Nat) (a0:(den tWorld)) (a1:(List (den tWrite))) (a2:(List Int)) (a3:Int):Option innkeeplaw18_PlanSettles.R:=gc n 4 [.dat tWorld a0 [],.dat (.sl tWrite) a1 [],.dat (.sl (.int .u8)) a2 [],.dat (.int .u8) a3 []] [.d .bool]
def innkeeplaw18_PlanSettles.l0 (n m0:Nat) (t0:(den tWorld)) (t1:(List (den tWrite))) (t2:(List Int)) (t3:Int) (t8:Bool) (t9:Int) (o0:(den tWorld)):Option innkeeplaw18_PlanSettles.R :=
  lpN n c4_10 m0 (kBlk 0 (kSeq (run (gc n) n) c4_8 (retK innkeeplaw18_PlanSettles.fn innkeeplaw18_PlanSettles.res) (retK innkeeplaw18_PlanSettles.fn innkeeplaw18_PlanSettles.res)) (retK innkeeplaw18_PlanSettles.fn innkeeplaw18_PlanSettles.res))
    [(0,.dat tWorld t0 []),(1,.dat (.sl tWrite) t1 []),(2,.dat (.sl (.int .u8)) t2 []),(3,.dat (.int .u8) t3 []),(4,.ptr 0 []),(8,.dat .bool t8 []),(9,.dat (.int .i64) t9 [])]
    [.box tWorld o0 []]
def innkeeplaw18_PlanSettles.l1 (n m0:Nat) (t0_1:(den tWorld)) (t1_1:(List (den tWrite))) (t2_1:(List Int)) (t3_1:Int) (t8_1:Bool) (t9_1:Int) (t12_1:Int) (o0_1:(den tWorld)) (o1_1:(den tWorld)) (o6_1:(List (den tSess))):Option innkeeplaw18_PlanSettles.R :=
  lpN n c4_29 m0 (kBlk 2 (kSeq (run (gc n) n) c4_27 (retK innkeeplaw18_PlanSettles.fn innkeeplaw18_PlanSettles.res) (retK innkeeplaw18_PlanSettles.fn innkeeplaw18_PlanSettles.res)) (retK innkeeplaw18_PlanSettles.fn innkeeplaw18_PlanSettles.res))
    [(0,.dat tWorld t0_1 []),(1,.dat (.sl tWrite) t1_1 []),(2,.dat (.sl (.int .u8)) t2_1 []),(3,.dat (.int .u8) t3_1 []),(4,.ptr 0 []),(8,.dat .bool t8_1 []),(9,.dat (.int .i64) t9_1 []),(10,.dat (.sl tSess) ([]:List (den tSess)) [([],some 6)]),(11,.ptr 1 []),(12,.dat (.int .i64) t12_1 [])]
    [.box tWorld o0_1 [],.box tWorld o1_1 [],.none,.none,.none,.none,.arr tSess o6_1]
theorem innkeeplaw18_PlanSettles.l0_eq (n m0:Nat) (t0:(den tWorld)) (t1:(List (den tWrite))) (t2:(List Int)) (t3:Int) (t8:Bool) (t9:Int) (o0:(den tWorld)):innkeeplaw18_PlanSettles.l0 n (m0+1) t0 t1 t2 t3 t8 t9 o0 =
  bif (decide (t9<((List.length t1):Int))) then
    if (0:Int)≤t9∧t9<(((List.length t1):Nat):Int) then
    Option.bind (innkeepref18_May n o0 (List.getD t1 (Int.toNat t9) (dft tWrite):(den tWrite))) fun r9 =>
    bif (!(r9.1.1:Bool)) then
      some ((true,()),[])
    else
      innkeeplaw18_PlanSettles.l0 n m0 t0 t1 t2 t3 t8 (IntKind.wrap .i64 (t9+1)) o0
    else none
  else
    innkeeplaw18_PlanSettles.l1 n n t0 t1 t2 t3 t8 t9 0 o0 o0 ([]:List (den tSess)):=by kernel_rfl
theorem innkeeplaw18_PlanSettles.l1_eq (n m0:Nat) (t0_1:(den tWorld)) (t1_1:(List (den tWrite))) (t2_1:(List Int)) (t3_1:Int) (t8_1:Bool) (t9_1:Int) (t12_1:Int) (o0_1:(den tWorld)) (o1_1:(den tWorld)) (o6_1:(List (den tSess))):innkeeplaw18_PlanSettles.l1 n (m0+1) t0_1 t1_1 t2_1 t3_1 t8_1 t9_1 t12_1 o0_1 o1_1 o6_1 =
  bif (decide (t12_1<((List.length t2_1):Int))) then
    if (0:Int)≤t12_1∧t12_1<(((List.length t2_1):Nat):Int) then
    if (IntKind.wrap .i64 (((List.length t1_1):Int)+1))=0 then none else
    if (List.length o6_1)+1≤1048576 then
    bif (!(decide ((Int.tmod (IntKind.wrap .i64 (t3_1)) 13)=5))) then
      if (List.length (o6_1 ++ ([(0,([]:List ByteArray),0,5,(Int.tmod (IntKind.wrap .i64 ((List.getD t2_1 (Int.toNat t12_1) (0:Int):Int))) (IntKind.wrap .i64 (((List.length t1_1):Int)+1))),(0,0,0,0,0,([]:List Int),0,([]:List Int),0,()),([]:List (den tPlace)),0,t1_1,(0,0,0,([]:List Int),([]:List (den tSeen)),0,()),false,0,0,0,([]:List (den tPlace)),([]:List Int),0,())]:List (den tSess))))+1≤1048576 then
      if (0:Int)≤(Int.tmod (IntKind.wrap .i64 ((List.getD t2_1 (Int.toNat t12_1) (0:Int):Int))) (IntKind.wrap .i64 (((List.length t1_1):Int)+1)))∧(Int.tmod (IntKind.wrap .i64 ((List.getD t2_1 (Int.toNat t12_1) (0:Int):Int))) (IntKind.wrap .i64 (((List.length t1_1):Int)+1)))≤((List.length t1_1:Nat):Int)∧((List.length t1_1:Nat):Int)≤((List.length t1_1:Nat):Int) then
      Option.bind (plan_All n o1_1 (List.drop (Int.toNat (Int.tmod (IntKind.wrap .i64 ((List.getD t2_1 (Int.toNat t12_1) (0:Int):Int))) (IntKind.wrap .i64 (((List.length t1_1):Int)+1)))) (List.take (Int.toNat ((List.length t1_1:Nat):Int)) t1_1):(List (den tWrite)))) fun r10 =>
      innkeeplaw18_PlanSettles.l1 n m0 t0_1 t1_1 t2_1 t3_1 t8_1 t9_1 (IntKind.wrap .i64 (t12_1+1)) o0_1 r10.1.1 ((o6_1 ++ ([(0,([]:List ByteArray),0,5,(Int.tmod (IntKind.wrap .i64 ((List.getD t2_1 (Int.toNat t12_1) (0:Int):Int))) (IntKind.wrap .i64 (((List.length t1_1):Int)+1))),(0,0,0,0,0,([]:List Int),0,([]:List Int),0,()),([]:List (den tPlace)),0,t1_1,(0,0,0,([]:List Int),([]:List (den tSeen)),0,()),false,0,0,0,([]:List (den tPlace)),([]:List Int),0,())]:List (den tSess))) ++ ([(0,([]:List ByteArray),0,(Int.tmod (IntKind.wrap .i64 (t3_1)) 13),0,(0,0,0,0,0,([]:List Int),0,([]:List Int),0,()),([]:List (den tPlace)),0,t1_1,(0,0,0,([]:List Int),([]:List (den tSeen)),0,()),false,0,0,0,([]:List (den tPlace)),([]:List Int),0,())]:List (den tSess)))
      else none
      else none
    else
      if (0:Int)≤(Int.tmod (IntKind.wrap .i64 ((List.getD t2_1 (Int.toNat t12_1) (0:Int):Int))) (IntKind.wrap .i64 (((List.length t1_1):Int)+1)))∧(Int.tmod (IntKind.wrap .i64 ((List.getD t2_1 (Int.toNat t12_1) (0:Int):Int))) (IntKind.wrap .i64 (((List.length t1_1):Int)+1)))≤((List.length t1_1:Nat):Int)∧((List.length t1_1:Nat):Int)≤((List.length t1_1:Nat):Int) then
      Option.bind (plan_All n o1_1 (List.drop (Int.toNat (Int.tmod (IntKind.wrap .i64 ((List.getD t2_1 (Int.toNat t12_1) (0:Int):Int))) (IntKind.wrap .i64 (((List.length t1_1):Int)+1)))) (List.take (Int.toNat ((List.length t1_1:Nat):Int)) t1_1):(List (den tWrite)))) fun r11 =>
      innkeeplaw18_PlanSettles.l1 n m0 t0_1 t1_1 t2_1 t3_1 t8_1 t9_1 (IntKind.wrap .i64 (t12_1+1)) o0_1 r11.1.1 (o6_1 ++ ([(0,([]:List ByteArray),0,5,(Int.tmod (IntKind.wrap .i64 ((List.getD t2_1 (Int.toNat t12_1) (0:Int):Int))) (IntKind.wrap .i64 (((List.length t1_1):Int)+1))),(0,0,0,0,0,([]:List Int),0,([]:List Int),0,()),([]:List (den tPlace)),0,t1_1,(0,0,0,([]:List Int),([]:List (den tSeen)),0,()),false,0,0,0,([]:List (den tPlace)),([]:List Int),0,())]:List (den tSess)))
      else none
    else none
    else none
  else
    Option.bind (plan_Settled n o0_1 o6_1) fun r12 =>
    Option.bind (innkeepref06_Same n r12.1.1 o1_1) fun r13 =>
    bif (r13.1.1:Bool) then
      Option.bind (plan_Settled n o0_1 o6_1) fun r14 =>
      Option.bind (innkeepref18_Settled n o0_1 o6_1) fun r15 =>
      Option.bind (innkeepref06_Same n r14.1.1 r15.1.1) fun r16 =>
      bif (r16.1.1:Bool) then
        Option.bind (plan_Settled n o0_1 ([]:List (den tSess))) fun r17 =>
        Option.bind (innkeepref06_Same n r17.1.1 o0_1) fun r18 =>
        some (((r18.1.1:Bool),()),[])
      else
        some ((false,()),[])
    else
      some ((false,()),[]):=by kernel_rfl
theorem innkeeplaw18_PlanSettles.eq (n:Nat) (a0:(den tWorld)) (a1:(List (den tWrite))) (a2:(List Int)) (a3:Int):innkeeplaw18_PlanSettles (n+1) a0 a1 a2 a3 =
  Option.bind (innkeeplaw18_awake n) fun r1 =>
  bif (!(r1.1.1:Bool)) then
    Option.bind (innkeeplaw18_awake n) fun r2 =>
    some (((r2.1.1:Bool),()),[])
  else
    Option.bind (innkeepref06_Few n a0) fun r3 =>
    bif (!(r3.1.1:Bool)) then
      Option.bind (innkeeplaw18_awake n) fun r4 =>
      some (((r4.1.1:Bool),()),[])
    else
      Option.bind (innkeepref18_Full n a0) fun r5 =>
      bif (!(r5.1.1:Bool)) then
        Option.bind (innkeeplaw18_awake n) fun r6 =>
        some (((r6.1.1:Bool),()),[])
      else
        bif (decide (40<((List.length a1):Int))) then
          Option.bind (innkeeplaw18_awake n) fun r7 =>
          some (((r7.1.1:Bool),()),[])
        else
          bif (decide (6<((List.length a2):Int))) then
            Option.bind (innkeeplaw18_awake n) fun r8 =>
            some (((r8.1.1:Bool),()),[])
          else
            innkeeplaw18_PlanSettles.l0 n n a0 a1 a2 a3 false 0 a0:=by kernel_rfl
def innkeeplaw18_PlanKeeps.res:List Sh:=[.d .bool]
@[reducible] def innkeeplaw18_PlanKeeps.R:Type:=dShL [.d .bool]×Fresh
def innkeeplaw18_PlanKeeps (n:Nat) (a0:(den tWorld)) (a1:(List (den tWrite))):Option innkeeplaw18_PlanKeeps.R:=gc n 5 [.dat tWorld a0 [],.dat (.sl tWrite) a1 []] [.d .bool]
def innkeeplaw18_PlanKeeps.l0 (n m0:Nat) (t0:(den tWorld)) (t1:(List (den tWrite))) (t4:Bool) (t5:Int) (o0:(den tWorld)):Option innkeeplaw18_PlanKeeps.R :=
  lpN n c5_10 m0 (kBlk 0 (kSeq (run (gc n) n) c5_8 (retK innkeeplaw18_PlanKeeps.fn innkeeplaw18_PlanKeeps.res) (retK innkeeplaw18_PlanKeeps.fn innkeeplaw18_PlanKeeps.res)) (retK innkeeplaw18_PlanKeeps.fn innkeeplaw18_PlanKeeps.res))
    [(0,.dat tWorld t0 []),(1,.dat (.sl tWrite) t1 []),(2,.ptr 0 []),(4,.dat .bool t4 []),(5,.dat (.int .i64) t5 [])]
    [.box tWorld o0 []]
def innkeeplaw18_PlanKeeps.l1 (n m0:Nat) (t0_1:(den tWorld)) (t1_1:(List (den tWrite))) (t4_1:Bool) (t5_1:Int) (t9_1:Int) (o0_1:(den tWorld)) (o1_1:(den tWorld)) (o2_1:(den tWorld)) (o3_1:(List (den tSess))) (o4_1:(den tWorld)) (o5_1:(List Int)) (o6_1:(List Int)) (o7_1:(List (den tPlace))) (o8_1:(List (den tPlace))):Option innkeeplaw18_PlanKeeps.R :=
  lpN n c5_32 m0 (kBlk 2 (kSeq (run (gc n) n) c5_30 (retK innkeeplaw18_PlanKeeps.fn innkeeplaw18_PlanKeeps.res) (retK innkeeplaw18_PlanKeeps.fn innkeeplaw18_PlanKeeps.res)) (retK innkeeplaw18_PlanKeeps.fn innkeeplaw18_PlanKeeps.res))
    [(0,.dat tWorld t0_1 []),(1,.dat (.sl tWrite) t1_1 []),(2,.ptr 0 []),(4,.dat .bool t4_1 []),(5,.dat (.int .i64) t5_1 []),(6,.ptr 1 []),(7,.ptr 2 []),(8,.ptr 4 []),(9,.dat (.int .i64) t9_1 [])]
    [.box tWorld o0_1 [],.box tWorld o1_1 [],.box tWorld o2_1 [([1],some 5),([3],some 7)],.frz tSess o3_1,.box tWorld o4_1 [([1],some 6),([3],some 8)],.arr (.int .i64) o5_1,.arr (.int .i64) o6_1,.arr tPlace o7_1,.arr tPlace o8_1]
def innkeeplaw18_PlanKeeps.l2 (n m0:Nat) (t0_2:(den tWorld)) (t1_2:(List (den tWrite))) (t4_2:Bool) (t5_2:Int) (t9_2:Int) (t10_2:Int) (o0_2:(den tWorld)) (o1_2:(den tWorld)) (o2_2:(den tWorld)) (o3_2:(List (den tSess))) (o4_2:(den tWorld)) (o5_2:(List Int)) (o6_2:(List Int)) (o7_2:(List (den tPlace))) (o8_2:(List (den tPlace))):Option innkeeplaw18_PlanKeeps.R :=
  lpN n c5_46 m0 (kBlk 4 (kSeq (run (gc n) n) c5_44 (retK innkeeplaw18_PlanKeeps.fn innkeeplaw18_PlanKeeps.res) (retK innkeeplaw18_PlanKeeps.fn innkeeplaw18_PlanKeeps.res)) (retK innkeeplaw18_PlanKeeps.fn innkeeplaw18_PlanKeeps.res))
    [(0,.dat tWorld t0_2 []),(1,.dat (.sl tWrite) t1_2 []),(2,.ptr 0 []),(4,.dat .bool t4_2 []),(5,.dat (.int .i64) t5_2 []),(6,.ptr 1 []),(7,.ptr 2 []),(8,.ptr 4 []),(9,.dat (.int .i64) t9_2 []),(10,.dat (.int .i64) t10_2 [])]
    [.box tWorld o0_2 [],.box tWorld o1_2 [],.box tWorld o2_2 [([1],some 5),([3],some 7)],.frz tSess o3_2,.box tWorld o4_2 [([1],some 6),([3],some 8)],.arr (.int .i64) o5_2,.arr (.int .i64) o6_2,.arr tPlace o7_2,.arr tPlace o8_2]
theorem innkeeplaw18_PlanKeeps.l0_eq (n m0:Nat) (t0:(den tWorld)) (t1:(List (den tWrite))) (t4:Bool) (t5:Int) (o0:(den tWorld)):innkeeplaw18_PlanKeeps.l0 n (m0+1) t0 t1 t4 t5 o0 =
  bif (decide (t5<((List.length t1):Int))) then
    if (0:Int)≤t5∧t5<(((List.length t1):Nat):Int) then
    Option.bind (innkeepref18_May n o0 (List.getD t1 (Int.toNat t5) (dft tWrite):(den tWrite))) fun r8 =>
    bif (!(r8.1.1:Bool)) then
      some ((true,()),[])
    else
      innkeeplaw18_PlanKeeps.l0 n m0 t0 t1 t4 (IntKind.wrap .i64 (t5+1)) o0
    else none
  else
    Option.bind (innkeepref06_Copied n o0) fun r9 =>
    Option.bind (plan_All n r9.1.1 t1) fun r10 =>
    bif (keepAll r10.2 [((0,[1]),5),((0,[3]),7)]) then
      Option.bind (plan_Settled n r9.1.1 ([(0,([]:List ByteArray),0,5,0,(0,0,0,0,0,([]:List Int),0,([]:List Int),0,()),([]:List (den tPlace)),0,t1,(0,0,0,([]:List Int),([]:List (den tSeen)),0,()),false,0,0,0,([]:List (den tPlace)),([]:List Int),0,())]:List (den tSess))) fun r11 =>
      bif (keepAll r11.2 [((0,[1]),6),((0,[3]),8)]) then
        innkeeplaw18_PlanKeeps.l1 n n t0 t1 t4 t5 0 o0 r9.1.1 (r10.1.1.1,([]:List Int),(r10.1.1.2.2.1:(List Int)),([]:List (den tPlace)),()) ([(0,([]:List ByteArray),0,5,0,(0,0,0,0,0,([]:List Int),0,([]:List Int),0,()),([]:List (den tPlace)),0,t1,(0,0,0,([]:List Int),([]:List (den tSeen)),0,()),false,0,0,0,([]:List (den tPlace)),([]:List Int),0,())]:List (den tSess)) (r11.1.1.1,([]:List Int),(r11.1.1.2.2.1:(List Int)),([]:List (den tPlace)),()) (r10.1.1.2.1:(List Int)) (r11.1.1.2.1:(List Int)) (r10.1.1.2.2.2.1:(List (den tPlace))) (r11.1.1.2.2.2.1:(List (den tPlace)))
      else
        none
    else
      none:=by kernel_rfl
theorem innkeeplaw18_PlanKeeps.l1_eq (n m0:Nat) (t0_1:(den tWorld)) (t1_1:(List (den tWrite))) (t4_1:Bool) (t5_1:Int) (t9_1:Int) (o0_1:(den tWorld)) (o1_1:(den tWorld)) (o2_1:(den tWorld)) (o3_1:(List (den tSess))) (o4_1:(den tWorld)) (o5_1:(List Int)) (o6_1:(List Int)) (o7_1:(List (den tPlace))) (o8_1:(List (den tPlace))):innkeeplaw18_PlanKeeps.l1 n (m0+1) t0_1 t1_1 t4_1 t5_1 t9_1 o0_1 o1_1 o2_1 o3_1 o4_1 o5_1 o6_1 o7_1 o8_1 =
  bif (decide (t9_1<((List.length o5_1):Int))) then
    if (0:Int)≤t9_1∧t9_1<(((List.length o5_1):Nat):Int) then
    if (0:Int)≤t9_1∧t9_1<(((List.length o6_1):Nat):Int) then
    innkeeplaw18_PlanKeeps.l1 n m0 t0_1 t1_1 t4_1 t5_1 (IntKind.wrap .i64 (t9_1+1)) o0_1 o1_1 o2_1 o3_1 o4_1 (List.set o5_1 (Int.toNat t9_1) 77:(List Int)) (List.set o6_1 (Int.toNat t9_1) 77:(List Int)) o7_1 o8_1
    else none
    else none
  else
    innkeeplaw18_PlanKeeps.l2 n n t0_1 t1_1 t4_1 t5_1 t9_1 0 o0_1 o1_1 o2_1 o3_1 o4_1 o5_1 o6_1 o7_1 o8_1:=by kernel_rfl
theorem innkeeplaw18_PlanKeeps.l2_eq (n m0:Nat) (t0_2:(den tWorld)) (t1_2:(List (den tWrite))) (t4_2:Bool) (t5_2:Int) (t9_2:Int) (t10_2:Int) (o0_2:(den tWorld)) (o1_2:(den tWorld)) (o2_2:(den tWorld)) (o3_2:(List (den tSess))) (o4_2:(den tWorld)) (o5_2:(List Int)) (o6_2:(List Int)) (o7_2:(List (den tPlace))) (o8_2:(List (den tPlace))):innkeeplaw18_PlanKeeps.l2 n (m0+1) t0_2 t1_2 t4_2 t5_2 t9_2 t10_2 o0_2 o1_2 o2_2 o3_2 o4_2 o5_2 o6_2 o7_2 o8_2 =
  bif (decide (t10_2<((List.length o7_2):Int))) then
    if (0:Int)≤t10_2∧t10_2<(((List.length o7_2):Nat):Int) then
    if (0:Int)≤t10_2∧t10_2<(((List.length o8_2):Nat):Int) then
    innkeeplaw18_PlanKeeps.l2 n m0 t0_2 t1_2 t4_2 t5_2 t9_2 (IntKind.wrap .i64 (t10_2+1)) o0_2 o1_2 o2_2 o3_2 o4_2 o5_2 o6_2 (List.set o7_2 (Int.toNat t10_2) (((List.getD o7_2 (Int.toNat t10_2) (dft tPlace):(den tPlace)).1:Int),77,()):(List (den tPlace))) (List.set o8_2 (Int.toNat t10_2) (((List.getD o8_2 (Int.toNat t10_2) (dft tPlace):(den tPlace)).1:Int),77,()):(List (den tPlace)))
    else none
    else none
  else
    Option.bind (innkeepref06_Same n o1_2 o0_2) fun r12 =>
    some (((r12.1.1:Bool),()),[]):=by kernel_rfl
theorem innkeeplaw18_PlanKeeps.eq (n:Nat) (a0:(den tWorld)) (a1:(List (den tWrite))):innkeeplaw18_PlanKeeps (n+1) a0 a1 =
  Option.bind (innkeeplaw18_awake n) fun r1 =>
  bif (!(r1.1.1:Bool)) then
    Option.bind (innkeeplaw18_awake n) fun r2 =>
    some (((r2.1.1:Bool),()),[])
  else
    Option.bind (innkeepref06_Few n a0) fun r3 =>
    bif (!(r3.1.1:Bool)) then
      Option.bind (innkeeplaw18_awake n) fun r4 =>
      some (((r4.1.1:Bool),()),[])
    else
      Option.bind (innkeepref18_Full n a0) fun r5 =>
      bif (!(r5.1.1:Bool)) then
        Option.bind (innkeeplaw18_awake n) fun r6 =>
        some (((r6.1.1:Bool),()),[])
      else
        bif (decide (40<((List.length a1):Int))) then
          Option.bind (innkeeplaw18_awake n) fun r7 =>
          some (((r7.1.1:Bool),()),[])
        else
          innkeeplaw18_PlanKeeps.l0 n n a0 a1 false 0 a0:=by kernel_rfl
def innkeeplaw18_PlanOrder.res:List Sh:=[.d .bool]
@[reducible] def innkeeplaw18_PlanOrder.R:Type:=dShL [.d .bool]×Fresh
def innkeeplaw18_PlanOrder (n:Nat) (a0:(den tWorld)) (a1:(den tWorld)) (a2:Int):Option innkeeplaw18_PlanOrder.R:=gc n 6 [.dat tWorld a0 [],.dat tWorld a1 [],.dat (.int .u8) a2 []] [.d .bool]
def innkeeplaw18_PlanOrder.l0 (n m0:Nat) (t0:(den tWorld)) (t1:(den tWorld)) (t2:Int) (t6:Bool) (t7:(List (den tWrite))) (t9:Int) (o0:(den tWorld)) (o1:(den tWorld)) (o4:(List (den tWrite))):Option innkeeplaw18_PlanOrder.R :=
  lpN n c6_15 m0 (kBlk 0 (kSeq (run (gc n) n) c6_13 (retK innkeeplaw18_PlanOrder.fn innkeeplaw18_PlanOrder.res) (retK innkeeplaw18_PlanOrder.fn innkeeplaw18_PlanOrder.res)) (retK innkeeplaw18_PlanOrder.fn innkeeplaw18_PlanOrder.res))
    [(0,.dat tWorld t0 []),(1,.dat tWorld t1 []),(2,.dat (.int .u8) t2 []),(3,.ptr 0 []),(4,.ptr 1 []),(6,.dat .bool t6 []),(7,.dat (.sl tWrite) t7 []),(8,.dat (.sl tWrite) ([]:List (den tWrite)) [([],some 4)]),(9,.dat (.int .i64) t9 [])]
    [.box tWorld o0 [],.box tWorld o1 [],.none,.none,.arr tWrite o4]
theorem innkeeplaw18_PlanOrder.l0_eq (n m0:Nat) (t0:(den tWorld)) (t1:(den tWorld)) (t2:Int) (t6:Bool) (t7:(List (den tWrite))) (t9:Int) (o0:(den tWorld)) (o1:(den tWorld)) (o4:(List (den tWrite))):innkeeplaw18_PlanOrder.l0 n (m0+1) t0 t1 t2 t6 t7 t9 o0 o1 o4 =
  bif (decide (t9<((List.length t7):Int))) then
    if ((List.length t7):Int)=0 then none else
    if (0:Int)≤(Int.tmod (IntKind.wrap .i64 (t9+(IntKind.wrap .i64 (t2)))) ((List.length t7):Int))∧(Int.tmod (IntKind.wrap .i64 (t9+(IntKind.wrap .i64 (t2)))) ((List.length t7):Int))<(((List.length t7):Nat):Int) then
    if (List.length o4)+1≤1048576 then
    innkeeplaw18_PlanOrder.l0 n m0 t0 t1 t2 t6 t7 (IntKind.wrap .i64 (t9+1)) o0 o1 (o4 ++ ([(List.getD t7 (Int.toNat (Int.tmod (IntKind.wrap .i64 (t9+(IntKind.wrap .i64 (t2)))) ((List.length t7):Int))) (dft tWrite):(den tWrite))]:List (den tWrite)))
    else none
    else none
  else
    Option.bind (plan_All n o0 t7) fun r14 =>
    Option.bind (innkeepref06_Same n r14.1.1 o1) fun r15 =>
    bif (r15.1.1:Bool) then
      Option.bind (plan_All n o0 o4) fun r16 =>
      Option.bind (innkeepref06_Same n r16.1.1 o1) fun r17 =>
      bif (r17.1.1:Bool) then
        Option.bind (plan_All n o0 t7) fun r18 =>
        Option.bind (plan_All n r18.1.1 o4) fun r19 =>
        Option.bind (innkeepref06_Same n r19.1.1 o1) fun r20 =>
        bif (r20.1.1:Bool) then
          Option.bind (plan_From n o1 o0) fun r21 =>
          some (((decide (((List.length (r21.1.1:(List (den tWrite)))):Int)=((List.length t7):Int))),()),[])
        else
          some ((false,()),[])
      else
        some ((false,()),[])
    else
      some ((false,()),[]):=by kernel_rfl
theorem innkeeplaw18_PlanOrder.eq (n:Nat) (a0:(den tWorld)) (a1:(den tWorld)) (a2:Int):innkeeplaw18_PlanOrder (n+1) a0 a1 a2 =
  Option.bind (innkeeplaw18_awake n) fun r1 =>
  bif (!(r1.1.1:Bool)) then
    Option.bind (innkeeplaw18_awake n) fun r2 =>
    some (((r2.1.1:Bool),()),[])
  else
    Option.bind (innkeepref06_Few n a0) fun r3 =>
    bif (!(r3.1.1:Bool)) then
      Option.bind (innkeeplaw18_awake n) fun r4 =>
      some (((r4.1.1:Bool),()),[])
    else
      Option.bind (innkeepref06_Few n a1) fun r5 =>
      bif (!(r5.1.1:Bool)) then
        Option.bind (innkeeplaw18_awake n) fun r6 =>
        some (((r6.1.1:Bool),()),[])
      else
        Option.bind (innkeepref18_Full n a0) fun r7 =>
        bif (!(r7.1.1:Bool)) then
          Option.bind (innkeeplaw18_awake n) fun r8 =>
          some (((r8.1.1:Bool),()),[])
        else
          Option.bind (innkeepref18_Full n a1) fun r9 =>
          bif (!(r9.1.1:Bool)) then
            Option.bind (innkeeplaw18_awake n) fun r10 =>
            some (((r10.1.1:Bool),()),[])
          else
            bif (!(decide (((List.length (a0.2.1:(List Int))):Int)=((List.length (a1.2.1:(List Int))):Int)))) then
              Option.bind (innkeeplaw18_awake n) fun r11 =>
              some (((r11.1.1:Bool),()),[])
            else
              bif (!(decide (((List.length (a0.2.2.2.1:(List (den tPlace)))):Int)=((List.length (a1.2.2.2.1:(List (den tPlace)))):Int)))) then
                Option.bind (innkeeplaw18_awake n) fun r12 =>
                some (((r12.1.1:Bool),()),[])
              else
                Option.bind (plan_From n a0 (a0.1,(a1.2.1:(List Int)),(a1.2.2.1:(List Int)),(a1.2.2.2.1:(List (den tPlace))),())) fun r13 =>
                innkeeplaw18_PlanOrder.l0 n n a0 a1 a2 false (r13.1.1:(List (den tWrite))) 0 a0 (a0.1,(a1.2.1:(List Int)),(a1.2.2.1:(List Int)),(a1.2.2.2.1:(List (den tPlace))),()) ([]:List (den tWrite)):=by kernel_rfl
end Go.Proofs.YtjobjooccgledaaDoor.Ghost
