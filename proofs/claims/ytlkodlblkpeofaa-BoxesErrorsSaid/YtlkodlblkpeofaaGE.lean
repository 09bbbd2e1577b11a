/- What each function and each loop comes to, one step. Conditions: none. -/
import Derived.Test.YtlkodlblkpeofaaGSp
import Derived.KernelRfl
set_option linter.unusedVariables false
set_option linter.unusedSimpArgs false
set_option linter.unusedSectionVars false
set_option linter.unnecessarySimpa false
namespace Go.Proofs.Ytlkodlblkpeofaa.Ghost
open Go
abbrev gc (n : Nat) : Calls := gcall prog sp n
def innkeepref06_New.res : List Sh := [.d tWorld]
@[reducible] def innkeepref06_New.R : Type := dShL [.d tWorld] × Fresh
def innkeepref06_New (n : Nat) (a0 : (den tDesc)) : Option innkeepref06_New.R := gc n 23 [.dat tDesc a0 []] [.d tWorld]
def innkeepref06_New.l0 (n m0 : Nat) (t0 : (den tDesc)) (t4 : Int) (o0 : (den tDesc)) (o1 : (den tWorld)) (o2 : (den tWorld)) (o3 : (List Int)) (o4 : (List Int)) (o9 : (List (den tPlace))) : Option innkeepref06_New.R :=
  loopN (fun Kn K s h => run (gc n) n innkeepref06_New.c9 Kn K s h) m0 (kBlk 0 (kSeq (run (gc n) n) innkeepref06_New.c7 (retK innkeepref06_New.fn innkeepref06_New.res) (retK innkeepref06_New.fn innkeepref06_New.res)) (retK innkeepref06_New.fn innkeepref06_New.res))
    [(0, .dat tDesc t0 []), (1, .ptr 0 []), (2, .ptr 1 []), (3, .ptr 2 []), (4, .dat (.int .i64) t4 [])]
    [.box tDesc o0 [], .box tWorld o1 [], .box tWorld o2 [([1], some 3), ([2], some 4), ([3], some 9)], .arr (.int .i64) o3, .arr (.int .i64) o4, .none, .none, .dead, .dead, .arr tPlace o9]
theorem innkeepref06_New.l0_eq (n m0 : Nat) (t0 : (den tDesc)) (t4 : Int) (o0 : (den tDesc)) (o1 : (den tWorld)) (o2 : (den tWorld)) (o3 : (List Int)) (o4 : (List Int)) (o9 : (List (den tPlace))) : innkeepref06_New.l0 n (m0 + 1) t0 t4 o0 o1 o2 o3 o4 o9 =
  bif (decide (t4 < ((List.length (o0.2.2.2.1 : (List Int))) : Int))) then
    if (0 : Int) ≤ t4 ∧ t4 < (((List.length (o0.2.2.2.1 : (List Int))) : Nat) : Int) then
    if (List.length o9) + 1 ≤ 1048576 then
    innkeepref06_New.l0 n m0 t0 (IntKind.wrap .i64 (t4 + 1)) o0 o1 (o2.1, (o2.2.1 : (List Int)), (o2.2.2.1 : (List Int)), ([] : List (den tPlace)), ()) o3 o4 (o9 ++ ([(0, (List.getD (o0.2.2.2.1 : (List Int)) (Int.toNat t4) (0 : Int) : Int), ())] : List (den tPlace)))
    else none
    else none
  else
    some (((o2.1, o3, o4, o9, ()), ()), [(0, [1]), (0, [2]), (0, [3])]) := by kernel_rfl
theorem innkeepref06_New.eq (n : Nat) (a0 : (den tDesc)) : innkeepref06_New (n + 1) a0 =
  if 0 + (List.length (a0.2.1 : (List Int))) ≤ 1048576 then
  if 0 + (List.length (a0.2.2.1 : (List Int))) ≤ 1048576 then
  innkeepref06_New.l0 n n a0 0 a0 ((([] : List (List Int)), ([] : List Int), ([] : List Int), ([] : List Int), ([] : List Bool), 0, 0, 0, ()), ([] : List Int), ([] : List Int), ([] : List (den tPlace)), ()) (a0, ([] : List Int), ([] : List Int), ([] : List (den tPlace)), ()) (([] : List Int) ++ (a0.2.1 : (List Int))) (([] : List Int) ++ (a0.2.2.1 : (List Int))) ([] : List (den tPlace))
  else none
  else none := by kernel_rfl
def boxes_none.res : List Sh := [.d .bool]
@[reducible] def boxes_none.R : Type := dShL [.d .bool] × Fresh
def boxes_none (n : Nat) (a0 : (den tWorld)) (a1 : Int) : Option boxes_none.R := gc n 27 [.dat tWorld a0 [], .dat (.int .i64) a1 []] [.d .bool]
theorem boxes_none.eq (n : Nat) (a0 : (den tWorld)) (a1 : Int) : boxes_none (n + 1) a0 a1 =
  bif (decide (a1 < 0)) then
    some ((true, ()), [])
  else
    some (((decide (((List.length (a0.2.2.2.1 : (List (den tPlace)))) : Int) ≤ a1)), ()), []) := by kernel_rfl
def boxes_Put_1.res : List Sh := [.d .bool]
@[reducible] def boxes_Put_1.R : Type := dShL [.d .bool] × Fresh
def boxes_Put_1 (n : Nat) (a0 : (den tWorld)) (a1 : Int) (a2 : Int) : Option boxes_Put_1.R := gc n 26 [.ref tWorld a0, .ref (.int .i64) a1, .ref (.int .i64) a2] [.d .bool]
theorem boxes_Put_1.eq (n : Nat) (a0 : (den tWorld)) (a1 : Int) (a2 : Int) : boxes_Put_1 (n + 1) a0 a1 a2 =
  Option.bind (boxes_none n a0 a1) fun r1 =>
  bif (r1.1.1 : Bool) then
    some ((true, ()), [])
  else
    Option.bind (boxes_none n a0 a2) fun r2 =>
    some (((r2.1.1 : Bool), ()), []) := by kernel_rfl
def tree_up.res : List Sh := [.clo 58 [.ref tWorld, .ref (.int .i64)]]
@[reducible] def tree_up.R : Type := dShL [.clo 58 [.ref tWorld, .ref (.int .i64)]] × Fresh
def tree_up (n : Nat) (a0 : (den tWorld)) (a1 : Int) : Option tree_up.R := gc n 54 [.dat tWorld a0 [], .dat (.int .i64) a1 []] [.clo 58 [.ref tWorld, .ref (.int .i64)]]
theorem tree_up.eq (n : Nat) (a0 : (den tWorld)) (a1 : Int) : tree_up (n + 1) a0 a1 =
  some (((a0, a1, ()), ()), []) := by kernel_rfl
def slices_Collect_api_Place.res : List Sh := [.d (.sl tPlace)]
@[reducible] def slices_Collect_api_Place.R : Type := dShL [.d (.sl tPlace)] × Fresh
def slices_Collect_api_Place (n : Nat) (a0 : (den tWorld)) (a1 : Int) : Option slices_Collect_api_Place.R := gc n 55 [.clo 58 [.ref tWorld a0, .ref (.int .i64) a1]] [.d (.sl tPlace)]
def tree_Root.res : List Sh := [.d tPlace]
@[reducible] def tree_Root.R : Type := dShL [.d tPlace] × Fresh
def tree_Root (n : Nat) (a0 : (den tWorld)) (a1 : Int) : Option tree_Root.R := gc n 48 [.dat tWorld a0 [], .dat (.int .i64) a1 []] [.d tPlace]
theorem tree_Root.eq (n : Nat) (a0 : (den tWorld)) (a1 : Int) : tree_Root (n + 1) a0 a1 =
  Option.bind (tree_up n a0 a1) fun r1 =>
  Option.bind (slices_Collect_api_Place n r1.1.1.1 (r1.1.1.2.1 : Int)) fun r2 =>
  if (0 : Int) ≤ (IntKind.wrap .i64 (((List.length (r2.1.1 : (List (den tPlace)))) : Int) - 1)) ∧ (IntKind.wrap .i64 (((List.length (r2.1.1 : (List (den tPlace)))) : Int) - 1)) < (((List.length (r2.1.1 : (List (den tPlace)))) : Nat) : Int) then
  some (((List.getD (r2.1.1 : (List (den tPlace))) (Int.toNat (IntKind.wrap .i64 (((List.length (r2.1.1 : (List (den tPlace)))) : Int) - 1))) (dft tPlace) : (den tPlace)), ()), [])
  else none := by kernel_rfl
def boxes_Near.res : List Sh := [.d .bool]
@[reducible] def boxes_Near.R : Type := dShL [.d .bool] × Fresh
def boxes_Near (n : Nat) (a0 : (den tWorld)) (a1 : Int) (a2 : Int) : Option boxes_Near.R := gc n 15 [.dat tWorld a0 [], .dat (.int .i64) a1 [], .dat (.int .i64) a2 []] [.d .bool]
theorem boxes_Near.eq (n : Nat) (a0 : (den tWorld)) (a1 : Int) (a2 : Int) : boxes_Near (n + 1) a0 a1 a2 =
  Option.bind (tree_Root n a0 a2) fun r1 =>
  if (0 : Int) ≤ a1 ∧ a1 < (((List.length (a0.2.1 : (List Int))) : Nat) : Int) then
  bif (eqT tPlace r1.1.1 (0, (List.getD (a0.2.1 : (List Int)) (Int.toNat a1) (0 : Int) : Int), ())) then
    some ((true, ()), [])
  else
    some (((eqT tPlace r1.1.1 (1, a1, ())), ()), [])
  else none := by kernel_rfl
def boxes_Put_2.res : List Sh := [.d .bool]
@[reducible] def boxes_Put_2.R : Type := dShL [.d .bool] × Fresh
def boxes_Put_2 (n : Nat) (a0 : (den tWorld)) (a1 : Int) (a2 : (den tPlace)) (a3 : Int) (a4 : Int) : Option boxes_Put_2.R := gc n 28 [.ref tWorld a0, .ref (.int .i64) a1, .ref tPlace a2, .ref (.int .i64) a3, .ref (.int .i64) a4] [.d .bool]
theorem boxes_Put_2.eq (n : Nat) (a0 : (den tWorld)) (a1 : Int) (a2 : (den tPlace)) (a3 : Int) (a4 : Int) : boxes_Put_2 (n + 1) a0 a1 a2 a3 a4 =
  if (0 : Int) ≤ a1 ∧ a1 < (((List.length (a0.2.2.2.1 : (List (den tPlace)))) : Nat) : Int) then
  bif (!(eqT tPlace (List.getD (a0.2.2.2.1 : (List (den tPlace))) (Int.toNat a1) (dft tPlace) : (den tPlace)) a2)) then
    some ((true, ()), [])
  else
    Option.bind (boxes_Near n a0 a3 a4) fun r1 =>
    some (((!(r1.1.1 : Bool)), ()), [])
  else none := by kernel_rfl
def boxes_Put_3.res : List Sh := [.d .bool]
@[reducible] def boxes_Put_3.R : Type := dShL [.d .bool] × Fresh
def boxes_Put_3 (n : Nat) (a0 : (den tWorld)) (a1 : Int) : Option boxes_Put_3.R := gc n 29 [.ref tWorld a0, .ref (.int .i64) a1] [.d .bool]
theorem boxes_Put_3.eq (n : Nat) (a0 : (den tWorld)) (a1 : Int) : boxes_Put_3 (n + 1) a0 a1 =
  if (0 : Int) ≤ a1 ∧ a1 < (((List.length (a0.1.2.2.2.2.1 : (List Bool))) : Nat) : Int) then
  some (((!(List.getD (a0.1.2.2.2.2.1 : (List Bool)) (Int.toNat a1) false : Bool)), ()), [])
  else none := by kernel_rfl
def tree_Within.res : List Sh := [.d .bool]
@[reducible] def tree_Within.R : Type := dShL [.d .bool] × Fresh
def tree_Within (n : Nat) (a0 : (den tWorld)) (a1 : Int) (a2 : Int) : Option tree_Within.R := gc n 31 [.dat tWorld a0 [], .dat (.int .i64) a1 [], .dat (.int .i64) a2 []] [.d .bool]
def boxes_Put_4.res : List Sh := [.d .bool]
@[reducible] def boxes_Put_4.R : Type := dShL [.d .bool] × Fresh
def boxes_Put_4 (n : Nat) (a0 : (den tWorld)) (a1 : Int) (a2 : Int) : Option boxes_Put_4.R := gc n 30 [.ref tWorld a0, .ref (.int .i64) a1, .ref (.int .i64) a2] [.d .bool]
theorem boxes_Put_4.eq (n : Nat) (a0 : (den tWorld)) (a1 : Int) (a2 : Int) : boxes_Put_4 (n + 1) a0 a1 a2 =
  Option.bind (tree_Within n a0 a1 a2) fun r1 =>
  some (((r1.1.1 : Bool), ()), []) := by kernel_rfl
def tree_Depth.res : List Sh := [.d (.int .i64)]
@[reducible] def tree_Depth.R : Type := dShL [.d (.int .i64)] × Fresh
def tree_Depth (n : Nat) (a0 : (den tWorld)) (a1 : Int) : Option tree_Depth.R := gc n 33 [.dat tWorld a0 [], .dat (.int .i64) a1 []] [.d (.int .i64)]
theorem tree_Depth.eq (n : Nat) (a0 : (den tWorld)) (a1 : Int) : tree_Depth (n + 1) a0 a1 =
  Option.bind (tree_up n a0 a1) fun r1 =>
  Option.bind (slices_Collect_api_Place n r1.1.1.1 (r1.1.1.2.1 : Int)) fun r2 =>
  some (((IntKind.wrap .i64 (((List.length (r2.1.1 : (List (den tPlace)))) : Int) - 1)), ()), []) := by kernel_rfl
def tree_Height.res : List Sh := [.d (.int .i64)]
@[reducible] def tree_Height.R : Type := dShL [.d (.int .i64)] × Fresh
def tree_Height (n : Nat) (a0 : (den tWorld)) (a1 : Int) : Option tree_Height.R := gc n 34 [.dat tWorld a0 [], .dat (.int .i64) a1 []] [.d (.int .i64)]
def tree_Height.l0 (n m0 : Nat) (t0 : (den tWorld)) (t1 : Int) (t4 : Int) (t5 : Int) (t9 : Int) (t10 : Int) (o0 : (den tWorld)) : Option tree_Height.R :=
  loopN (fun Kn K s h => run (gc n) n tree_Height.c5 Kn K s h) m0 (kBlk 0 (kSeq (run (gc n) n) tree_Height.c2 (retK tree_Height.fn tree_Height.res) (retK tree_Height.fn tree_Height.res)) (retK tree_Height.fn tree_Height.res))
    [(0, .dat tWorld t0 []), (1, .dat (.int .i64) t1 []), (2, .ptr 0 []), (4, .dat (.int .i64) t4 []), (5, .dat (.int .i64) t5 []), (9, .dat (.int .i64) t9 []), (10, .dat (.int .i64) t10 [])]
    [.box tWorld o0 []]
theorem tree_Height.l0_eq (n m0 : Nat) (t0 : (den tWorld)) (t1 : Int) (t4 : Int) (t5 : Int) (t9 : Int) (t10 : Int) (o0 : (den tWorld)) : tree_Height.l0 n (m0 + 1) t0 t1 t4 t5 t9 t10 o0 =
  bif (decide (t10 < t9)) then
    Option.bind (tree_Within n o0 t10 t1) fun r1 =>
    bif (r1.1.1 : Bool) then
      Option.bind (tree_Depth n o0 t10) fun r2 =>
      Option.bind (tree_Depth n o0 t1) fun r3 =>
      tree_Height.l0 n m0 t0 t1 t4 (if t5 < (IntKind.wrap .i64 ((r2.1.1 : Int) - (r3.1.1 : Int))) then (IntKind.wrap .i64 ((r2.1.1 : Int) - (r3.1.1 : Int))) else t5) t9 (IntKind.wrap .i64 (t10 + 1)) o0
    else
      tree_Height.l0 n m0 t0 t1 t4 t5 t9 (IntKind.wrap .i64 (t10 + 1)) o0
  else
    some ((t5, ()), []) := by kernel_rfl
theorem tree_Height.eq (n : Nat) (a0 : (den tWorld)) (a1 : Int) : tree_Height (n + 1) a0 a1 =
  tree_Height.l0 n n a0 a1 0 0 ((List.length (a0.2.2.2.1 : (List (den tPlace)))) : Int) 0 a0 := by kernel_rfl
def boxes_Put_5.res : List Sh := [.d .bool]
@[reducible] def boxes_Put_5.R : Type := dShL [.d .bool] × Fresh
def boxes_Put_5 (n : Nat) (a0 : (den tWorld)) (a1 : Int) (a2 : Int) : Option boxes_Put_5.R := gc n 32 [.ref tWorld a0, .ref (.int .i64) a1, .ref (.int .i64) a2] [.d .bool]
theorem boxes_Put_5.eq (n : Nat) (a0 : (den tWorld)) (a1 : Int) (a2 : Int) : boxes_Put_5 (n + 1) a0 a1 a2 =
  Option.bind (tree_Depth n a0 a1) fun r1 =>
  Option.bind (tree_Height n a0 a2) fun r2 =>
  some (((decide (4 < (IntKind.wrap .i64 ((IntKind.wrap .i64 ((r1.1.1 : Int) + 1)) + (r2.1.1 : Int))))), ()), []) := by kernel_rfl
def tree_In.res : List Sh := [.d (.sl (.int .i64))]
@[reducible] def tree_In.R : Type := dShL [.d (.sl (.int .i64))] × Fresh
def tree_In (n : Nat) (a0 : (den tWorld)) (a1 : (den tPlace)) : Option tree_In.R := gc n 56 [.dat tWorld a0 [], .dat tPlace a1 []] [.d (.sl (.int .i64))]
def tree_In.l0 (n m0 : Nat) (t0 : (den tWorld)) (t1 : (den tPlace)) (t4 : (List Int)) (t9 : (List (den tPlace))) (t10 : Int) (t11 : Int) (o0 : (den tWorld)) (o1 : (den tPlace)) (o5 : (List Int)) : Option tree_In.R :=
  loopN (fun Kn K s h => run (gc n) n tree_In.c5 Kn K s h) m0 (kBlk 0 (kSeq (run (gc n) n) tree_In.c2 (retK tree_In.fn tree_In.res) (retK tree_In.fn tree_In.res)) (retK tree_In.fn tree_In.res))
    [(0, .dat tWorld t0 []), (1, .dat tPlace t1 []), (2, .ptr 0 []), (3, .ptr 1 []), (4, .dat (.sl (.int .i64)) t4 []), (5, .dat (.sl (.int .i64)) ([] : List Int) [([], some 5)]), (9, .dat (.sl tPlace) t9 []), (10, .dat (.int .i64) t10 []), (11, .dat (.int .i64) t11 [])]
    [.box tWorld o0 [], .box tPlace o1 [], .none, .none, .none, .arr (.int .i64) o5]
theorem tree_In.l0_eq (n m0 : Nat) (t0 : (den tWorld)) (t1 : (den tPlace)) (t4 : (List Int)) (t9 : (List (den tPlace))) (t10 : Int) (t11 : Int) (o0 : (den tWorld)) (o1 : (den tPlace)) (o5 : (List Int)) : tree_In.l0 n (m0 + 1) t0 t1 t4 t9 t10 t11 o0 o1 o5 =
  bif (decide (t11 < t10)) then
    if (0 : Int) ≤ t11 ∧ t11 < (((List.length t9) : Nat) : Int) then
    bif (eqT tPlace o1 (List.getD t9 (Int.toNat t11) (dft tPlace) : (den tPlace))) then
      if (List.length o5) + 1 ≤ 1048576 then
      tree_In.l0 n m0 t0 t1 t4 t9 t10 (IntKind.wrap .i64 (t11 + 1)) o0 o1 (o5 ++ ([t11] : List Int))
      else none
    else
      tree_In.l0 n m0 t0 t1 t4 t9 t10 (IntKind.wrap .i64 (t11 + 1)) o0 o1 o5
    else none
  else
    some ((o5, ()), [(0, [])]) := by kernel_rfl
theorem tree_In.eq (n : Nat) (a0 : (den tWorld)) (a1 : (den tPlace)) : tree_In (n + 1) a0 a1 =
  tree_In.l0 n n a0 a1 ([] : List Int) (a0.2.2.2.1 : (List (den tPlace))) ((List.length (a0.2.2.2.1 : (List (den tPlace)))) : Int) 0 a0 a1 ([] : List Int) := by kernel_rfl
def tree_Room.res : List Sh := [.d (.int .i64)]
@[reducible] def tree_Room.R : Type := dShL [.d (.int .i64)] × Fresh
def tree_Room (n : Nat) (a0 : (den tWorld)) (a1 : (den tPlace)) : Option tree_Room.R := gc n 36 [.dat tWorld a0 [], .dat tPlace a1 []] [.d (.int .i64)]
theorem tree_Room.eq (n : Nat) (a0 : (den tWorld)) (a1 : (den tPlace)) : tree_Room (n + 1) a0 a1 =
  if (0 : Int) ≤ (a1.1 : Int) ∧ (a1.1 : Int) < ((3 : Nat) : Int) then
  Option.bind (tree_In n a0 a1) fun r1 =>
  some (((IntKind.wrap .i64 ((List.getD ([(a0.1.2.2.2.2.2.1 : Int), (a0.1.2.2.2.2.2.2.1 : Int), (a0.1.2.2.2.2.2.2.2.1 : Int)] : List Int) (Int.toNat (a1.1 : Int)) (0 : Int) : Int) - ((List.length (r1.1.1 : (List Int))) : Int))), ()), [])
  else none := by kernel_rfl
def boxes_Put_6.res : List Sh := [.d .bool]
@[reducible] def boxes_Put_6.R : Type := dShL [.d .bool] × Fresh
def boxes_Put_6 (n : Nat) (a0 : (den tWorld)) (a1 : (den tPlace)) : Option boxes_Put_6.R := gc n 35 [.ref tWorld a0, .ref tPlace a1] [.d .bool]
theorem boxes_Put_6.eq (n : Nat) (a0 : (den tWorld)) (a1 : (den tPlace)) : boxes_Put_6 (n + 1) a0 a1 =
  Option.bind (tree_Room n a0 a1) fun r1 =>
  some (((decide ((r1.1.1 : Int) < 1)), ()), []) := by kernel_rfl
def boxes_first.res : List Sh := [.d (.int .i64)]
@[reducible] def boxes_first.R : Type := dShL [.d (.int .i64)] × Fresh
def boxes_first (n : Nat) (a0 : (den tWorld)) (a1 : Int) (a2 : Int) (a3 : Int) (a4 : (den tWorld)) (a5 : Int) (a6 : (den tPlace)) (a7 : Int) (a8 : Int) (a9 : Int) (a10 : (den tWorld)) (a11 : Int) (a12 : Int) (a13 : (den tWorld)) (a14 : Int) (a15 : Int) (a16 : Int) (a17 : (den tWorld)) (a18 : Int) (a19 : Int) (a20 : Int) (a21 : (den tWorld)) (a22 : (den tPlace)) (a23 : Int) : Option boxes_first.R := gc n 25 [.slv [.agv [.clo 26 [.ref tWorld a0, .ref (.int .i64) a1, .ref (.int .i64) a2], .dat (.int .i64) a3 []], .agv [.clo 28 [.ref tWorld a4, .ref (.int .i64) a5, .ref tPlace a6, .ref (.int .i64) a7, .ref (.int .i64) a8], .dat (.int .i64) a9 []], .agv [.clo 29 [.ref tWorld a10, .ref (.int .i64) a11], .dat (.int .i64) a12 []], .agv [.clo 30 [.ref tWorld a13, .ref (.int .i64) a14, .ref (.int .i64) a15], .dat (.int .i64) a16 []], .agv [.clo 32 [.ref tWorld a17, .ref (.int .i64) a18, .ref (.int .i64) a19], .dat (.int .i64) a20 []], .agv [.clo 35 [.ref tWorld a21, .ref tPlace a22], .dat (.int .i64) a23 []]]] [.d (.int .i64)]
theorem boxes_first.eq (n : Nat) (a0 : (den tWorld)) (a1 : Int) (a2 : Int) (a3 : Int) (a4 : (den tWorld)) (a5 : Int) (a6 : (den tPlace)) (a7 : Int) (a8 : Int) (a9 : Int) (a10 : (den tWorld)) (a11 : Int) (a12 : Int) (a13 : (den tWorld)) (a14 : Int) (a15 : Int) (a16 : Int) (a17 : (den tWorld)) (a18 : Int) (a19 : Int) (a20 : Int) (a21 : (den tWorld)) (a22 : (den tPlace)) (a23 : Int) : boxes_first (n + 14) a0 a1 a2 a3 a4 a5 a6 a7 a8 a9 a10 a11 a12 a13 a14 a15 a16 a17 a18 a19 a20 a21 a22 a23 =
  Option.bind (boxes_Put_1 (n + 13) a0 a1 a2) fun r1 =>
  bif (r1.1.1 : Bool) then
    some ((a3, ()), [])
  else
    Option.bind (boxes_Put_2 (n + 13) a4 a5 a6 a7 a8) fun r2 =>
    bif (r2.1.1 : Bool) then
      some ((a9, ()), [])
    else
      Option.bind (boxes_Put_3 (n + 13) a10 a11) fun r3 =>
      bif (r3.1.1 : Bool) then
        some ((a12, ()), [])
      else
        Option.bind (boxes_Put_4 (n + 13) a13 a14 a15) fun r4 =>
        bif (r4.1.1 : Bool) then
          some ((a16, ()), [])
        else
          Option.bind (boxes_Put_5 (n + 13) a17 a18 a19) fun r5 =>
          bif (r5.1.1 : Bool) then
            some ((a20, ()), [])
          else
            Option.bind (boxes_Put_6 (n + 13) a21 a22) fun r6 =>
            bif (r6.1.1 : Bool) then
              some ((a23, ()), [])
            else
              some ((0, ()), []) := by kernel_rfl
def slices_Clone_sint_int.res : List Sh := [.d (.sl (.int .i64))]
@[reducible] def slices_Clone_sint_int.R : Type := dShL [.d (.sl (.int .i64))] × Fresh
def slices_Clone_sint_int (n : Nat) (a0 : (List Int)) : Option slices_Clone_sint_int.R := gc n 60 [.dat (.sl (.int .i64)) a0 []] [.d (.sl (.int .i64))]
def slices_Clone_sapi_Place_api_Place.res : List Sh := [.d (.sl tPlace)]
@[reducible] def slices_Clone_sapi_Place_api_Place.R : Type := dShL [.d (.sl tPlace)] × Fresh
def slices_Clone_sapi_Place_api_Place (n : Nat) (a0 : (List (den tPlace))) : Option slices_Clone_sapi_Place_api_Place.R := gc n 61 [.dat (.sl tPlace) a0 []] [.d (.sl tPlace)]
def desc_Copy.res : List Sh := [.d tWorld]
@[reducible] def desc_Copy.R : Type := dShL [.d tWorld] × Fresh
def desc_Copy (n : Nat) (a0 : (den tWorld)) : Option desc_Copy.R := gc n 57 [.dat tWorld a0 []] [.d tWorld]
theorem desc_Copy.eq (n : Nat) (a0 : (den tWorld)) : desc_Copy (n + 1) a0 =
  Option.bind (slices_Clone_sint_int n (a0.2.1 : (List Int))) fun r1 =>
  bif (keepAll r1.2 [((0, []), 2)]) then
    Option.bind (slices_Clone_sint_int n (a0.2.2.1 : (List Int))) fun r2 =>
    bif (keepAll r2.2 [((0, []), 3)]) then
      Option.bind (slices_Clone_sapi_Place_api_Place n (a0.2.2.2.1 : (List (den tPlace)))) fun r3 =>
      bif (keepAll r3.2 [((0, []), 4)]) then
        some (((a0.1, (r1.1.1 : (List Int)), (r2.1.1 : (List Int)), (r3.1.1 : (List (den tPlace))), ()), ()), [(0, [1]), (0, [2]), (0, [3])])
      else
        none
    else
      none
  else
    none := by kernel_rfl
def hold_To.res : List Sh := [.d tWorld]
@[reducible] def hold_To.R : Type := dShL [.d tWorld] × Fresh
def hold_To (n : Nat) (a0 : (den tWorld)) (a1 : Int) (a2 : (den tPlace)) : Option hold_To.R := gc n 37 [.dat tWorld a0 [], .dat (.int .i64) a1 [], .dat tPlace a2 []] [.d tWorld]
theorem hold_To.eq (n : Nat) (a0 : (den tWorld)) (a1 : Int) (a2 : (den tPlace)) : hold_To (n + 1) a0 a1 a2 =
  Option.bind (desc_Copy n a0) fun r1 =>
  bif (keepAll r1.2 [((0, [3]), 4)]) then
    if (0 : Int) ≤ a1 ∧ a1 < (((List.length (r1.1.1.2.2.2.1 : (List (den tPlace)))) : Nat) : Int) then
    some (((r1.1.1.1, (r1.1.1.2.1 : (List Int)), (r1.1.1.2.2.1 : (List Int)), (List.set (r1.1.1.2.2.2.1 : (List (den tPlace))) (Int.toNat a1) a2 : (List (den tPlace))), ()), ()), [(0, [3])])
    else none
  else
    none := by kernel_rfl
def boxes_Put.res : List Sh := [.d tWorld, .d (.int .i64)]
@[reducible] def boxes_Put.R : Type := dShL [.d tWorld, .d (.int .i64)] × Fresh
def boxes_Put (n : Nat) (a0 : (den tWorld)) (a1 : Int) (a2 : Int) (a3 : Int) : Option boxes_Put.R := gc n 10 [.dat tWorld a0 [], .dat (.int .i64) a1 [], .dat (.int .i64) a2 [], .dat (.int .i64) a3 []] [.d tWorld, .d (.int .i64)]
theorem boxes_Put.eq (n : Nat) (a0 : (den tWorld)) (a1 : Int) (a2 : Int) (a3 : Int) : boxes_Put (n + 1) a0 a1 a2 a3 =
  Option.bind (boxes_first n a0 a2 a3 3 a0 a2 (1, a1, ()) a1 a3 5 a0 a3 6 a0 a3 a2 7 a0 a3 a2 8 a0 (2, a3, ()) 9) fun r1 =>
  bif (!(decide ((r1.1.1 : Int) = 0))) then
    some ((a0, (r1.1.1 : Int), ()), [])
  else
    Option.bind (hold_To n a0 a2 (2, a3, ())) fun r2 =>
    bif (keepAll r2.2 [((0, [3]), 7)]) then
      some (((r2.1.1.1, (r2.1.1.2.1 : (List Int)), (r2.1.1.2.2.1 : (List Int)), (r2.1.1.2.2.2.1 : (List (den tPlace))), ()), 0, ()), [(0, [3])])
    else
      none := by kernel_rfl
def boxes_Take_1.res : List Sh := [.d .bool]
@[reducible] def boxes_Take_1.R : Type := dShL [.d .bool] × Fresh
def boxes_Take_1 (n : Nat) (a0 : (den tWorld)) (a1 : Int) (a2 : Int) : Option boxes_Take_1.R := gc n 41 [.ref tWorld a0, .ref (.int .i64) a1, .ref (.int .i64) a2] [.d .bool]
theorem boxes_Take_1.eq (n : Nat) (a0 : (den tWorld)) (a1 : Int) (a2 : Int) : boxes_Take_1 (n + 1) a0 a1 a2 =
  Option.bind (boxes_none n a0 a1) fun r1 =>
  bif (r1.1.1 : Bool) then
    some ((true, ()), [])
  else
    Option.bind (boxes_none n a0 a2) fun r2 =>
    some (((r2.1.1 : Bool), ()), []) := by kernel_rfl
def boxes_Take_2.res : List Sh := [.d .bool]
@[reducible] def boxes_Take_2.R : Type := dShL [.d .bool] × Fresh
def boxes_Take_2 (n : Nat) (a0 : (den tWorld)) (a1 : Int) (a2 : Int) : Option boxes_Take_2.R := gc n 42 [.ref tWorld a0, .ref (.int .i64) a1, .ref (.int .i64) a2] [.d .bool]
theorem boxes_Take_2.eq (n : Nat) (a0 : (den tWorld)) (a1 : Int) (a2 : Int) : boxes_Take_2 (n + 1) a0 a1 a2 =
  Option.bind (boxes_Near n a0 a1 a2) fun r1 =>
  some (((!(r1.1.1 : Bool)), ()), []) := by kernel_rfl
def boxes_Take_3.res : List Sh := [.d .bool]
@[reducible] def boxes_Take_3.R : Type := dShL [.d .bool] × Fresh
def boxes_Take_3 (n : Nat) (a0 : (den tWorld)) (a1 : Int) : Option boxes_Take_3.R := gc n 43 [.ref tWorld a0, .ref (.int .i64) a1] [.d .bool]
theorem boxes_Take_3.eq (n : Nat) (a0 : (den tWorld)) (a1 : Int) : boxes_Take_3 (n + 1) a0 a1 =
  if (0 : Int) ≤ a1 ∧ a1 < (((List.length (a0.1.2.2.2.2.1 : (List Bool))) : Nat) : Int) then
  some (((!(List.getD (a0.1.2.2.2.2.1 : (List Bool)) (Int.toNat a1) false : Bool)), ()), [])
  else none := by kernel_rfl
def boxes_Take_4.res : List Sh := [.d .bool]
@[reducible] def boxes_Take_4.R : Type := dShL [.d .bool] × Fresh
def boxes_Take_4 (n : Nat) (a0 : (den tWorld)) (a1 : Int) (a2 : (den tPlace)) : Option boxes_Take_4.R := gc n 44 [.ref tWorld a0, .ref (.int .i64) a1, .ref tPlace a2] [.d .bool]
theorem boxes_Take_4.eq (n : Nat) (a0 : (den tWorld)) (a1 : Int) (a2 : (den tPlace)) : boxes_Take_4 (n + 1) a0 a1 a2 =
  if (0 : Int) ≤ a1 ∧ a1 < (((List.length (a0.2.2.2.1 : (List (den tPlace)))) : Nat) : Int) then
  some (((!(eqT tPlace (List.getD (a0.2.2.2.1 : (List (den tPlace))) (Int.toNat a1) (dft tPlace) : (den tPlace)) a2)), ()), [])
  else none := by kernel_rfl
def boxes_Take_5.res : List Sh := [.d .bool]
@[reducible] def boxes_Take_5.R : Type := dShL [.d .bool] × Fresh
def boxes_Take_5 (n : Nat) (a0 : (den tWorld)) (a1 : (den tPlace)) : Option boxes_Take_5.R := gc n 45 [.ref tWorld a0, .ref tPlace a1] [.d .bool]
theorem boxes_Take_5.eq (n : Nat) (a0 : (den tWorld)) (a1 : (den tPlace)) : boxes_Take_5 (n + 1) a0 a1 =
  Option.bind (tree_Room n a0 a1) fun r1 =>
  some (((decide ((r1.1.1 : Int) < 1)), ()), []) := by kernel_rfl
def boxes_first_v1.res : List Sh := [.d (.int .i64)]
@[reducible] def boxes_first_v1.R : Type := dShL [.d (.int .i64)] × Fresh
def boxes_first_v1 (n : Nat) (a0 : (den tWorld)) (a1 : Int) (a2 : Int) (a3 : Int) (a4 : (den tWorld)) (a5 : Int) (a6 : Int) (a7 : Int) (a8 : (den tWorld)) (a9 : Int) (a10 : Int) (a11 : (den tWorld)) (a12 : Int) (a13 : (den tPlace)) (a14 : Int) (a15 : (den tWorld)) (a16 : (den tPlace)) (a17 : Int) : Option boxes_first_v1.R := gc n 25 [.slv [.agv [.clo 41 [.ref tWorld a0, .ref (.int .i64) a1, .ref (.int .i64) a2], .dat (.int .i64) a3 []], .agv [.clo 42 [.ref tWorld a4, .ref (.int .i64) a5, .ref (.int .i64) a6], .dat (.int .i64) a7 []], .agv [.clo 43 [.ref tWorld a8, .ref (.int .i64) a9], .dat (.int .i64) a10 []], .agv [.clo 44 [.ref tWorld a11, .ref (.int .i64) a12, .ref tPlace a13], .dat (.int .i64) a14 []], .agv [.clo 45 [.ref tWorld a15, .ref tPlace a16], .dat (.int .i64) a17 []]]] [.d (.int .i64)]
theorem boxes_first_v1.eq (n : Nat) (a0 : (den tWorld)) (a1 : Int) (a2 : Int) (a3 : Int) (a4 : (den tWorld)) (a5 : Int) (a6 : Int) (a7 : Int) (a8 : (den tWorld)) (a9 : Int) (a10 : Int) (a11 : (den tWorld)) (a12 : Int) (a13 : (den tPlace)) (a14 : Int) (a15 : (den tWorld)) (a16 : (den tPlace)) (a17 : Int) : boxes_first_v1 (n + 14) a0 a1 a2 a3 a4 a5 a6 a7 a8 a9 a10 a11 a12 a13 a14 a15 a16 a17 =
  Option.bind (boxes_Take_1 (n + 13) a0 a1 a2) fun r1 =>
  bif (r1.1.1 : Bool) then
    some ((a3, ()), [])
  else
    Option.bind (boxes_Take_2 (n + 13) a4 a5 a6) fun r2 =>
    bif (r2.1.1 : Bool) then
      some ((a7, ()), [])
    else
      Option.bind (boxes_Take_3 (n + 13) a8 a9) fun r3 =>
      bif (r3.1.1 : Bool) then
        some ((a10, ()), [])
      else
        Option.bind (boxes_Take_4 (n + 13) a11 a12 a13) fun r4 =>
        bif (r4.1.1 : Bool) then
          some ((a14, ()), [])
        else
          Option.bind (boxes_Take_5 (n + 13) a15 a16) fun r5 =>
          bif (r5.1.1 : Bool) then
            some ((a17, ()), [])
          else
            some ((0, ()), []) := by kernel_rfl
def boxes_Take.res : List Sh := [.d tWorld, .d (.int .i64)]
@[reducible] def boxes_Take.R : Type := dShL [.d tWorld, .d (.int .i64)] × Fresh
def boxes_Take (n : Nat) (a0 : (den tWorld)) (a1 : Int) (a2 : Int) (a3 : Int) : Option boxes_Take.R := gc n 12 [.dat tWorld a0 [], .dat (.int .i64) a1 [], .dat (.int .i64) a2 [], .dat (.int .i64) a3 []] [.d tWorld, .d (.int .i64)]
theorem boxes_Take.eq (n : Nat) (a0 : (den tWorld)) (a1 : Int) (a2 : Int) (a3 : Int) : boxes_Take (n + 1) a0 a1 a2 a3 =
  Option.bind (boxes_first_v1 n a0 a2 a3 3 a0 a1 a3 5 a0 a3 6 a0 a2 (2, a3, ()) 5 a0 (1, a1, ()) 9) fun r1 =>
  bif (!(decide ((r1.1.1 : Int) = 0))) then
    some ((a0, (r1.1.1 : Int), ()), [])
  else
    Option.bind (hold_To n a0 a2 (1, a1, ())) fun r2 =>
    some ((r2.1.1, 0, ()), []) := by kernel_rfl
def innkeepref03_Ints.res : List Sh := [.d .bool]
@[reducible] def innkeepref03_Ints.R : Type := dShL [.d .bool] × Fresh
def innkeepref03_Ints (n : Nat) (a0 : (List Int)) (a1 : (List Int)) : Option innkeepref03_Ints.R := gc n 46 [.dat (.sl (.int .i64)) a0 [], .dat (.sl (.int .i64)) a1 []] [.d .bool]
def innkeepref03_Ints.l0 (n m0 : Nat) (t0 : (List Int)) (t1 : (List Int)) (t4 : Bool) (t5 : Int) : Option innkeepref03_Ints.R :=
  loopN (fun Kn K s h => run (gc n) n innkeepref03_Ints.c9 Kn K s h) m0 (kBlk 0 (kSeq (run (gc n) n) innkeepref03_Ints.c7 (retK innkeepref03_Ints.fn innkeepref03_Ints.res) (retK innkeepref03_Ints.fn innkeepref03_Ints.res)) (retK innkeepref03_Ints.fn innkeepref03_Ints.res))
    [(0, .dat (.sl (.int .i64)) t0 []), (1, .dat (.sl (.int .i64)) t1 []), (4, .dat .bool t4 []), (5, .dat (.int .i64) t5 [])]
    []
theorem innkeepref03_Ints.l0_eq (n m0 : Nat) (t0 : (List Int)) (t1 : (List Int)) (t4 : Bool) (t5 : Int) : innkeepref03_Ints.l0 n (m0 + 1) t0 t1 t4 t5 =
  bif (decide (t5 < ((List.length t0) : Int))) then
    if (0 : Int) ≤ t5 ∧ t5 < (((List.length t0) : Nat) : Int) then
    if (0 : Int) ≤ t5 ∧ t5 < (((List.length t1) : Nat) : Int) then
    bif (!(decide ((List.getD t0 (Int.toNat t5) (0 : Int) : Int) = (List.getD t1 (Int.toNat t5) (0 : Int) : Int)))) then
      some ((false, ()), [])
    else
      innkeepref03_Ints.l0 n m0 t0 t1 t4 (IntKind.wrap .i64 (t5 + 1))
    else none
    else none
  else
    some ((true, ()), []) := by kernel_rfl
theorem innkeepref03_Ints.eq (n : Nat) (a0 : (List Int)) (a1 : (List Int)) : innkeepref03_Ints (n + 1) a0 a1 =
  bif (!(decide (((List.length a0) : Int) = ((List.length a1) : Int)))) then
    some ((false, ()), [])
  else
    innkeepref03_Ints.l0 n n a0 a1 false 0 := by kernel_rfl
def innkeepref06_Places.res : List Sh := [.d .bool]
@[reducible] def innkeepref06_Places.R : Type := dShL [.d .bool] × Fresh
def innkeepref06_Places (n : Nat) (a0 : (List (den tPlace))) (a1 : (List (den tPlace))) : Option innkeepref06_Places.R := gc n 47 [.dat (.sl tPlace) a0 [], .dat (.sl tPlace) a1 []] [.d .bool]
def innkeepref06_Places.l0 (n m0 : Nat) (t0 : (List (den tPlace))) (t1 : (List (den tPlace))) (t4 : Bool) (t5 : Int) : Option innkeepref06_Places.R :=
  loopN (fun Kn K s h => run (gc n) n innkeepref06_Places.c9 Kn K s h) m0 (kBlk 0 (kSeq (run (gc n) n) innkeepref06_Places.c7 (retK innkeepref06_Places.fn innkeepref06_Places.res) (retK innkeepref06_Places.fn innkeepref06_Places.res)) (retK innkeepref06_Places.fn innkeepref06_Places.res))
    [(0, .dat (.sl tPlace) t0 []), (1, .dat (.sl tPlace) t1 []), (4, .dat .bool t4 []), (5, .dat (.int .i64) t5 [])]
    []
theorem innkeepref06_Places.l0_eq (n m0 : Nat) (t0 : (List (den tPlace))) (t1 : (List (den tPlace))) (t4 : Bool) (t5 : Int) : innkeepref06_Places.l0 n (m0 + 1) t0 t1 t4 t5 =
  bif (decide (t5 < ((List.length t0) : Int))) then
    if (0 : Int) ≤ t5 ∧ t5 < (((List.length t0) : Nat) : Int) then
    if (0 : Int) ≤ t5 ∧ t5 < (((List.length t1) : Nat) : Int) then
    bif (!(eqT tPlace (List.getD t0 (Int.toNat t5) (dft tPlace) : (den tPlace)) (List.getD t1 (Int.toNat t5) (dft tPlace) : (den tPlace)))) then
      some ((false, ()), [])
    else
      innkeepref06_Places.l0 n m0 t0 t1 t4 (IntKind.wrap .i64 (t5 + 1))
    else none
    else none
  else
    some ((true, ()), []) := by kernel_rfl
theorem innkeepref06_Places.eq (n : Nat) (a0 : (List (den tPlace))) (a1 : (List (den tPlace))) : innkeepref06_Places (n + 1) a0 a1 =
  bif (!(decide (((List.length a0) : Int) = ((List.length a1) : Int)))) then
    some ((false, ()), [])
  else
    innkeepref06_Places.l0 n n a0 a1 false 0 := by kernel_rfl
def innkeepref06_Same.res : List Sh := [.d .bool]
@[reducible] def innkeepref06_Same.R : Type := dShL [.d .bool] × Fresh
def innkeepref06_Same (n : Nat) (a0 : (den tWorld)) (a1 : (den tWorld)) : Option innkeepref06_Same.R := gc n 14 [.dat tWorld a0 [], .dat tWorld a1 []] [.d .bool]
def innkeepref06_Same.l0 (n m0 : Nat) (t0 : (den tWorld)) (t1 : (den tWorld)) (t4 : Bool) (t7 : Int) (o0 : (den tWorld)) (o1 : (den tWorld)) (o2 : (den tDesc)) (o3 : (den tDesc)) : Option innkeepref06_Same.R :=
  loopN (fun Kn K s h => run (gc n) n innkeepref06_Same.c13 Kn K s h) m0 (kBlk 0 (kSeq (run (gc n) n) innkeepref06_Same.c11 (retK innkeepref06_Same.fn innkeepref06_Same.res) (retK innkeepref06_Same.fn innkeepref06_Same.res)) (retK innkeepref06_Same.fn innkeepref06_Same.res))
    [(0, .dat tWorld t0 []), (1, .dat tWorld t1 []), (2, .ptr 0 []), (3, .ptr 1 []), (4, .dat .bool t4 []), (5, .ptr 2 []), (6, .ptr 3 []), (7, .dat (.int .i64) t7 [])]
    [.box tWorld o0 [], .box tWorld o1 [], .box tDesc o2 [], .box tDesc o3 []]
def innkeepref06_Same.l1 (n m0 : Nat) (t0_1 : (den tWorld)) (t1_1 : (den tWorld)) (t4_1 : Bool) (t7_1 : Int) (t8_1 : Int) (o0_1 : (den tWorld)) (o1_1 : (den tWorld)) (o2_1 : (den tDesc)) (o3_1 : (den tDesc)) : Option innkeepref06_Same.R :=
  loopN (fun Kn K s h => run (gc n) n innkeepref06_Same.c29 Kn K s h) m0 (kBlk 2 (kSeq (run (gc n) n) innkeepref06_Same.c27 (retK innkeepref06_Same.fn innkeepref06_Same.res) (retK innkeepref06_Same.fn innkeepref06_Same.res)) (retK innkeepref06_Same.fn innkeepref06_Same.res))
    [(0, .dat tWorld t0_1 []), (1, .dat tWorld t1_1 []), (2, .ptr 0 []), (3, .ptr 1 []), (4, .dat .bool t4_1 []), (5, .ptr 2 []), (6, .ptr 3 []), (7, .dat (.int .i64) t7_1 []), (8, .dat (.int .i64) t8_1 [])]
    [.box tWorld o0_1 [], .box tWorld o1_1 [], .box tDesc o2_1 [], .box tDesc o3_1 []]
theorem innkeepref06_Same.l0_eq (n m0 : Nat) (t0 : (den tWorld)) (t1 : (den tWorld)) (t4 : Bool) (t7 : Int) (o0 : (den tWorld)) (o1 : (den tWorld)) (o2 : (den tDesc)) (o3 : (den tDesc)) : innkeepref06_Same.l0 n (m0 + 1) t0 t1 t4 t7 o0 o1 o2 o3 =
  bif (decide (t7 < ((List.length (o2.1 : (List (List Int)))) : Int))) then
    if (0 : Int) ≤ t7 ∧ t7 < (((List.length (o2.1 : (List (List Int)))) : Nat) : Int) then
    if (0 : Int) ≤ t7 ∧ t7 < (((List.length (o3.1 : (List (List Int)))) : Nat) : Int) then
    bif (!(eqT (.arr 4 (.int .i64)) (List.getD (o2.1 : (List (List Int))) (Int.toNat t7) (dft (.arr 4 (.int .i64))) : (List Int)) (List.getD (o3.1 : (List (List Int))) (Int.toNat t7) (dft (.arr 4 (.int .i64))) : (List Int)))) then
      some ((false, ()), [])
    else
      innkeepref06_Same.l0 n m0 t0 t1 t4 (IntKind.wrap .i64 (t7 + 1)) o0 o1 o2 o3
    else none
    else none
  else
    innkeepref06_Same.l1 n n t0 t1 t4 t7 0 o0 o1 o2 o3 := by kernel_rfl
theorem innkeepref06_Same.l1_eq (n m0 : Nat) (t0_1 : (den tWorld)) (t1_1 : (den tWorld)) (t4_1 : Bool) (t7_1 : Int) (t8_1 : Int) (o0_1 : (den tWorld)) (o1_1 : (den tWorld)) (o2_1 : (den tDesc)) (o3_1 : (den tDesc)) : innkeepref06_Same.l1 n (m0 + 1) t0_1 t1_1 t4_1 t7_1 t8_1 o0_1 o1_1 o2_1 o3_1 =
  bif (decide (t8_1 < ((List.length (o2_1.2.2.2.2.1 : (List Bool))) : Int))) then
    if (0 : Int) ≤ t8_1 ∧ t8_1 < (((List.length (o2_1.2.2.2.2.1 : (List Bool))) : Nat) : Int) then
    if (0 : Int) ≤ t8_1 ∧ t8_1 < (((List.length (o3_1.2.2.2.2.1 : (List Bool))) : Nat) : Int) then
    bif (!(eqT .bool (List.getD (o2_1.2.2.2.2.1 : (List Bool)) (Int.toNat t8_1) false : Bool) (List.getD (o3_1.2.2.2.2.1 : (List Bool)) (Int.toNat t8_1) false : Bool))) then
      some ((false, ()), [])
    else
      innkeepref06_Same.l1 n m0 t0_1 t1_1 t4_1 t7_1 (IntKind.wrap .i64 (t8_1 + 1)) o0_1 o1_1 o2_1 o3_1
    else none
    else none
  else
    Option.bind (innkeepref03_Ints n (o2_1.2.1 : (List Int)) (o3_1.2.1 : (List Int))) fun r1 =>
    bif (r1.1.1 : Bool) then
      Option.bind (innkeepref03_Ints n (o2_1.2.2.1 : (List Int)) (o3_1.2.2.1 : (List Int))) fun r2 =>
      bif (r2.1.1 : Bool) then
        Option.bind (innkeepref03_Ints n (o2_1.2.2.2.1 : (List Int)) (o3_1.2.2.2.1 : (List Int))) fun r3 =>
        bif (r3.1.1 : Bool) then
          Option.bind (innkeepref03_Ints n (o0_1.2.1 : (List Int)) (o1_1.2.1 : (List Int))) fun r4 =>
          bif (r4.1.1 : Bool) then
            Option.bind (innkeepref03_Ints n (o0_1.2.2.1 : (List Int)) (o1_1.2.2.1 : (List Int))) fun r5 =>
            bif (r5.1.1 : Bool) then
              Option.bind (innkeepref06_Places n (o0_1.2.2.2.1 : (List (den tPlace))) (o1_1.2.2.2.1 : (List (den tPlace)))) fun r6 =>
              some (((r6.1.1 : Bool), ()), [])
            else
              some ((false, ()), [])
          else
            some ((false, ()), [])
        else
          some ((false, ()), [])
      else
        some ((false, ()), [])
    else
      some ((false, ()), []) := by kernel_rfl
theorem innkeepref06_Same.eq (n : Nat) (a0 : (den tWorld)) (a1 : (den tWorld)) : innkeepref06_Same (n + 1) a0 a1 =
  bif (!(decide ((a0.1.2.2.2.2.2.1 : Int) = (a1.1.2.2.2.2.2.1 : Int)))) then
    some ((false, ()), [])
  else
    bif (!(decide ((a0.1.2.2.2.2.2.2.1 : Int) = (a1.1.2.2.2.2.2.2.1 : Int)))) then
      some ((false, ()), [])
    else
      bif (!(decide ((a0.1.2.2.2.2.2.2.2.1 : Int) = (a1.1.2.2.2.2.2.2.2.1 : Int)))) then
        some ((false, ()), [])
      else
        bif (!(decide (((List.length (a0.1.1 : (List (List Int)))) : Int) = ((List.length (a1.1.1 : (List (List Int)))) : Int)))) then
          some ((false, ()), [])
        else
          bif (!(decide (((List.length (a0.1.2.2.2.2.1 : (List Bool))) : Int) = ((List.length (a1.1.2.2.2.2.1 : (List Bool))) : Int)))) then
            some ((false, ()), [])
          else
            innkeepref06_Same.l0 n n a0 a1 false 0 a0 a1 a0.1 a1.1 := by kernel_rfl
def innkeeplaw10_awake.res : List Sh := [.d .bool]
@[reducible] def innkeeplaw10_awake.R : Type := dShL [.d .bool] × Fresh
def innkeeplaw10_awake (n : Nat) : Option innkeeplaw10_awake.R := gc n 8 [] [.d .bool]
theorem innkeeplaw10_awake.eq (n : Nat) : innkeeplaw10_awake (n + 1) =
  Option.bind (innkeepref06_New n ((List.replicate 2 (dft (.arr 4 (.int .i64)))), ([0, 1] : List Int), ([5, 5] : List Int), ([0, 0, 1, 0] : List Int), ([true, false, true, true] : List Bool), 4, 3, 1, ())) fun r1 =>
  bif (keepAll r1.2 [((0, [3]), 14)]) then
    if (0 : Int) ≤ 1 ∧ 1 < (((List.length (r1.1.1.2.2.2.1 : (List (den tPlace)))) : Nat) : Int) then
    if (0 : Int) ≤ 3 ∧ 3 < (((List.length (List.set (r1.1.1.2.2.2.1 : (List (den tPlace))) 1 (1, 0, ()) : (List (den tPlace)))) : Nat) : Int) then
    Option.bind (boxes_Put n (r1.1.1.1, (r1.1.1.2.1 : (List Int)), (r1.1.1.2.2.1 : (List Int)), (List.set (List.set (r1.1.1.2.2.2.1 : (List (den tPlace))) 1 (1, 0, ()) : (List (den tPlace))) 3 (1, 0, ()) : (List (den tPlace))), ()) 0 1 0) fun r2 =>
    Option.bind (boxes_Put n r2.1.1 0 3 0) fun r3 =>
    Option.bind (boxes_Put n (r1.1.1.1, (r1.1.1.2.1 : (List Int)), (r1.1.1.2.2.1 : (List Int)), (List.set (List.set (r1.1.1.2.2.2.1 : (List (den tPlace))) 1 (1, 0, ()) : (List (den tPlace))) 3 (1, 0, ()) : (List (den tPlace))), ()) 0 3 3) fun r4 =>
    Option.bind (boxes_Put n (r1.1.1.1, (r1.1.1.2.1 : (List Int)), (r1.1.1.2.2.1 : (List Int)), (List.set (List.set (r1.1.1.2.2.2.1 : (List (den tPlace))) 1 (1, 0, ()) : (List (den tPlace))) 3 (1, 0, ()) : (List (den tPlace))), ()) 0 3 1) fun r5 =>
    Option.bind (boxes_Put n (r1.1.1.1, (r1.1.1.2.1 : (List Int)), (r1.1.1.2.2.1 : (List Int)), (List.set (List.set (r1.1.1.2.2.2.1 : (List (den tPlace))) 1 (1, 0, ()) : (List (den tPlace))) 3 (1, 0, ()) : (List (den tPlace))), ()) 0 1 2) fun r6 =>
    Option.bind (boxes_Take n r2.1.1 0 1 0) fun r7 =>
    Option.bind (boxes_Take n r2.1.1 0 1 3) fun r8 =>
    Option.bind (boxes_Take n r2.1.1 1 1 0) fun r9 =>
    bif (decide ((r2.1.2.1 : Int) = 0)) then
      bif (decide (((List.length (r2.1.1.2.2.2.1 : (List (den tPlace)))) : Int) = 4)) then
        if (0 : Int) ≤ 1 ∧ 1 < (((List.length (r2.1.1.2.2.2.1 : (List (den tPlace)))) : Nat) : Int) then
        bif (eqT tPlace (List.getD (r2.1.1.2.2.2.1 : (List (den tPlace))) 1 (dft tPlace) : (den tPlace)) (2, 0, ())) then
          bif (decide ((r3.1.2.1 : Int) = 9)) then
            bif (decide ((r4.1.2.1 : Int) = 7)) then
              bif (decide ((r5.1.2.1 : Int) = 6)) then
                bif (decide ((r6.1.2.1 : Int) = 5)) then
                  bif (decide ((r7.1.2.1 : Int) = 0)) then
                    Option.bind (innkeepref06_Same n r7.1.1 (r1.1.1.1, (r1.1.1.2.1 : (List Int)), (r1.1.1.2.2.1 : (List Int)), (List.set (List.set (r1.1.1.2.2.2.1 : (List (den tPlace))) 1 (1, 0, ()) : (List (den tPlace))) 3 (1, 0, ()) : (List (den tPlace))), ())) fun r10 =>
                    bif (r10.1.1 : Bool) then
                      bif (decide ((r8.1.2.1 : Int) = 5)) then
                        bif (decide ((r9.1.2.1 : Int) = 5)) then
                          Option.bind (boxes_Near n (r1.1.1.1, (r1.1.1.2.1 : (List Int)), (r1.1.1.2.2.1 : (List Int)), (List.set (List.set (r1.1.1.2.2.2.1 : (List (den tPlace))) 1 (1, 0, ()) : (List (den tPlace))) 3 (1, 0, ()) : (List (den tPlace))), ()) 0 0) fun r11 =>
                          bif (r11.1.1 : Bool) then
                            Option.bind (boxes_Near n (r1.1.1.1, (r1.1.1.2.1 : (List Int)), (r1.1.1.2.2.1 : (List Int)), (List.set (List.set (r1.1.1.2.2.2.1 : (List (den tPlace))) 1 (1, 0, ()) : (List (den tPlace))) 3 (1, 0, ()) : (List (den tPlace))), ()) 1 0) fun r12 =>
                            some (((!(r12.1.1 : Bool)), ()), [])
                          else
                            some ((false, ()), [])
                        else
                          some ((false, ()), [])
                      else
                        some ((false, ()), [])
                    else
                      some ((false, ()), [])
                  else
                    some ((false, ()), [])
                else
                  some ((false, ()), [])
              else
                some ((false, ()), [])
            else
              some ((false, ()), [])
          else
            some ((false, ()), [])
        else
          some ((false, ()), [])
        else none
      else
        some ((false, ()), [])
    else
      some ((false, ()), [])
    else none
    else none
  else
    none := by kernel_rfl
def innkeepref06_Few.res : List Sh := [.d .bool]
@[reducible] def innkeepref06_Few.R : Type := dShL [.d .bool] × Fresh
def innkeepref06_Few (n : Nat) (a0 : (den tWorld)) : Option innkeepref06_Few.R := gc n 24 [.dat tWorld a0 []] [.d .bool]
theorem innkeepref06_Few.eq (n : Nat) (a0 : (den tWorld)) : innkeepref06_Few (n + 1) a0 =
  bif (decide (((List.length (a0.1.1 : (List (List Int)))) : Int) ≤ 20)) then
    bif (decide (((List.length (a0.1.2.1 : (List Int))) : Int) ≤ 20)) then
      bif (decide (((List.length (a0.1.2.2.1 : (List Int))) : Int) ≤ 20)) then
        bif (decide (((List.length (a0.1.2.2.2.1 : (List Int))) : Int) ≤ 40)) then
          bif (decide (((List.length (a0.1.2.2.2.2.1 : (List Bool))) : Int) ≤ 40)) then
            bif (decide (((List.length (a0.2.1 : (List Int))) : Int) ≤ 40)) then
              bif (decide (((List.length (a0.2.2.1 : (List Int))) : Int) ≤ 40)) then
                some (((decide (((List.length (a0.2.2.2.1 : (List (den tPlace)))) : Int) ≤ 40)), ()), [])
              else
                some ((false, ()), [])
            else
              some ((false, ()), [])
          else
            some ((false, ()), [])
        else
          some ((false, ()), [])
      else
        some ((false, ()), [])
    else
      some ((false, ()), [])
  else
    some ((false, ()), []) := by kernel_rfl
def innkeepref06_in.res : List Sh := [.d .bool]
@[reducible] def innkeepref06_in.R : Type := dShL [.d .bool] × Fresh
def innkeepref06_in (n : Nat) (a0 : Int) (a1 : Int) : Option innkeepref06_in.R := gc n 50 [.dat (.int .i64) a0 [], .dat (.int .i64) a1 []] [.d .bool]
theorem innkeepref06_in.eq (n : Nat) (a0 : Int) (a1 : Int) : innkeepref06_in (n + 1) a0 a1 =
  bif (decide (0 ≤ a0)) then
    some (((decide (a0 < a1)), ()), [])
  else
    some ((false, ()), []) := by kernel_rfl
def innkeepref01_Is.res : List Sh := [.d .bool]
@[reducible] def innkeepref01_Is.R : Type := dShL [.d .bool] × Fresh
def innkeepref01_Is (n : Nat) (a0 : Int) : Option innkeepref01_Is.R := gc n 51 [.dat (.int .i64) a0 []] [.d .bool]
theorem innkeepref01_Is.eq (n : Nat) (a0 : Int) : innkeepref01_Is (n + 1) a0 =
  bif (decide (0 ≤ a0)) then
    some (((decide (a0 ≤ 1073741824)), ()), [])
  else
    some ((false, ()), []) := by kernel_rfl
def innkeepref06_May.res : List Sh := [.d .bool]
@[reducible] def innkeepref06_May.R : Type := dShL [.d .bool] × Fresh
def innkeepref06_May (n : Nat) (a0 : (den tDesc)) : Option innkeepref06_May.R := gc n 49 [.dat tDesc a0 []] [.d .bool]
def innkeepref06_May.l0 (n m0 : Nat) (t0 : (den tDesc)) (t2 : Bool) (t3 : Int) (t4 : Int) (o0 : (den tDesc)) : Option innkeepref06_May.R :=
  loopN (fun Kn K s h => run (gc n) n innkeepref06_May.c17 Kn K s h) m0 (kBlk 0 (kSeq (run (gc n) n) innkeepref06_May.c15 (retK innkeepref06_May.fn innkeepref06_May.res) (retK innkeepref06_May.fn innkeepref06_May.res)) (retK innkeepref06_May.fn innkeepref06_May.res))
    [(0, .dat tDesc t0 []), (1, .ptr 0 []), (2, .dat .bool t2 []), (3, .dat (.int .i64) t3 []), (4, .dat (.int .i64) t4 [])]
    [.box tDesc o0 []]
def innkeepref06_May.l1 (n m0 m1 : Nat) (t0_1 : (den tDesc)) (t2_1 : Bool) (t3_1 : Int) (t4_1 : Int) (t5_1 : Int) (o0_1 : (den tDesc)) : Option innkeepref06_May.R :=
  loopN (fun Kn K s h => run (gc n) n innkeepref06_May.c26 Kn K s h) m1 (kBlk 2 (kSeq (run (gc n) n) innkeepref06_May.c24 (kSeq (run (gc n) n) innkeepref06_May.c23 (kSeq (run (gc n) n) innkeepref06_May.c18 (fun _ s h => loopN (fun Kn K s h => run (gc n) n innkeepref06_May.c17 Kn K s h) m0 (kBlk 0 (kSeq (run (gc n) n) innkeepref06_May.c15 (retK innkeepref06_May.fn innkeepref06_May.res) (retK innkeepref06_May.fn innkeepref06_May.res)) (retK innkeepref06_May.fn innkeepref06_May.res)) s h) (kBlk 0 (kSeq (run (gc n) n) innkeepref06_May.c15 (retK innkeepref06_May.fn innkeepref06_May.res) (retK innkeepref06_May.fn innkeepref06_May.res)) (retK innkeepref06_May.fn innkeepref06_May.res))) (kBlk 0 (kSeq (run (gc n) n) innkeepref06_May.c15 (retK innkeepref06_May.fn innkeepref06_May.res) (retK innkeepref06_May.fn innkeepref06_May.res)) (retK innkeepref06_May.fn innkeepref06_May.res))) (kBlk 1 (kSeq (run (gc n) n) innkeepref06_May.c23 (kSeq (run (gc n) n) innkeepref06_May.c18 (fun _ s h => loopN (fun Kn K s h => run (gc n) n innkeepref06_May.c17 Kn K s h) m0 (kBlk 0 (kSeq (run (gc n) n) innkeepref06_May.c15 (retK innkeepref06_May.fn innkeepref06_May.res) (retK innkeepref06_May.fn innkeepref06_May.res)) (retK innkeepref06_May.fn innkeepref06_May.res)) s h) (kBlk 0 (kSeq (run (gc n) n) innkeepref06_May.c15 (retK innkeepref06_May.fn innkeepref06_May.res) (retK innkeepref06_May.fn innkeepref06_May.res)) (retK innkeepref06_May.fn innkeepref06_May.res))) (kBlk 0 (kSeq (run (gc n) n) innkeepref06_May.c15 (retK innkeepref06_May.fn innkeepref06_May.res) (retK innkeepref06_May.fn innkeepref06_May.res)) (retK innkeepref06_May.fn innkeepref06_May.res))) (kBlk 0 (kSeq (run (gc n) n) innkeepref06_May.c15 (retK innkeepref06_May.fn innkeepref06_May.res) (retK innkeepref06_May.fn innkeepref06_May.res)) (retK innkeepref06_May.fn innkeepref06_May.res)))) (kBlk 1 (kSeq (run (gc n) n) innkeepref06_May.c23 (kSeq (run (gc n) n) innkeepref06_May.c18 (fun _ s h => loopN (fun Kn K s h => run (gc n) n innkeepref06_May.c17 Kn K s h) m0 (kBlk 0 (kSeq (run (gc n) n) innkeepref06_May.c15 (retK innkeepref06_May.fn innkeepref06_May.res) (retK innkeepref06_May.fn innkeepref06_May.res)) (retK innkeepref06_May.fn innkeepref06_May.res)) s h) (kBlk 0 (kSeq (run (gc n) n) innkeepref06_May.c15 (retK innkeepref06_May.fn innkeepref06_May.res) (retK innkeepref06_May.fn innkeepref06_May.res)) (retK innkeepref06_May.fn innkeepref06_May.res))) (kBlk 0 (kSeq (run (gc n) n) innkeepref06_May.c15 (retK innkeepref06_May.fn innkeepref06_May.res) (retK innkeepref06_May.fn innkeepref06_May.res)) (retK innkeepref06_May.fn innkeepref06_May.res))) (kBlk 0 (kSeq (run (gc n) n) innkeepref06_May.c15 (retK innkeepref06_May.fn innkeepref06_May.res) (retK innkeepref06_May.fn innkeepref06_May.res)) (retK innkeepref06_May.fn innkeepref06_May.res))))
    [(0, .dat tDesc t0_1 []), (1, .ptr 0 []), (2, .dat .bool t2_1 []), (3, .dat (.int .i64) t3_1 []), (4, .dat (.int .i64) t4_1 []), (5, .dat (.int .i64) t5_1 [])]
    [.box tDesc o0_1 []]
def innkeepref06_May.l2 (n m0 m1 : Nat) (t0_2 : (den tDesc)) (t2_2 : Bool) (t3_2 : Int) (t4_2 : Int) (t5_2 : Int) (t6_2 : Int) (t7_2 : Int) (o0_2 : (den tDesc)) : Option innkeepref06_May.R :=
  loopN (fun Kn K s h => run (gc n) n innkeepref06_May.c43 Kn K s h) m1 (kBlk 4 (kSeq (run (gc n) n) innkeepref06_May.c41 (kSeq (run (gc n) n) innkeepref06_May.c23 (kSeq (run (gc n) n) innkeepref06_May.c18 (fun _ s h => loopN (fun Kn K s h => run (gc n) n innkeepref06_May.c17 Kn K s h) m0 (kBlk 0 (kSeq (run (gc n) n) innkeepref06_May.c15 (retK innkeepref06_May.fn innkeepref06_May.res) (retK innkeepref06_May.fn innkeepref06_May.res)) (retK innkeepref06_May.fn innkeepref06_May.res)) s h) (kBlk 0 (kSeq (run (gc n) n) innkeepref06_May.c15 (retK innkeepref06_May.fn innkeepref06_May.res) (retK innkeepref06_May.fn innkeepref06_May.res)) (retK innkeepref06_May.fn innkeepref06_May.res))) (kBlk 0 (kSeq (run (gc n) n) innkeepref06_May.c15 (retK innkeepref06_May.fn innkeepref06_May.res) (retK innkeepref06_May.fn innkeepref06_May.res)) (retK innkeepref06_May.fn innkeepref06_May.res))) (kBlk 1 (kSeq (run (gc n) n) innkeepref06_May.c23 (kSeq (run (gc n) n) innkeepref06_May.c18 (fun _ s h => loopN (fun Kn K s h => run (gc n) n innkeepref06_May.c17 Kn K s h) m0 (kBlk 0 (kSeq (run (gc n) n) innkeepref06_May.c15 (retK innkeepref06_May.fn innkeepref06_May.res) (retK innkeepref06_May.fn innkeepref06_May.res)) (retK innkeepref06_May.fn innkeepref06_May.res)) s h) (kBlk 0 (kSeq (run (gc n) n) innkeepref06_May.c15 (retK innkeepref06_May.fn innkeepref06_May.res) (retK innkeepref06_May.fn innkeepref06_May.res)) (retK innkeepref06_May.fn innkeepref06_May.res))) (kBlk 0 (kSeq (run (gc n) n) innkeepref06_May.c15 (retK innkeepref06_May.fn innkeepref06_May.res) (retK innkeepref06_May.fn innkeepref06_May.res)) (retK innkeepref06_May.fn innkeepref06_May.res))) (kBlk 0 (kSeq (run (gc n) n) innkeepref06_May.c15 (retK innkeepref06_May.fn innkeepref06_May.res) (retK innkeepref06_May.fn innkeepref06_May.res)) (retK innkeepref06_May.fn innkeepref06_May.res)))) (kBlk 1 (kSeq (run (gc n) n) innkeepref06_May.c23 (kSeq (run (gc n) n) innkeepref06_May.c18 (fun _ s h => loopN (fun Kn K s h => run (gc n) n innkeepref06_May.c17 Kn K s h) m0 (kBlk 0 (kSeq (run (gc n) n) innkeepref06_May.c15 (retK innkeepref06_May.fn innkeepref06_May.res) (retK innkeepref06_May.fn innkeepref06_May.res)) (retK innkeepref06_May.fn innkeepref06_May.res)) s h) (kBlk 0 (kSeq (run (gc n) n) innkeepref06_May.c15 (retK innkeepref06_May.fn innkeepref06_May.res) (retK innkeepref06_May.fn innkeepref06_May.res)) (retK innkeepref06_May.fn innkeepref06_May.res))) (kBlk 0 (kSeq (run (gc n) n) innkeepref06_May.c15 (retK innkeepref06_May.fn innkeepref06_May.res) (retK innkeepref06_May.fn innkeepref06_May.res)) (retK innkeepref06_May.fn innkeepref06_May.res))) (kBlk 0 (kSeq (run (gc n) n) innkeepref06_May.c15 (retK innkeepref06_May.fn innkeepref06_May.res) (retK innkeepref06_May.fn innkeepref06_May.res)) (retK innkeepref06_May.fn innkeepref06_May.res))))
    [(0, .dat tDesc t0_2 []), (1, .ptr 0 []), (2, .dat .bool t2_2 []), (3, .dat (.int .i64) t3_2 []), (4, .dat (.int .i64) t4_2 []), (5, .dat (.int .i64) t5_2 []), (6, .dat (.int .i64) t6_2 []), (7, .dat (.int .i64) t7_2 [])]
    [.box tDesc o0_2 []]
def innkeepref06_May.l3 (n m0 : Nat) (t0_3 : (den tDesc)) (t2_3 : Bool) (t3_3 : Int) (t4_3 : Int) (t8_3 : Int) (o0_3 : (den tDesc)) : Option innkeepref06_May.R :=
  loopN (fun Kn K s h => run (gc n) n innkeepref06_May.c66 Kn K s h) m0 (kBlk 6 (kSeq (run (gc n) n) innkeepref06_May.c64 (retK innkeepref06_May.fn innkeepref06_May.res) (retK innkeepref06_May.fn innkeepref06_May.res)) (retK innkeepref06_May.fn innkeepref06_May.res))
    [(0, .dat tDesc t0_3 []), (1, .ptr 0 []), (2, .dat .bool t2_3 []), (3, .dat (.int .i64) t3_3 []), (4, .dat (.int .i64) t4_3 []), (8, .dat (.int .i64) t8_3 [])]
    [.box tDesc o0_3 []]
def innkeepref06_May.l4 (n m0 : Nat) (t0_4 : (den tDesc)) (t2_4 : Bool) (t3_4 : Int) (t4_4 : Int) (t8_4 : Int) (t9_4 : Int) (o0_4 : (den tDesc)) : Option innkeepref06_May.R :=
  loopN (fun Kn K s h => run (gc n) n innkeepref06_May.c82 Kn K s h) m0 (kBlk 8 (kSeq (run (gc n) n) innkeepref06_May.c80 (retK innkeepref06_May.fn innkeepref06_May.res) (retK innkeepref06_May.fn innkeepref06_May.res)) (retK innkeepref06_May.fn innkeepref06_May.res))
    [(0, .dat tDesc t0_4 []), (1, .ptr 0 []), (2, .dat .bool t2_4 []), (3, .dat (.int .i64) t3_4 []), (4, .dat (.int .i64) t4_4 []), (8, .dat (.int .i64) t8_4 []), (9, .dat (.int .i64) t9_4 [])]
    [.box tDesc o0_4 []]
theorem innkeepref06_May.l0_eq (n m0 : Nat) (t0 : (den tDesc)) (t2 : Bool) (t3 : Int) (t4 : Int) (o0 : (den tDesc)) : innkeepref06_May.l0 n (m0 + 1) t0 t2 t3 t4 o0 =
  bif (decide (t4 < t3)) then
    innkeepref06_May.l1 n m0 n t0 t2 t3 t4 0 o0
  else
    innkeepref06_May.l3 n n t0 t2 t3 t4 0 o0 := by kernel_rfl
theorem innkeepref06_May.l1_eq (n m0 m1 : Nat) (t0_1 : (den tDesc)) (t2_1 : Bool) (t3_1 : Int) (t4_1 : Int) (t5_1 : Int) (o0_1 : (den tDesc)) : innkeepref06_May.l1 n m0 (m1 + 1) t0_1 t2_1 t3_1 t4_1 t5_1 o0_1 =
  bif (decide (t5_1 < 4)) then
    if (0 : Int) ≤ t4_1 ∧ t4_1 < (((List.length (o0_1.1 : (List (List Int)))) : Nat) : Int) then
    if (0 : Int) ≤ t5_1 ∧ t5_1 < ((4 : Nat) : Int) then
    bif (!(decide ((List.getD (List.getD (o0_1.1 : (List (List Int))) (Int.toNat t4_1) (dft (.arr 4 (.int .i64))) : (List Int)) (Int.toNat t5_1) (0 : Int) : Int) = (-1)))) then
      if (0 : Int) ≤ t4_1 ∧ t4_1 < (((List.length (o0_1.1 : (List (List Int)))) : Nat) : Int) then
      if (0 : Int) ≤ t5_1 ∧ t5_1 < ((4 : Nat) : Int) then
      Option.bind (innkeepref06_in n (List.getD (List.getD (o0_1.1 : (List (List Int))) (Int.toNat t4_1) (dft (.arr 4 (.int .i64))) : (List Int)) (Int.toNat t5_1) (0 : Int) : Int) t3_1) fun r4 =>
      bif (!(r4.1.1 : Bool)) then
        some ((false, ()), [])
      else
        innkeepref06_May.l1 n m0 m1 t0_1 t2_1 t3_1 t4_1 (IntKind.wrap .i64 (t5_1 + 1)) o0_1
      else none
      else none
    else
      innkeepref06_May.l1 n m0 m1 t0_1 t2_1 t3_1 t4_1 (IntKind.wrap .i64 (t5_1 + 1)) o0_1
    else none
    else none
  else
    innkeepref06_May.l2 n m0 n t0_1 t2_1 t3_1 t4_1 t5_1 0 0 o0_1 := by kernel_rfl
theorem innkeepref06_May.l2_eq (n m0 m1 : Nat) (t0_2 : (den tDesc)) (t2_2 : Bool) (t3_2 : Int) (t4_2 : Int) (t5_2 : Int) (t6_2 : Int) (t7_2 : Int) (o0_2 : (den tDesc)) : innkeepref06_May.l2 n m0 (m1 + 1) t0_2 t2_2 t3_2 t4_2 t5_2 t6_2 t7_2 o0_2 =
  bif (decide (t7_2 < ((List.length (o0_2.2.2.2.1 : (List Int))) : Int))) then
    if (0 : Int) ≤ t7_2 ∧ t7_2 < (((List.length (o0_2.2.2.2.1 : (List Int))) : Nat) : Int) then
    bif (decide ((List.getD (o0_2.2.2.2.1 : (List Int)) (Int.toNat t7_2) (0 : Int) : Int) = t4_2)) then
      innkeepref06_May.l2 n m0 m1 t0_2 t2_2 t3_2 t4_2 t5_2 (IntKind.wrap .i64 (t6_2 + 1)) (IntKind.wrap .i64 (t7_2 + 1)) o0_2
    else
      innkeepref06_May.l2 n m0 m1 t0_2 t2_2 t3_2 t4_2 t5_2 t6_2 (IntKind.wrap .i64 (t7_2 + 1)) o0_2
    else none
  else
    bif (decide ((o0_2.2.2.2.2.2.1 : Int) < t6_2)) then
      some ((false, ()), [])
    else
      innkeepref06_May.l0 n m0 t0_2 t2_2 t3_2 (IntKind.wrap .i64 (t4_2 + 1)) o0_2 := by kernel_rfl
theorem innkeepref06_May.l3_eq (n m0 : Nat) (t0_3 : (den tDesc)) (t2_3 : Bool) (t3_3 : Int) (t4_3 : Int) (t8_3 : Int) (o0_3 : (den tDesc)) : innkeepref06_May.l3 n (m0 + 1) t0_3 t2_3 t3_3 t4_3 t8_3 o0_3 =
  bif (decide (t8_3 < ((List.length (o0_3.2.1 : (List Int))) : Int))) then
    if (0 : Int) ≤ t8_3 ∧ t8_3 < (((List.length (o0_3.2.1 : (List Int))) : Nat) : Int) then
    Option.bind (innkeepref06_in n (List.getD (o0_3.2.1 : (List Int)) (Int.toNat t8_3) (0 : Int) : Int) t3_3) fun r5 =>
    bif (!(r5.1.1 : Bool)) then
      some ((false, ()), [])
    else
      if (0 : Int) ≤ t8_3 ∧ t8_3 < (((List.length (o0_3.2.2.1 : (List Int))) : Nat) : Int) then
      Option.bind (innkeepref01_Is n (List.getD (o0_3.2.2.1 : (List Int)) (Int.toNat t8_3) (0 : Int) : Int)) fun r6 =>
      bif (!(r6.1.1 : Bool)) then
        some ((false, ()), [])
      else
        innkeepref06_May.l3 n m0 t0_3 t2_3 t3_3 t4_3 (IntKind.wrap .i64 (t8_3 + 1)) o0_3
      else none
    else none
  else
    innkeepref06_May.l4 n n t0_3 t2_3 t3_3 t4_3 t8_3 0 o0_3 := by kernel_rfl
theorem innkeepref06_May.l4_eq (n m0 : Nat) (t0_4 : (den tDesc)) (t2_4 : Bool) (t3_4 : Int) (t4_4 : Int) (t8_4 : Int) (t9_4 : Int) (o0_4 : (den tDesc)) : innkeepref06_May.l4 n (m0 + 1) t0_4 t2_4 t3_4 t4_4 t8_4 t9_4 o0_4 =
  bif (decide (t9_4 < ((List.length (o0_4.2.2.2.1 : (List Int))) : Int))) then
    if (0 : Int) ≤ t9_4 ∧ t9_4 < (((List.length (o0_4.2.2.2.1 : (List Int))) : Nat) : Int) then
    Option.bind (innkeepref06_in n (List.getD (o0_4.2.2.2.1 : (List Int)) (Int.toNat t9_4) (0 : Int) : Int) t3_4) fun r7 =>
    bif (!(r7.1.1 : Bool)) then
      some ((false, ()), [])
    else
      innkeepref06_May.l4 n m0 t0_4 t2_4 t3_4 t4_4 t8_4 (IntKind.wrap .i64 (t9_4 + 1)) o0_4
    else none
  else
    some ((true, ()), []) := by kernel_rfl
theorem innkeepref06_May.eq (n : Nat) (a0 : (den tDesc)) : innkeepref06_May (n + 1) a0 =
  bif (decide (((List.length (a0.1 : (List (List Int)))) : Int) < 1)) then
    some ((false, ()), [])
  else
    bif (decide (8 < ((List.length (a0.1 : (List (List Int)))) : Int))) then
      some ((false, ()), [])
    else
      bif (decide (((List.length (a0.2.1 : (List Int))) : Int) < 1)) then
        some ((false, ()), [])
      else
        bif (decide (6 < ((List.length (a0.2.1 : (List Int))) : Int))) then
          some ((false, ()), [])
        else
          bif (!(decide (((List.length (a0.2.2.1 : (List Int))) : Int) = ((List.length (a0.2.1 : (List Int))) : Int)))) then
            some ((false, ()), [])
          else
            bif (decide (16 < ((List.length (a0.2.2.2.1 : (List Int))) : Int))) then
              some ((false, ()), [])
            else
              bif (!(decide (((List.length (a0.2.2.2.2.1 : (List Bool))) : Int) = ((List.length (a0.2.2.2.1 : (List Int))) : Int)))) then
                some ((false, ()), [])
              else
                Option.bind (innkeepref06_in n (a0.2.2.2.2.2.1 : Int) 65) fun r1 =>
                bif (!(r1.1.1 : Bool)) then
                  some ((false, ()), [])
                else
                  Option.bind (innkeepref06_in n (a0.2.2.2.2.2.2.1 : Int) 65) fun r2 =>
                  bif (!(r2.1.1 : Bool)) then
                    some ((false, ()), [])
                  else
                    Option.bind (innkeepref06_in n (a0.2.2.2.2.2.2.2.1 : Int) 65) fun r3 =>
                    bif (!(r3.1.1 : Bool)) then
                      some ((false, ()), [])
                    else
                      innkeepref06_May.l0 n n a0 false ((List.length (a0.1 : (List (List Int)))) : Int) 0 a0 := by kernel_rfl
def innkeepref06_Depth.res : List Sh := [.d (.int .i64)]
@[reducible] def innkeepref06_Depth.R : Type := dShL [.d (.int .i64)] × Fresh
def innkeepref06_Depth (n : Nat) (a0 : (den tWorld)) (a1 : (den tPlace)) : Option innkeepref06_Depth.R := gc n 40 [.dat tWorld a0 [], .dat tPlace a1 []] [.d (.int .i64)]
def innkeepref06_Depth.l0 (n m0 : Nat) (t0 : (den tWorld)) (t1 : (den tPlace)) (t4 : Int) (t5 : Int) (o0 : (den tWorld)) (o1 : (den tPlace)) : Option innkeepref06_Depth.R :=
  loopN (fun Kn K s h => run (gc n) n innkeepref06_Depth.c3 Kn K s h) m0 (kBlk 0 (kSeq (run (gc n) n) innkeepref06_Depth.c2 (retK innkeepref06_Depth.fn innkeepref06_Depth.res) (retK innkeepref06_Depth.fn innkeepref06_Depth.res)) (retK innkeepref06_Depth.fn innkeepref06_Depth.res))
    [(0, .dat tWorld t0 []), (1, .dat tPlace t1 []), (2, .ptr 0 []), (3, .ptr 1 []), (4, .dat (.int .i64) t4 []), (5, .dat (.int .i64) t5 [])]
    [.box tWorld o0 [], .box tPlace o1 []]
theorem innkeepref06_Depth.l0_eq (n m0 : Nat) (t0 : (den tWorld)) (t1 : (den tPlace)) (t4 : Int) (t5 : Int) (o0 : (den tWorld)) (o1 : (den tPlace)) : innkeepref06_Depth.l0 n (m0 + 1) t0 t1 t4 t5 o0 o1 =
  bif (decide ((o1.1 : Int) = 2)) then
    bif (decide (50 < (IntKind.wrap .i64 (t5 + 1)))) then
      some ((99, ()), [])
    else
      if (0 : Int) ≤ (o1.2.1 : Int) ∧ (o1.2.1 : Int) < (((List.length (o0.2.2.2.1 : (List (den tPlace)))) : Nat) : Int) then
      innkeepref06_Depth.l0 n m0 t0 t1 t4 (IntKind.wrap .i64 (t5 + 1)) o0 (List.getD (o0.2.2.2.1 : (List (den tPlace))) (Int.toNat (o1.2.1 : Int)) (dft tPlace) : (den tPlace))
      else none
  else
    some ((t5, ()), []) := by kernel_rfl
theorem innkeepref06_Depth.eq (n : Nat) (a0 : (den tWorld)) (a1 : (den tPlace)) : innkeepref06_Depth (n + 1) a0 a1 =
  innkeepref06_Depth.l0 n n a0 a1 0 0 a0 a1 := by kernel_rfl
def innkeepref06_Many.res : List Sh := [.d (.int .i64)]
@[reducible] def innkeepref06_Many.R : Type := dShL [.d (.int .i64)] × Fresh
def innkeepref06_Many (n : Nat) (a0 : (den tWorld)) (a1 : (den tPlace)) : Option innkeepref06_Many.R := gc n 52 [.dat tWorld a0 [], .dat tPlace a1 []] [.d (.int .i64)]
def innkeepref06_Many.l0 (n m0 : Nat) (t0 : (den tWorld)) (t1 : (den tPlace)) (t4 : Int) (t5 : Int) (t6 : Int) (o0 : (den tWorld)) (o1 : (den tPlace)) : Option innkeepref06_Many.R :=
  loopN (fun Kn K s h => run (gc n) n innkeepref06_Many.c4 Kn K s h) m0 (kBlk 0 (kSeq (run (gc n) n) innkeepref06_Many.c2 (retK innkeepref06_Many.fn innkeepref06_Many.res) (retK innkeepref06_Many.fn innkeepref06_Many.res)) (retK innkeepref06_Many.fn innkeepref06_Many.res))
    [(0, .dat tWorld t0 []), (1, .dat tPlace t1 []), (2, .ptr 0 []), (3, .ptr 1 []), (4, .dat (.int .i64) t4 []), (5, .dat (.int .i64) t5 []), (6, .dat (.int .i64) t6 [])]
    [.box tWorld o0 [], .box tPlace o1 []]
theorem innkeepref06_Many.l0_eq (n m0 : Nat) (t0 : (den tWorld)) (t1 : (den tPlace)) (t4 : Int) (t5 : Int) (t6 : Int) (o0 : (den tWorld)) (o1 : (den tPlace)) : innkeepref06_Many.l0 n (m0 + 1) t0 t1 t4 t5 t6 o0 o1 =
  bif (decide (t6 < ((List.length (o0.2.2.2.1 : (List (den tPlace)))) : Int))) then
    if (0 : Int) ≤ t6 ∧ t6 < (((List.length (o0.2.2.2.1 : (List (den tPlace)))) : Nat) : Int) then
    bif (eqT tPlace (List.getD (o0.2.2.2.1 : (List (den tPlace))) (Int.toNat t6) (dft tPlace) : (den tPlace)) o1) then
      innkeepref06_Many.l0 n m0 t0 t1 t4 (IntKind.wrap .i64 (t5 + 1)) (IntKind.wrap .i64 (t6 + 1)) o0 o1
    else
      innkeepref06_Many.l0 n m0 t0 t1 t4 t5 (IntKind.wrap .i64 (t6 + 1)) o0 o1
    else none
  else
    some ((t5, ()), []) := by kernel_rfl
theorem innkeepref06_Many.eq (n : Nat) (a0 : (den tWorld)) (a1 : (den tPlace)) : innkeepref06_Many (n + 1) a0 a1 =
  innkeepref06_Many.l0 n n a0 a1 0 0 0 a0 a1 := by kernel_rfl
def innkeepref06_Cap.res : List Sh := [.d (.int .i64)]
@[reducible] def innkeepref06_Cap.R : Type := dShL [.d (.int .i64)] × Fresh
def innkeepref06_Cap (n : Nat) (a0 : (den tWorld)) (a1 : (den tPlace)) : Option innkeepref06_Cap.R := gc n 53 [.dat tWorld a0 [], .dat tPlace a1 []] [.d (.int .i64)]
theorem innkeepref06_Cap.eq (n : Nat) (a0 : (den tWorld)) (a1 : (den tPlace)) : innkeepref06_Cap (n + 1) a0 a1 =
  if (0 : Int) ≤ (a1.1 : Int) ∧ (a1.1 : Int) < ((3 : Nat) : Int) then
  some (((List.getD ([(a0.1.2.2.2.2.2.1 : Int), (a0.1.2.2.2.2.2.2.1 : Int), (a0.1.2.2.2.2.2.2.2.1 : Int)] : List Int) (Int.toNat (a1.1 : Int)) (0 : Int) : Int), ()), [])
  else none := by kernel_rfl
def innkeepref06_Right.res : List Sh := [.d .bool]
@[reducible] def innkeepref06_Right.R : Type := dShL [.d .bool] × Fresh
def innkeepref06_Right (n : Nat) (a0 : (den tWorld)) : Option innkeepref06_Right.R := gc n 17 [.dat tWorld a0 []] [.d .bool]
def innkeepref06_Right.l0 (n m0 : Nat) (t0 : (den tWorld)) (t2 : Bool) (t4 : Int) (o0 : (den tWorld)) (o1 : (den tDesc)) : Option innkeepref06_Right.R :=
  loopN (fun Kn K s h => run (gc n) n innkeepref06_Right.c11 Kn K s h) m0 (kBlk 0 (kSeq (run (gc n) n) innkeepref06_Right.c9 (retK innkeepref06_Right.fn innkeepref06_Right.res) (retK innkeepref06_Right.fn innkeepref06_Right.res)) (retK innkeepref06_Right.fn innkeepref06_Right.res))
    [(0, .dat tWorld t0 []), (1, .ptr 0 []), (2, .dat .bool t2 []), (3, .ptr 1 []), (4, .dat (.int .i64) t4 [])]
    [.box tWorld o0 [], .box tDesc o1 []]
def innkeepref06_Right.l1 (n m0 : Nat) (t0_1 : (den tWorld)) (t2_1 : Bool) (t4_1 : Int) (t5_1 : Int) (o0_1 : (den tWorld)) (o1_1 : (den tDesc)) : Option innkeepref06_Right.R :=
  loopN (fun Kn K s h => run (gc n) n innkeepref06_Right.c27 Kn K s h) m0 (kBlk 2 (kSeq (run (gc n) n) innkeepref06_Right.c25 (retK innkeepref06_Right.fn innkeepref06_Right.res) (retK innkeepref06_Right.fn innkeepref06_Right.res)) (retK innkeepref06_Right.fn innkeepref06_Right.res))
    [(0, .dat tWorld t0_1 []), (1, .ptr 0 []), (2, .dat .bool t2_1 []), (3, .ptr 1 []), (4, .dat (.int .i64) t4_1 []), (5, .dat (.int .i64) t5_1 [])]
    [.box tWorld o0_1 [], .box tDesc o1_1 []]
def innkeepref06_Right.l2 (n m0 : Nat) (t0_2 : (den tWorld)) (t2_2 : Bool) (t4_2 : Int) (t5_2 : Int) (t8_2 : Int) (o0_2 : (den tWorld)) (o1_2 : (den tDesc)) : Option innkeepref06_Right.R :=
  loopN (fun Kn K s h => run (gc n) n innkeepref06_Right.c47 Kn K s h) m0 (kBlk 4 (kSeq (run (gc n) n) innkeepref06_Right.c45 (retK innkeepref06_Right.fn innkeepref06_Right.res) (retK innkeepref06_Right.fn innkeepref06_Right.res)) (retK innkeepref06_Right.fn innkeepref06_Right.res))
    [(0, .dat tWorld t0_2 []), (1, .ptr 0 []), (2, .dat .bool t2_2 []), (3, .ptr 1 []), (4, .dat (.int .i64) t4_2 []), (5, .dat (.int .i64) t5_2 []), (8, .dat (.int .i64) t8_2 [])]
    [.box tWorld o0_2 [], .box tDesc o1_2 []]
theorem innkeepref06_Right.l0_eq (n m0 : Nat) (t0 : (den tWorld)) (t2 : Bool) (t4 : Int) (o0 : (den tWorld)) (o1 : (den tDesc)) : innkeepref06_Right.l0 n (m0 + 1) t0 t2 t4 o0 o1 =
  bif (decide (t4 < ((List.length (o0.2.1 : (List Int))) : Int))) then
    if (0 : Int) ≤ t4 ∧ t4 < (((List.length (o0.2.1 : (List Int))) : Nat) : Int) then
    Option.bind (innkeepref06_in n (List.getD (o0.2.1 : (List Int)) (Int.toNat t4) (0 : Int) : Int) ((List.length (o1.1 : (List (List Int)))) : Int)) fun r2 =>
    bif (!(r2.1.1 : Bool)) then
      some ((false, ()), [])
    else
      if (0 : Int) ≤ t4 ∧ t4 < (((List.length (o0.2.2.1 : (List Int))) : Nat) : Int) then
      Option.bind (innkeepref01_Is n (List.getD (o0.2.2.1 : (List Int)) (Int.toNat t4) (0 : Int) : Int)) fun r3 =>
      bif (!(r3.1.1 : Bool)) then
        some ((false, ()), [])
      else
        innkeepref06_Right.l0 n m0 t0 t2 (IntKind.wrap .i64 (t4 + 1)) o0 o1
      else none
    else none
  else
    innkeepref06_Right.l1 n n t0 t2 t4 0 o0 o1 := by kernel_rfl
theorem innkeepref06_Right.l1_eq (n m0 : Nat) (t0_1 : (den tWorld)) (t2_1 : Bool) (t4_1 : Int) (t5_1 : Int) (o0_1 : (den tWorld)) (o1_1 : (den tDesc)) : innkeepref06_Right.l1 n (m0 + 1) t0_1 t2_1 t4_1 t5_1 o0_1 o1_1 =
  bif (decide (t5_1 < ((List.length (o0_1.2.2.2.1 : (List (den tPlace)))) : Int))) then
    if (0 : Int) ≤ t5_1 ∧ t5_1 < (((List.length (o0_1.2.2.2.1 : (List (den tPlace)))) : Nat) : Int) then
    bif (decide (((List.getD (o0_1.2.2.2.1 : (List (den tPlace))) (Int.toNat t5_1) (dft tPlace) : (den tPlace)).1 : Int) = 0)) then
      Option.bind (innkeepref06_in n ((List.getD (o0_1.2.2.2.1 : (List (den tPlace))) (Int.toNat t5_1) (dft tPlace) : (den tPlace)).2.1 : Int) ((List.length (o1_1.1 : (List (List Int)))) : Int)) fun r4 =>
      bif (r4.1.1 : Bool) then
        innkeepref06_Right.l1 n m0 t0_1 t2_1 t4_1 (IntKind.wrap .i64 (t5_1 + 1)) o0_1 o1_1
      else
        bif (decide (((List.getD (o0_1.2.2.2.1 : (List (den tPlace))) (Int.toNat t5_1) (dft tPlace) : (den tPlace)).1 : Int) = 1)) then
          Option.bind (innkeepref06_in n ((List.getD (o0_1.2.2.2.1 : (List (den tPlace))) (Int.toNat t5_1) (dft tPlace) : (den tPlace)).2.1 : Int) ((List.length (o1_1.2.1 : (List Int))) : Int)) fun r5 =>
          bif (r5.1.1 : Bool) then
            innkeepref06_Right.l1 n m0 t0_1 t2_1 t4_1 (IntKind.wrap .i64 (t5_1 + 1)) o0_1 o1_1
          else
            bif (decide (((List.getD (o0_1.2.2.2.1 : (List (den tPlace))) (Int.toNat t5_1) (dft tPlace) : (den tPlace)).1 : Int) = 2)) then
              Option.bind (innkeepref06_in n ((List.getD (o0_1.2.2.2.1 : (List (den tPlace))) (Int.toNat t5_1) (dft tPlace) : (den tPlace)).2.1 : Int) ((List.length (o1_1.2.2.2.1 : (List Int))) : Int)) fun r6 =>
              bif (r6.1.1 : Bool) then
                if (0 : Int) ≤ ((List.getD (o0_1.2.2.2.1 : (List (den tPlace))) (Int.toNat t5_1) (dft tPlace) : (den tPlace)).2.1 : Int) ∧ ((List.getD (o0_1.2.2.2.1 : (List (den tPlace))) (Int.toNat t5_1) (dft tPlace) : (den tPlace)).2.1 : Int) < (((List.length (o1_1.2.2.2.2.1 : (List Bool))) : Nat) : Int) then
                bif (!(List.getD (o1_1.2.2.2.2.1 : (List Bool)) (Int.toNat ((List.getD (o0_1.2.2.2.1 : (List (den tPlace))) (Int.toNat t5_1) (dft tPlace) : (den tPlace)).2.1 : Int)) false : Bool)) then
                  some ((false, ()), [])
                else
                  innkeepref06_Right.l1 n m0 t0_1 t2_1 t4_1 (IntKind.wrap .i64 (t5_1 + 1)) o0_1 o1_1
                else none
              else
                some ((false, ()), [])
            else
              some ((false, ()), [])
        else
          bif (decide (((List.getD (o0_1.2.2.2.1 : (List (den tPlace))) (Int.toNat t5_1) (dft tPlace) : (den tPlace)).1 : Int) = 2)) then
            Option.bind (innkeepref06_in n ((List.getD (o0_1.2.2.2.1 : (List (den tPlace))) (Int.toNat t5_1) (dft tPlace) : (den tPlace)).2.1 : Int) ((List.length (o1_1.2.2.2.1 : (List Int))) : Int)) fun r7 =>
            bif (r7.1.1 : Bool) then
              if (0 : Int) ≤ ((List.getD (o0_1.2.2.2.1 : (List (den tPlace))) (Int.toNat t5_1) (dft tPlace) : (den tPlace)).2.1 : Int) ∧ ((List.getD (o0_1.2.2.2.1 : (List (den tPlace))) (Int.toNat t5_1) (dft tPlace) : (den tPlace)).2.1 : Int) < (((List.length (o1_1.2.2.2.2.1 : (List Bool))) : Nat) : Int) then
              bif (!(List.getD (o1_1.2.2.2.2.1 : (List Bool)) (Int.toNat ((List.getD (o0_1.2.2.2.1 : (List (den tPlace))) (Int.toNat t5_1) (dft tPlace) : (den tPlace)).2.1 : Int)) false : Bool)) then
                some ((false, ()), [])
              else
                innkeepref06_Right.l1 n m0 t0_1 t2_1 t4_1 (IntKind.wrap .i64 (t5_1 + 1)) o0_1 o1_1
              else none
            else
              some ((false, ()), [])
          else
            some ((false, ()), [])
    else
      bif (decide (((List.getD (o0_1.2.2.2.1 : (List (den tPlace))) (Int.toNat t5_1) (dft tPlace) : (den tPlace)).1 : Int) = 1)) then
        Option.bind (innkeepref06_in n ((List.getD (o0_1.2.2.2.1 : (List (den tPlace))) (Int.toNat t5_1) (dft tPlace) : (den tPlace)).2.1 : Int) ((List.length (o1_1.2.1 : (List Int))) : Int)) fun r8 =>
        bif (r8.1.1 : Bool) then
          innkeepref06_Right.l1 n m0 t0_1 t2_1 t4_1 (IntKind.wrap .i64 (t5_1 + 1)) o0_1 o1_1
        else
          bif (decide (((List.getD (o0_1.2.2.2.1 : (List (den tPlace))) (Int.toNat t5_1) (dft tPlace) : (den tPlace)).1 : Int) = 2)) then
            Option.bind (innkeepref06_in n ((List.getD (o0_1.2.2.2.1 : (List (den tPlace))) (Int.toNat t5_1) (dft tPlace) : (den tPlace)).2.1 : Int) ((List.length (o1_1.2.2.2.1 : (List Int))) : Int)) fun r9 =>
            bif (r9.1.1 : Bool) then
              if (0 : Int) ≤ ((List.getD (o0_1.2.2.2.1 : (List (den tPlace))) (Int.toNat t5_1) (dft tPlace) : (den tPlace)).2.1 : Int) ∧ ((List.getD (o0_1.2.2.2.1 : (List (den tPlace))) (Int.toNat t5_1) (dft tPlace) : (den tPlace)).2.1 : Int) < (((List.length (o1_1.2.2.2.2.1 : (List Bool))) : Nat) : Int) then
              bif (!(List.getD (o1_1.2.2.2.2.1 : (List Bool)) (Int.toNat ((List.getD (o0_1.2.2.2.1 : (List (den tPlace))) (Int.toNat t5_1) (dft tPlace) : (den tPlace)).2.1 : Int)) false : Bool)) then
                some ((false, ()), [])
              else
                innkeepref06_Right.l1 n m0 t0_1 t2_1 t4_1 (IntKind.wrap .i64 (t5_1 + 1)) o0_1 o1_1
              else none
            else
              some ((false, ()), [])
          else
            some ((false, ()), [])
      else
        bif (decide (((List.getD (o0_1.2.2.2.1 : (List (den tPlace))) (Int.toNat t5_1) (dft tPlace) : (den tPlace)).1 : Int) = 2)) then
          Option.bind (innkeepref06_in n ((List.getD (o0_1.2.2.2.1 : (List (den tPlace))) (Int.toNat t5_1) (dft tPlace) : (den tPlace)).2.1 : Int) ((List.length (o1_1.2.2.2.1 : (List Int))) : Int)) fun r10 =>
          bif (r10.1.1 : Bool) then
            if (0 : Int) ≤ ((List.getD (o0_1.2.2.2.1 : (List (den tPlace))) (Int.toNat t5_1) (dft tPlace) : (den tPlace)).2.1 : Int) ∧ ((List.getD (o0_1.2.2.2.1 : (List (den tPlace))) (Int.toNat t5_1) (dft tPlace) : (den tPlace)).2.1 : Int) < (((List.length (o1_1.2.2.2.2.1 : (List Bool))) : Nat) : Int) then
            bif (!(List.getD (o1_1.2.2.2.2.1 : (List Bool)) (Int.toNat ((List.getD (o0_1.2.2.2.1 : (List (den tPlace))) (Int.toNat t5_1) (dft tPlace) : (den tPlace)).2.1 : Int)) false : Bool)) then
              some ((false, ()), [])
            else
              innkeepref06_Right.l1 n m0 t0_1 t2_1 t4_1 (IntKind.wrap .i64 (t5_1 + 1)) o0_1 o1_1
            else none
          else
            some ((false, ()), [])
        else
          some ((false, ()), [])
    else none
  else
    innkeepref06_Right.l2 n n t0_1 t2_1 t4_1 t5_1 0 o0_1 o1_1 := by kernel_rfl
theorem innkeepref06_Right.l2_eq (n m0 : Nat) (t0_2 : (den tWorld)) (t2_2 : Bool) (t4_2 : Int) (t5_2 : Int) (t8_2 : Int) (o0_2 : (den tWorld)) (o1_2 : (den tDesc)) : innkeepref06_Right.l2 n (m0 + 1) t0_2 t2_2 t4_2 t5_2 t8_2 o0_2 o1_2 =
  bif (decide (t8_2 < ((List.length (o0_2.2.2.2.1 : (List (den tPlace)))) : Int))) then
    if (0 : Int) ≤ t8_2 ∧ t8_2 < (((List.length (o0_2.2.2.2.1 : (List (den tPlace)))) : Nat) : Int) then
    Option.bind (innkeepref06_Depth n o0_2 (List.getD (o0_2.2.2.2.1 : (List (den tPlace))) (Int.toNat t8_2) (dft tPlace) : (den tPlace))) fun r11 =>
    bif (decide (4 < (r11.1.1 : Int))) then
      some ((false, ()), [])
    else
      if (0 : Int) ≤ t8_2 ∧ t8_2 < (((List.length (o0_2.2.2.2.1 : (List (den tPlace)))) : Nat) : Int) then
      Option.bind (innkeepref06_Many n o0_2 (List.getD (o0_2.2.2.2.1 : (List (den tPlace))) (Int.toNat t8_2) (dft tPlace) : (den tPlace))) fun r12 =>
      if (0 : Int) ≤ t8_2 ∧ t8_2 < (((List.length (o0_2.2.2.2.1 : (List (den tPlace)))) : Nat) : Int) then
      Option.bind (innkeepref06_Cap n o0_2 (List.getD (o0_2.2.2.2.1 : (List (den tPlace))) (Int.toNat t8_2) (dft tPlace) : (den tPlace))) fun r13 =>
      bif (decide ((r13.1.1 : Int) < (r12.1.1 : Int))) then
        some ((false, ()), [])
      else
        innkeepref06_Right.l2 n m0 t0_2 t2_2 t4_2 t5_2 (IntKind.wrap .i64 (t8_2 + 1)) o0_2 o1_2
      else none
      else none
    else none
  else
    some ((true, ()), []) := by kernel_rfl
theorem innkeepref06_Right.eq (n : Nat) (a0 : (den tWorld)) : innkeepref06_Right (n + 1) a0 =
  Option.bind (innkeepref06_May n a0.1) fun r1 =>
  bif (!(r1.1.1 : Bool)) then
    some ((false, ()), [])
  else
    bif (!(decide (((List.length (a0.2.1 : (List Int))) : Int) = ((List.length (a0.1.2.1 : (List Int))) : Int)))) then
      some ((false, ()), [])
    else
      bif (!(decide (((List.length (a0.2.2.1 : (List Int))) : Int) = ((List.length (a0.1.2.1 : (List Int))) : Int)))) then
        some ((false, ()), [])
      else
        bif (!(decide (((List.length (a0.2.2.2.1 : (List (den tPlace)))) : Int) = ((List.length (a0.1.2.2.2.1 : (List Int))) : Int)))) then
          some ((false, ()), [])
        else
          innkeepref06_Right.l0 n n a0 false 0 a0 a0.1 := by kernel_rfl
def innkeeplaw10_fits.res : List Sh := [.d .bool]
@[reducible] def innkeeplaw10_fits.R : Type := dShL [.d .bool] × Fresh
def innkeeplaw10_fits (n : Nat) (a0 : (den tWorld)) : Option innkeeplaw10_fits.R := gc n 9 [.dat tWorld a0 []] [.d .bool]
theorem innkeeplaw10_fits.eq (n : Nat) (a0 : (den tWorld)) : innkeeplaw10_fits (n + 1) a0 =
  Option.bind (innkeepref06_Few n a0) fun r1 =>
  bif (r1.1.1 : Bool) then
    Option.bind (innkeepref06_Right n a0) fun r2 =>
    some (((r2.1.1 : Bool), ()), [])
  else
    some ((false, ()), []) := by kernel_rfl
def innkeepref10_is.res : List Sh := [.d .bool]
@[reducible] def innkeepref10_is.R : Type := dShL [.d .bool] × Fresh
def innkeepref10_is (n : Nat) (a0 : (den tWorld)) (a1 : Int) : Option innkeepref10_is.R := gc n 38 [.dat tWorld a0 [], .dat (.int .i64) a1 []] [.d .bool]
theorem innkeepref10_is.eq (n : Nat) (a0 : (den tWorld)) (a1 : Int) : innkeepref10_is (n + 1) a0 a1 =
  bif (decide (0 ≤ a1)) then
    some (((decide (a1 < ((List.length (a0.2.2.2.1 : (List (den tPlace)))) : Int))), ()), [])
  else
    some ((false, ()), []) := by kernel_rfl
def innkeepref07_Root.res : List Sh := [.d tPlace]
@[reducible] def innkeepref07_Root.R : Type := dShL [.d tPlace] × Fresh
def innkeepref07_Root (n : Nat) (a0 : (den tWorld)) (a1 : Int) : Option innkeepref07_Root.R := gc n 20 [.dat tWorld a0 [], .dat (.int .i64) a1 []] [.d tPlace]
theorem innkeepref07_Root.eq (n : Nat) (a0 : (den tWorld)) (a1 : Int) : innkeepref07_Root (n + 1) a0 a1 =
  if (0 : Int) ≤ a1 ∧ a1 < (((List.length (a0.2.2.2.1 : (List (den tPlace)))) : Nat) : Int) then
  bif (!(decide (((List.getD (a0.2.2.2.1 : (List (den tPlace))) (Int.toNat a1) (dft tPlace) : (den tPlace)).1 : Int) = 2))) then
    some (((List.getD (a0.2.2.2.1 : (List (den tPlace))) (Int.toNat a1) (dft tPlace) : (den tPlace)), ()), [])
  else
    Option.bind (innkeepref07_Root n a0 ((List.getD (a0.2.2.2.1 : (List (den tPlace))) (Int.toNat a1) (dft tPlace) : (den tPlace)).2.1 : Int)) fun r1 =>
    some ((r1.1.1, ()), [])
  else none := by kernel_rfl
def innkeepref10_Near.res : List Sh := [.d .bool]
@[reducible] def innkeepref10_Near.R : Type := dShL [.d .bool] × Fresh
def innkeepref10_Near (n : Nat) (a0 : (den tWorld)) (a1 : Int) (a2 : Int) : Option innkeepref10_Near.R := gc n 16 [.dat tWorld a0 [], .dat (.int .i64) a1 [], .dat (.int .i64) a2 []] [.d .bool]
theorem innkeepref10_Near.eq (n : Nat) (a0 : (den tWorld)) (a1 : Int) (a2 : Int) : innkeepref10_Near (n + 1) a0 a1 a2 =
  Option.bind (innkeepref07_Root n a0 a2) fun r1 =>
  bif (decide ((r1.1.1.1 : Int) = 0)) then
    if (0 : Int) ≤ a1 ∧ a1 < (((List.length (a0.2.1 : (List Int))) : Nat) : Int) then
    bif (decide ((r1.1.1.2.1 : Int) = (List.getD (a0.2.1 : (List Int)) (Int.toNat a1) (0 : Int) : Int))) then
      some ((true, ()), [])
    else
      bif (decide ((r1.1.1.1 : Int) = 1)) then
        some (((decide ((r1.1.1.2.1 : Int) = a1)), ()), [])
      else
        some ((false, ()), [])
    else none
  else
    bif (decide ((r1.1.1.1 : Int) = 1)) then
      some (((decide ((r1.1.1.2.1 : Int) = a1)), ()), [])
    else
      some ((false, ()), []) := by kernel_rfl
def innkeepref07_Within.res : List Sh := [.d .bool]
@[reducible] def innkeepref07_Within.R : Type := dShL [.d .bool] × Fresh
def innkeepref07_Within (n : Nat) (a0 : (den tWorld)) (a1 : Int) (a2 : Int) : Option innkeepref07_Within.R := gc n 19 [.dat tWorld a0 [], .dat (.int .i64) a1 [], .dat (.int .i64) a2 []] [.d .bool]
theorem innkeepref07_Within.eq (n : Nat) (a0 : (den tWorld)) (a1 : Int) (a2 : Int) : innkeepref07_Within (n + 1) a0 a1 a2 =
  bif (decide (a1 = a2)) then
    some ((true, ()), [])
  else
    if (0 : Int) ≤ a1 ∧ a1 < (((List.length (a0.2.2.2.1 : (List (den tPlace)))) : Nat) : Int) then
    bif (decide (((List.getD (a0.2.2.2.1 : (List (den tPlace))) (Int.toNat a1) (dft tPlace) : (den tPlace)).1 : Int) = 2)) then
      Option.bind (innkeepref07_Within n a0 ((List.getD (a0.2.2.2.1 : (List (den tPlace))) (Int.toNat a1) (dft tPlace) : (den tPlace)).2.1 : Int) a2) fun r1 =>
      some (((r1.1.1 : Bool), ()), [])
    else
      some ((false, ()), [])
    else none := by kernel_rfl
def innkeepref06_Copied.res : List Sh := [.d tWorld]
@[reducible] def innkeepref06_Copied.R : Type := dShL [.d tWorld] × Fresh
def innkeepref06_Copied (n : Nat) (a0 : (den tWorld)) : Option innkeepref06_Copied.R := gc n 21 [.dat tWorld a0 []] [.d tWorld]
theorem innkeepref06_Copied.eq (n : Nat) (a0 : (den tWorld)) : innkeepref06_Copied (n + 1) a0 =
  if 0 + (List.length (a0.2.1 : (List Int))) ≤ 1048576 then
  if 0 + (List.length (a0.2.2.1 : (List Int))) ≤ 1048576 then
  if 0 + (List.length (a0.2.2.2.1 : (List (den tPlace)))) ≤ 1048576 then
  some (((a0.1, (([] : List Int) ++ (a0.2.1 : (List Int))), (([] : List Int) ++ (a0.2.2.1 : (List Int))), (([] : List (den tPlace)) ++ (a0.2.2.2.1 : (List (den tPlace)))), ()), ()), [(0, [1]), (0, [2]), (0, [3])])
  else none
  else none
  else none := by kernel_rfl
def innkeepref09_To.res : List Sh := [.d tWorld]
@[reducible] def innkeepref09_To.R : Type := dShL [.d tWorld] × Fresh
def innkeepref09_To (n : Nat) (a0 : (den tWorld)) (a1 : Int) (a2 : (den tPlace)) : Option innkeepref09_To.R := gc n 39 [.dat tWorld a0 [], .dat (.int .i64) a1 [], .dat tPlace a2 []] [.d tWorld]
theorem innkeepref09_To.eq (n : Nat) (a0 : (den tWorld)) (a1 : Int) (a2 : (den tPlace)) : innkeepref09_To (n + 1) a0 a1 a2 =
  Option.bind (innkeepref06_Copied n a0) fun r1 =>
  bif (keepAll r1.2 [((0, [3]), 4)]) then
    if (0 : Int) ≤ a1 ∧ a1 < (((List.length (r1.1.1.2.2.2.1 : (List (den tPlace)))) : Nat) : Int) then
    some (((r1.1.1.1, (r1.1.1.2.1 : (List Int)), (r1.1.1.2.2.1 : (List Int)), (List.set (r1.1.1.2.2.2.1 : (List (den tPlace))) (Int.toNat a1) a2 : (List (den tPlace))), ()), ()), [(0, [3])])
    else none
  else
    none := by kernel_rfl
def innkeepref07_Room.res : List Sh := [.d (.int .i64)]
@[reducible] def innkeepref07_Room.R : Type := dShL [.d (.int .i64)] × Fresh
def innkeepref07_Room (n : Nat) (a0 : (den tWorld)) (a1 : (den tPlace)) : Option innkeepref07_Room.R := gc n 22 [.dat tWorld a0 [], .dat tPlace a1 []] [.d (.int .i64)]
theorem innkeepref07_Room.eq (n : Nat) (a0 : (den tWorld)) (a1 : (den tPlace)) : innkeepref07_Room (n + 1) a0 a1 =
  Option.bind (innkeepref06_Cap n a0 a1) fun r1 =>
  Option.bind (innkeepref06_Many n a0 a1) fun r2 =>
  some (((IntKind.wrap .i64 ((r1.1.1 : Int) - (r2.1.1 : Int))), ()), []) := by kernel_rfl
def innkeepref10_Put.res : List Sh := [.d tWorld, .d (.int .i64)]
@[reducible] def innkeepref10_Put.R : Type := dShL [.d tWorld, .d (.int .i64)] × Fresh
def innkeepref10_Put (n : Nat) (a0 : (den tWorld)) (a1 : Int) (a2 : Int) (a3 : Int) : Option innkeepref10_Put.R := gc n 11 [.dat tWorld a0 [], .dat (.int .i64) a1 [], .dat (.int .i64) a2 [], .dat (.int .i64) a3 []] [.d tWorld, .d (.int .i64)]
def innkeepref10_Put.l0 (n m0 : Nat) (t0 : (den tWorld)) (t1 : Int) (t2 : Int) (t3 : Int) (t9 : Int) (t11 : Int) (o0 : (den tWorld)) (o1 : (den tWorld)) (o2 : (den tWorld)) : Option innkeepref10_Put.R :=
  loopN (fun Kn K s h => run (gc n) n innkeepref10_Put.c33 Kn K s h) m0 (kBlk 0 (kSeq (run (gc n) n) innkeepref10_Put.c31 (retK innkeepref10_Put.fn innkeepref10_Put.res) (retK innkeepref10_Put.fn innkeepref10_Put.res)) (retK innkeepref10_Put.fn innkeepref10_Put.res))
    [(0, .dat tWorld t0 []), (1, .dat (.int .i64) t1 []), (2, .dat (.int .i64) t2 []), (3, .dat (.int .i64) t3 []), (4, .ptr 0 []), (8, .ptr 1 []), (9, .dat (.int .i64) t9 []), (10, .ptr 2 []), (11, .dat (.int .i64) t11 [])]
    [.box tWorld o0 [], .box tWorld o1 [], .box tWorld o2 []]
theorem innkeepref10_Put.l0_eq (n m0 : Nat) (t0 : (den tWorld)) (t1 : Int) (t2 : Int) (t3 : Int) (t9 : Int) (t11 : Int) (o0 : (den tWorld)) (o1 : (den tWorld)) (o2 : (den tWorld)) : innkeepref10_Put.l0 n (m0 + 1) t0 t1 t2 t3 t9 t11 o0 o1 o2 =
  bif (decide (t11 < ((List.length (o2.2.2.2.1 : (List (den tPlace)))) : Int))) then
    if (0 : Int) ≤ t11 ∧ t11 < (((List.length (o2.2.2.2.1 : (List (den tPlace)))) : Nat) : Int) then
    Option.bind (innkeepref06_Depth n o2 (List.getD (o2.2.2.2.1 : (List (den tPlace))) (Int.toNat t11) (dft tPlace) : (den tPlace))) fun r6 =>
    bif (decide (4 < (r6.1.1 : Int))) then
      some ((o0, 8, ()), [])
    else
      innkeepref10_Put.l0 n m0 t0 t1 t2 t3 t9 (IntKind.wrap .i64 (t11 + 1)) o0 o1 o2
    else none
  else
    Option.bind (innkeepref07_Room n o0 (2, t3, ())) fun r7 =>
    bif (decide ((r7.1.1 : Int) = 0)) then
      some ((o0, 9, ()), [])
    else
      some ((o2, 0, ()), []) := by kernel_rfl
theorem innkeepref10_Put.eq (n : Nat) (a0 : (den tWorld)) (a1 : Int) (a2 : Int) (a3 : Int) : innkeepref10_Put (n + 1) a0 a1 a2 a3 =
  Option.bind (innkeepref10_is n a0 a2) fun r1 =>
  bif (!(r1.1.1 : Bool)) then
    some ((a0, 3, ()), [])
  else
    Option.bind (innkeepref10_is n a0 a3) fun r2 =>
    bif (!(r2.1.1 : Bool)) then
      some ((a0, 3, ()), [])
    else
      if (0 : Int) ≤ a2 ∧ a2 < (((List.length (a0.2.2.2.1 : (List (den tPlace)))) : Nat) : Int) then
      bif (!(eqT tPlace (List.getD (a0.2.2.2.1 : (List (den tPlace))) (Int.toNat a2) (dft tPlace) : (den tPlace)) (1, a1, ()))) then
        some ((a0, 5, ()), [])
      else
        Option.bind (innkeepref10_Near n a0 a1 a3) fun r3 =>
        bif (!(r3.1.1 : Bool)) then
          some ((a0, 5, ()), [])
        else
          if (0 : Int) ≤ a3 ∧ a3 < (((List.length (a0.1.2.2.2.2.1 : (List Bool))) : Nat) : Int) then
          bif (!(List.getD (a0.1.2.2.2.2.1 : (List Bool)) (Int.toNat a3) false : Bool)) then
            some ((a0, 6, ()), [])
          else
            Option.bind (innkeepref07_Within n a0 a3 a2) fun r4 =>
            bif (r4.1.1 : Bool) then
              some ((a0, 7, ()), [])
            else
              Option.bind (innkeepref09_To n a0 a2 (2, a3, ())) fun r5 =>
              innkeepref10_Put.l0 n n a0 a1 a2 a3 0 0 a0 ((([] : List (List Int)), ([] : List Int), ([] : List Int), ([] : List Int), ([] : List Bool), 0, 0, 0, ()), ([] : List Int), ([] : List Int), ([] : List (den tPlace)), ()) r5.1.1
          else none
      else none := by kernel_rfl
def innkeepref10_Take.res : List Sh := [.d tWorld, .d (.int .i64)]
@[reducible] def innkeepref10_Take.R : Type := dShL [.d tWorld, .d (.int .i64)] × Fresh
def innkeepref10_Take (n : Nat) (a0 : (den tWorld)) (a1 : Int) (a2 : Int) (a3 : Int) : Option innkeepref10_Take.R := gc n 13 [.dat tWorld a0 [], .dat (.int .i64) a1 [], .dat (.int .i64) a2 [], .dat (.int .i64) a3 []] [.d tWorld, .d (.int .i64)]
theorem innkeepref10_Take.eq (n : Nat) (a0 : (den tWorld)) (a1 : Int) (a2 : Int) (a3 : Int) : innkeepref10_Take (n + 1) a0 a1 a2 a3 =
  Option.bind (innkeepref10_is n a0 a2) fun r1 =>
  bif (!(r1.1.1 : Bool)) then
    some ((a0, 3, ()), [])
  else
    Option.bind (innkeepref10_is n a0 a3) fun r2 =>
    bif (!(r2.1.1 : Bool)) then
      some ((a0, 3, ()), [])
    else
      Option.bind (innkeepref10_Near n a0 a1 a3) fun r3 =>
      bif (!(r3.1.1 : Bool)) then
        some ((a0, 5, ()), [])
      else
        if (0 : Int) ≤ a3 ∧ a3 < (((List.length (a0.1.2.2.2.2.1 : (List Bool))) : Nat) : Int) then
        bif (!(List.getD (a0.1.2.2.2.2.1 : (List Bool)) (Int.toNat a3) false : Bool)) then
          some ((a0, 6, ()), [])
        else
          if (0 : Int) ≤ a2 ∧ a2 < (((List.length (a0.2.2.2.1 : (List (den tPlace)))) : Nat) : Int) then
          bif (!(eqT tPlace (List.getD (a0.2.2.2.1 : (List (den tPlace))) (Int.toNat a2) (dft tPlace) : (den tPlace)) (2, a3, ()))) then
            some ((a0, 5, ()), [])
          else
            Option.bind (innkeepref07_Room n a0 (1, a1, ())) fun r4 =>
            bif (decide ((r4.1.1 : Int) = 0)) then
              some ((a0, 9, ()), [])
            else
              Option.bind (innkeepref09_To n a0 a2 (1, a1, ())) fun r5 =>
              some ((r5.1.1, 0, ()), [])
          else none
        else none := by kernel_rfl
def innkeeplaw10_BoxesDo.res : List Sh := [.d .bool]
@[reducible] def innkeeplaw10_BoxesDo.R : Type := dShL [.d .bool] × Fresh
def innkeeplaw10_BoxesDo (n : Nat) (a0 : (den tWorld)) (a1 : Int) (a2 : Int) (a3 : Int) : Option innkeeplaw10_BoxesDo.R := gc n 3 [.dat tWorld a0 [], .dat (.int .u8) a1 [], .dat (.int .i64) a2 [], .dat (.int .i64) a3 []] [.d .bool]
theorem innkeeplaw10_BoxesDo.eq (n : Nat) (a0 : (den tWorld)) (a1 : Int) (a2 : Int) (a3 : Int) : innkeeplaw10_BoxesDo (n + 1) a0 a1 a2 a3 =
  Option.bind (innkeeplaw10_awake n) fun r1 =>
  bif (!(r1.1.1 : Bool)) then
    Option.bind (innkeeplaw10_awake n) fun r2 =>
    some (((r2.1.1 : Bool), ()), [])
  else
    Option.bind (innkeeplaw10_fits n a0) fun r3 =>
    bif (!(r3.1.1 : Bool)) then
      Option.bind (innkeeplaw10_awake n) fun r4 =>
      some (((r4.1.1 : Bool), ()), [])
    else
      if ((List.length (a0.2.1 : (List Int))) : Int) = 0 then none else
      Option.bind (boxes_Put n a0 (Int.tmod (IntKind.wrap .i64 (a1)) ((List.length (a0.2.1 : (List Int))) : Int)) a2 a3) fun r5 =>
      Option.bind (innkeepref10_Put n a0 (Int.tmod (IntKind.wrap .i64 (a1)) ((List.length (a0.2.1 : (List Int))) : Int)) a2 a3) fun r6 =>
      Option.bind (boxes_Take n a0 (Int.tmod (IntKind.wrap .i64 (a1)) ((List.length (a0.2.1 : (List Int))) : Int)) a2 a3) fun r7 =>
      Option.bind (innkeepref10_Take n a0 (Int.tmod (IntKind.wrap .i64 (a1)) ((List.length (a0.2.1 : (List Int))) : Int)) a2 a3) fun r8 =>
      Option.bind (innkeepref06_Same n r5.1.1 r6.1.1) fun r9 =>
      bif (!(r9.1.1 : Bool)) then
        some ((false, ()), [])
      else
        bif (!(decide ((r5.1.2.1 : Int) = (r6.1.2.1 : Int)))) then
          some ((false, ()), [])
        else
          Option.bind (innkeepref06_Same n r7.1.1 r8.1.1) fun r10 =>
          bif (!(r10.1.1 : Bool)) then
            some ((false, ()), [])
          else
            bif (!(decide ((r7.1.2.1 : Int) = (r8.1.2.1 : Int)))) then
              some ((false, ()), [])
            else
              bif (decide (a2 < 0)) then
                some ((true, ()), [])
              else
                bif (decide (((List.length (a0.2.2.2.1 : (List (den tPlace)))) : Int) ≤ a2)) then
                  some ((true, ()), [])
                else
                  Option.bind (boxes_Near n a0 (Int.tmod (IntKind.wrap .i64 (a1)) ((List.length (a0.2.1 : (List Int))) : Int)) a2) fun r11 =>
                  Option.bind (innkeepref10_Near n a0 (Int.tmod (IntKind.wrap .i64 (a1)) ((List.length (a0.2.1 : (List Int))) : Int)) a2) fun r12 =>
                  some (((eqT .bool (r11.1.1 : Bool) (r12.1.1 : Bool)), ()), []) := by kernel_rfl
def innkeepref09_Others.res : List Sh := [.d .bool]
@[reducible] def innkeepref09_Others.R : Type := dShL [.d .bool] × Fresh
def innkeepref09_Others (n : Nat) (a0 : (den tWorld)) (a1 : (den tWorld)) (a2 : (List Int)) : Option innkeepref09_Others.R := gc n 18 [.dat tWorld a0 [], .dat tWorld a1 [], .dat (.sl (.int .i64)) a2 []] [.d .bool]
def innkeepref09_Others.l0 (n m0 : Nat) (t0 : (den tWorld)) (t1 : (den tWorld)) (t2 : (List Int)) (t6 : Bool) (t8 : Int) (o0 : (den tWorld)) (o1 : (den tWorld)) (o2 : (den tWorld)) (o3 : (List (den tPlace))) : Option innkeepref09_Others.R :=
  loopN (fun Kn K s h => run (gc n) n innkeepref09_Others.c5 Kn K s h) m0 (kBlk 0 (kSeq (run (gc n) n) innkeepref09_Others.c3 (retK innkeepref09_Others.fn innkeepref09_Others.res) (retK innkeepref09_Others.fn innkeepref09_Others.res)) (retK innkeepref09_Others.fn innkeepref09_Others.res))
    [(0, .dat tWorld t0 []), (1, .dat tWorld t1 []), (2, .dat (.sl (.int .i64)) t2 []), (3, .ptr 0 []), (4, .ptr 1 []), (6, .dat .bool t6 []), (7, .ptr 2 []), (8, .dat (.int .i64) t8 [])]
    [.box tWorld o0 [], .box tWorld o1 [], .box tWorld o2 [([3], some 3)], .arr tPlace o3]
theorem innkeepref09_Others.l0_eq (n m0 : Nat) (t0 : (den tWorld)) (t1 : (den tWorld)) (t2 : (List Int)) (t6 : Bool) (t8 : Int) (o0 : (den tWorld)) (o1 : (den tWorld)) (o2 : (den tWorld)) (o3 : (List (den tPlace))) : innkeepref09_Others.l0 n (m0 + 1) t0 t1 t2 t6 t8 o0 o1 o2 o3 =
  bif (decide (t8 < ((List.length t2) : Int))) then
    if (0 : Int) ≤ t8 ∧ t8 < (((List.length t2) : Nat) : Int) then
    bif (decide ((List.getD t2 (Int.toNat t8) (0 : Int) : Int) < 0)) then
      some ((false, ()), [])
    else
      if (0 : Int) ≤ t8 ∧ t8 < (((List.length t2) : Nat) : Int) then
      bif (decide (((List.length o3) : Int) ≤ (List.getD t2 (Int.toNat t8) (0 : Int) : Int))) then
        some ((false, ()), [])
      else
        bif (!(decide (((List.length o3) : Int) = ((List.length (o1.2.2.2.1 : (List (den tPlace)))) : Int)))) then
          some ((false, ()), [])
        else
          if (0 : Int) ≤ t8 ∧ t8 < (((List.length t2) : Nat) : Int) then
          if (0 : Int) ≤ t8 ∧ t8 < (((List.length t2) : Nat) : Int) then
          if (0 : Int) ≤ (List.getD t2 (Int.toNat t8) (0 : Int) : Int) ∧ (List.getD t2 (Int.toNat t8) (0 : Int) : Int) < (((List.length (o1.2.2.2.1 : (List (den tPlace)))) : Nat) : Int) then
          if (0 : Int) ≤ (List.getD t2 (Int.toNat t8) (0 : Int) : Int) ∧ (List.getD t2 (Int.toNat t8) (0 : Int) : Int) < (((List.length o3) : Nat) : Int) then
          innkeepref09_Others.l0 n m0 t0 t1 t2 t6 (IntKind.wrap .i64 (t8 + 1)) o0 o1 o2 (List.set o3 (Int.toNat (List.getD t2 (Int.toNat t8) (0 : Int) : Int)) (List.getD (o1.2.2.2.1 : (List (den tPlace))) (Int.toNat (List.getD t2 (Int.toNat t8) (0 : Int) : Int)) (dft tPlace) : (den tPlace)) : (List (den tPlace)))
          else none
          else none
          else none
          else none
      else none
    else none
  else
    Option.bind (innkeepref06_Same n (o2.1, (o2.2.1 : (List Int)), (o2.2.2.1 : (List Int)), o3, ()) o1) fun r2 =>
    some (((r2.1.1 : Bool), ()), []) := by kernel_rfl
theorem innkeepref09_Others.eq (n : Nat) (a0 : (den tWorld)) (a1 : (den tWorld)) (a2 : (List Int)) : innkeepref09_Others (n + 1) a0 a1 a2 =
  Option.bind (innkeepref06_Copied n a0) fun r1 =>
  bif (keepAll r1.2 [((0, [3]), 3)]) then
    innkeepref09_Others.l0 n n a0 a1 a2 false 0 a0 a1 (r1.1.1.1, (r1.1.1.2.1 : (List Int)), (r1.1.1.2.2.1 : (List Int)), ([] : List (den tPlace)), ()) (r1.1.1.2.2.2.1 : (List (den tPlace)))
  else
    none := by kernel_rfl
def innkeeplaw10_BoxesKeep.res : List Sh := [.d .bool]
@[reducible] def innkeeplaw10_BoxesKeep.R : Type := dShL [.d .bool] × Fresh
def innkeeplaw10_BoxesKeep (n : Nat) (a0 : (den tWorld)) (a1 : Int) (a2 : Int) (a3 : Int) : Option innkeeplaw10_BoxesKeep.R := gc n 4 [.dat tWorld a0 [], .dat (.int .u8) a1 [], .dat (.int .u8) a2 [], .dat (.int .u8) a3 []] [.d .bool]
theorem innkeeplaw10_BoxesKeep.eq (n : Nat) (a0 : (den tWorld)) (a1 : Int) (a2 : Int) (a3 : Int) : innkeeplaw10_BoxesKeep (n + 1) a0 a1 a2 a3 =
  Option.bind (innkeeplaw10_awake n) fun r1 =>
  bif (!(r1.1.1 : Bool)) then
    Option.bind (innkeeplaw10_awake n) fun r2 =>
    some (((r2.1.1 : Bool), ()), [])
  else
    Option.bind (innkeeplaw10_fits n a0) fun r3 =>
    bif (!(r3.1.1 : Bool)) then
      Option.bind (innkeeplaw10_awake n) fun r4 =>
      some (((r4.1.1 : Bool), ()), [])
    else
      bif (decide (((List.length (a0.2.2.2.1 : (List (den tPlace)))) : Int) = 0)) then
        Option.bind (innkeeplaw10_awake n) fun r5 =>
        some (((r5.1.1 : Bool), ()), [])
      else
        if ((List.length (a0.2.1 : (List Int))) : Int) = 0 then none else
        if ((List.length (a0.2.2.2.1 : (List (den tPlace)))) : Int) = 0 then none else
        if ((List.length (a0.2.2.2.1 : (List (den tPlace)))) : Int) = 0 then none else
        Option.bind (boxes_Put n a0 (Int.tmod (IntKind.wrap .i64 (a1)) ((List.length (a0.2.1 : (List Int))) : Int)) (Int.tmod (IntKind.wrap .i64 (a2)) ((List.length (a0.2.2.2.1 : (List (den tPlace)))) : Int)) (Int.tmod (IntKind.wrap .i64 (a3)) ((List.length (a0.2.2.2.1 : (List (den tPlace)))) : Int))) fun r6 =>
        Option.bind (boxes_Take n a0 (Int.tmod (IntKind.wrap .i64 (a1)) ((List.length (a0.2.1 : (List Int))) : Int)) (Int.tmod (IntKind.wrap .i64 (a2)) ((List.length (a0.2.2.2.1 : (List (den tPlace)))) : Int)) (Int.tmod (IntKind.wrap .i64 (a3)) ((List.length (a0.2.2.2.1 : (List (den tPlace)))) : Int))) fun r7 =>
        bif (decide ((r6.1.2.1 : Int) = 0)) then
          bif (decide ((r7.1.2.1 : Int) = 0)) then
            some ((false, ()), [])
          else
            bif (!(decide ((r6.1.2.1 : Int) = 0))) then
              Option.bind (innkeepref06_Same n r6.1.1 a0) fun r8 =>
              bif (!(r8.1.1 : Bool)) then
                some ((false, ()), [])
              else
                bif (!(decide ((r7.1.2.1 : Int) = 0))) then
                  Option.bind (innkeepref06_Same n r7.1.1 a0) fun r9 =>
                  bif (!(r9.1.1 : Bool)) then
                    some ((false, ()), [])
                  else
                    bif (decide ((r6.1.2.1 : Int) = 0)) then
                      Option.bind (boxes_Take n r6.1.1 (Int.tmod (IntKind.wrap .i64 (a1)) ((List.length (a0.2.1 : (List Int))) : Int)) (Int.tmod (IntKind.wrap .i64 (a2)) ((List.length (a0.2.2.2.1 : (List (den tPlace)))) : Int)) (Int.tmod (IntKind.wrap .i64 (a3)) ((List.length (a0.2.2.2.1 : (List (den tPlace)))) : Int))) fun r10 =>
                      bif (!(decide ((r10.1.2.1 : Int) = 0))) then
                        some ((false, ()), [])
                      else
                        Option.bind (innkeepref06_Same n r10.1.1 a0) fun r11 =>
                        bif (!(r11.1.1 : Bool)) then
                          some ((false, ()), [])
                        else
                          Option.bind (innkeepref06_Right n r6.1.1) fun r12 =>
                          bif (!(r12.1.1 : Bool)) then
                            some ((false, ()), [])
                          else
                            Option.bind (innkeepref09_Others n a0 r6.1.1 ([(Int.tmod (IntKind.wrap .i64 (a2)) ((List.length (a0.2.2.2.1 : (List (den tPlace)))) : Int))] : List Int)) fun r13 =>
                            bif (!(r13.1.1 : Bool)) then
                              some ((false, ()), [])
                            else
                              Option.bind (innkeepref07_Within n r6.1.1 (Int.tmod (IntKind.wrap .i64 (a2)) ((List.length (a0.2.2.2.1 : (List (den tPlace)))) : Int)) (Int.tmod (IntKind.wrap .i64 (a3)) ((List.length (a0.2.2.2.1 : (List (den tPlace)))) : Int))) fun r14 =>
                              bif (!(r14.1.1 : Bool)) then
                                some ((false, ()), [])
                              else
                                Option.bind (innkeepref07_Root n r6.1.1 (Int.tmod (IntKind.wrap .i64 (a2)) ((List.length (a0.2.2.2.1 : (List (den tPlace)))) : Int))) fun r15 =>
                                Option.bind (innkeepref07_Root n a0 (Int.tmod (IntKind.wrap .i64 (a3)) ((List.length (a0.2.2.2.1 : (List (den tPlace)))) : Int))) fun r16 =>
                                bif (!(eqT tPlace r15.1.1 r16.1.1)) then
                                  some ((false, ()), [])
                                else
                                  bif (decide ((r7.1.2.1 : Int) = 0)) then
                                    Option.bind (innkeepref06_Right n r7.1.1) fun r17 =>
                                    bif (r17.1.1 : Bool) then
                                      Option.bind (innkeepref09_Others n a0 r7.1.1 ([(Int.tmod (IntKind.wrap .i64 (a2)) ((List.length (a0.2.2.2.1 : (List (den tPlace)))) : Int))] : List Int)) fun r18 =>
                                      bif (r18.1.1 : Bool) then
                                        if (0 : Int) ≤ (Int.tmod (IntKind.wrap .i64 (a2)) ((List.length (a0.2.2.2.1 : (List (den tPlace)))) : Int)) ∧ (Int.tmod (IntKind.wrap .i64 (a2)) ((List.length (a0.2.2.2.1 : (List (den tPlace)))) : Int)) < (((List.length (r7.1.1.2.2.2.1 : (List (den tPlace)))) : Nat) : Int) then
                                        bif (eqT tPlace (List.getD (r7.1.1.2.2.2.1 : (List (den tPlace))) (Int.toNat (Int.tmod (IntKind.wrap .i64 (a2)) ((List.length (a0.2.2.2.1 : (List (den tPlace)))) : Int))) (dft tPlace) : (den tPlace)) (1, (Int.tmod (IntKind.wrap .i64 (a1)) ((List.length (a0.2.1 : (List Int))) : Int)), ())) then
                                          Option.bind (innkeepref07_Within n a0 (Int.tmod (IntKind.wrap .i64 (a2)) ((List.length (a0.2.2.2.1 : (List (den tPlace)))) : Int)) (Int.tmod (IntKind.wrap .i64 (a3)) ((List.length (a0.2.2.2.1 : (List (den tPlace)))) : Int))) fun r19 =>
                                          some (((r19.1.1 : Bool), ()), [])
                                        else
                                          some ((false, ()), [])
                                        else none
                                      else
                                        some ((false, ()), [])
                                    else
                                      some ((false, ()), [])
                                  else
                                    some ((true, ()), [])
                    else
                      bif (decide ((r7.1.2.1 : Int) = 0)) then
                        Option.bind (innkeepref06_Right n r7.1.1) fun r20 =>
                        bif (r20.1.1 : Bool) then
                          Option.bind (innkeepref09_Others n a0 r7.1.1 ([(Int.tmod (IntKind.wrap .i64 (a2)) ((List.length (a0.2.2.2.1 : (List (den tPlace)))) : Int))] : List Int)) fun r21 =>
                          bif (r21.1.1 : Bool) then
                            if (0 : Int) ≤ (Int.tmod (IntKind.wrap .i64 (a2)) ((List.length (a0.2.2.2.1 : (List (den tPlace)))) : Int)) ∧ (Int.tmod (IntKind.wrap .i64 (a2)) ((List.length (a0.2.2.2.1 : (List (den tPlace)))) : Int)) < (((List.length (r7.1.1.2.2.2.1 : (List (den tPlace)))) : Nat) : Int) then
                            bif (eqT tPlace (List.getD (r7.1.1.2.2.2.1 : (List (den tPlace))) (Int.toNat (Int.tmod (IntKind.wrap .i64 (a2)) ((List.length (a0.2.2.2.1 : (List (den tPlace)))) : Int))) (dft tPlace) : (den tPlace)) (1, (Int.tmod (IntKind.wrap .i64 (a1)) ((List.length (a0.2.1 : (List Int))) : Int)), ())) then
                              Option.bind (innkeepref07_Within n a0 (Int.tmod (IntKind.wrap .i64 (a2)) ((List.length (a0.2.2.2.1 : (List (den tPlace)))) : Int)) (Int.tmod (IntKind.wrap .i64 (a3)) ((List.length (a0.2.2.2.1 : (List (den tPlace)))) : Int))) fun r22 =>
                              some (((r22.1.1 : Bool), ()), [])
                            else
                              some ((false, ()), [])
                            else none
                          else
                            some ((false, ()), [])
                        else
                          some ((false, ()), [])
                      else
                        some ((true, ()), [])
                else
                  bif (decide ((r6.1.2.1 : Int) = 0)) then
                    Option.bind (boxes_Take n r6.1.1 (Int.tmod (IntKind.wrap .i64 (a1)) ((List.length (a0.2.1 : (List Int))) : Int)) (Int.tmod (IntKind.wrap .i64 (a2)) ((List.length (a0.2.2.2.1 : (List (den tPlace)))) : Int)) (Int.tmod (IntKind.wrap .i64 (a3)) ((List.length (a0.2.2.2.1 : (List (den tPlace)))) : Int))) fun r23 =>
                    bif (!(decide ((r23.1.2.1 : Int) = 0))) then
                      some ((false, ()), [])
                    else
                      Option.bind (innkeepref06_Same n r23.1.1 a0) fun r24 =>
                      bif (!(r24.1.1 : Bool)) then
                        some ((false, ()), [])
                      else
                        Option.bind (innkeepref06_Right n r6.1.1) fun r25 =>
                        bif (!(r25.1.1 : Bool)) then
                          some ((false, ()), [])
                        else
                          Option.bind (innkeepref09_Others n a0 r6.1.1 ([(Int.tmod (IntKind.wrap .i64 (a2)) ((List.length (a0.2.2.2.1 : (List (den tPlace)))) : Int))] : List Int)) fun r26 =>
                          bif (!(r26.1.1 : Bool)) then
                            some ((false, ()), [])
                          else
                            Option.bind (innkeepref07_Within n r6.1.1 (Int.tmod (IntKind.wrap .i64 (a2)) ((List.length (a0.2.2.2.1 : (List (den tPlace)))) : Int)) (Int.tmod (IntKind.wrap .i64 (a3)) ((List.length (a0.2.2.2.1 : (List (den tPlace)))) : Int))) fun r27 =>
                            bif (!(r27.1.1 : Bool)) then
                              some ((false, ()), [])
                            else
                              Option.bind (innkeepref07_Root n r6.1.1 (Int.tmod (IntKind.wrap .i64 (a2)) ((List.length (a0.2.2.2.1 : (List (den tPlace)))) : Int))) fun r28 =>
                              Option.bind (innkeepref07_Root n a0 (Int.tmod (IntKind.wrap .i64 (a3)) ((List.length (a0.2.2.2.1 : (List (den tPlace)))) : Int))) fun r29 =>
                              bif (!(eqT tPlace r28.1.1 r29.1.1)) then
                                some ((false, ()), [])
                              else
                                bif (decide ((r7.1.2.1 : Int) = 0)) then
                                  Option.bind (innkeepref06_Right n r7.1.1) fun r30 =>
                                  bif (r30.1.1 : Bool) then
                                    Option.bind (innkeepref09_Others n a0 r7.1.1 ([(Int.tmod (IntKind.wrap .i64 (a2)) ((List.length (a0.2.2.2.1 : (List (den tPlace)))) : Int))] : List Int)) fun r31 =>
                                    bif (r31.1.1 : Bool) then
                                      if (0 : Int) ≤ (Int.tmod (IntKind.wrap .i64 (a2)) ((List.length (a0.2.2.2.1 : (List (den tPlace)))) : Int)) ∧ (Int.tmod (IntKind.wrap .i64 (a2)) ((List.length (a0.2.2.2.1 : (List (den tPlace)))) : Int)) < (((List.length (r7.1.1.2.2.2.1 : (List (den tPlace)))) : Nat) : Int) then
                                      bif (eqT tPlace (List.getD (r7.1.1.2.2.2.1 : (List (den tPlace))) (Int.toNat (Int.tmod (IntKind.wrap .i64 (a2)) ((List.length (a0.2.2.2.1 : (List (den tPlace)))) : Int))) (dft tPlace) : (den tPlace)) (1, (Int.tmod (IntKind.wrap .i64 (a1)) ((List.length (a0.2.1 : (List Int))) : Int)), ())) then
                                        Option.bind (innkeepref07_Within n a0 (Int.tmod (IntKind.wrap .i64 (a2)) ((List.length (a0.2.2.2.1 : (List (den tPlace)))) : Int)) (Int.tmod (IntKind.wrap .i64 (a3)) ((List.length (a0.2.2.2.1 : (List (den tPlace)))) : Int))) fun r32 =>
                                        some (((r32.1.1 : Bool), ()), [])
                                      else
                                        some ((false, ()), [])
                                      else none
                                    else
                                      some ((false, ()), [])
                                  else
                                    some ((false, ()), [])
                                else
                                  some ((true, ()), [])
                  else
                    bif (decide ((r7.1.2.1 : Int) = 0)) then
                      Option.bind (innkeepref06_Right n r7.1.1) fun r33 =>
                      bif (r33.1.1 : Bool) then
                        Option.bind (innkeepref09_Others n a0 r7.1.1 ([(Int.tmod (IntKind.wrap .i64 (a2)) ((List.length (a0.2.2.2.1 : (List (den tPlace)))) : Int))] : List Int)) fun r34 =>
                        bif (r34.1.1 : Bool) then
                          if (0 : Int) ≤ (Int.tmod (IntKind.wrap .i64 (a2)) ((List.length (a0.2.2.2.1 : (List (den tPlace)))) : Int)) ∧ (Int.tmod (IntKind.wrap .i64 (a2)) ((List.length (a0.2.2.2.1 : (List (den tPlace)))) : Int)) < (((List.length (r7.1.1.2.2.2.1 : (List (den tPlace)))) : Nat) : Int) then
                          bif (eqT tPlace (List.getD (r7.1.1.2.2.2.1 : (List (den tPlace))) (Int.toNat (Int.tmod (IntKind.wrap .i64 (a2)) ((List.length (a0.2.2.2.1 : (List (den tPlace)))) : Int))) (dft tPlace) : (den tPlace)) (1, (Int.tmod (IntKind.wrap .i64 (a1)) ((List.length (a0.2.1 : (List Int))) : Int)), ())) then
                            Option.bind (innkeepref07_Within n a0 (Int.tmod (IntKind.wrap .i64 (a2)) ((List.length (a0.2.2.2.1 : (List (den tPlace)))) : Int)) (Int.tmod (IntKind.wrap .i64 (a3)) ((List.length (a0.2.2.2.1 : (List (den tPlace)))) : Int))) fun r35 =>
                            some (((r35.1.1 : Bool), ()), [])
                          else
                            some ((false, ()), [])
                          else none
                        else
                          some ((false, ()), [])
                      else
                        some ((false, ()), [])
                    else
                      some ((true, ()), [])
            else
              bif (!(decide ((r7.1.2.1 : Int) = 0))) then
                Option.bind (innkeepref06_Same n r7.1.1 a0) fun r36 =>
                bif (!(r36.1.1 : Bool)) then
                  some ((false, ()), [])
                else
                  bif (decide ((r6.1.2.1 : Int) = 0)) then
                    Option.bind (boxes_Take n r6.1.1 (Int.tmod (IntKind.wrap .i64 (a1)) ((List.length (a0.2.1 : (List Int))) : Int)) (Int.tmod (IntKind.wrap .i64 (a2)) ((List.length (a0.2.2.2.1 : (List (den tPlace)))) : Int)) (Int.tmod (IntKind.wrap .i64 (a3)) ((List.length (a0.2.2.2.1 : (List (den tPlace)))) : Int))) fun r37 =>
                    bif (!(decide ((r37.1.2.1 : Int) = 0))) then
                      some ((false, ()), [])
                    else
                      Option.bind (innkeepref06_Same n r37.1.1 a0) fun r38 =>
                      bif (!(r38.1.1 : Bool)) then
                        some ((false, ()), [])
                      else
                        Option.bind (innkeepref06_Right n r6.1.1) fun r39 =>
                        bif (!(r39.1.1 : Bool)) then
                          some ((false, ()), [])
                        else
                          Option.bind (innkeepref09_Others n a0 r6.1.1 ([(Int.tmod (IntKind.wrap .i64 (a2)) ((List.length (a0.2.2.2.1 : (List (den tPlace)))) : Int))] : List Int)) fun r40 =>
                          bif (!(r40.1.1 : Bool)) then
                            some ((false, ()), [])
                          else
                            Option.bind (innkeepref07_Within n r6.1.1 (Int.tmod (IntKind.wrap .i64 (a2)) ((List.length (a0.2.2.2.1 : (List (den tPlace)))) : Int)) (Int.tmod (IntKind.wrap .i64 (a3)) ((List.length (a0.2.2.2.1 : (List (den tPlace)))) : Int))) fun r41 =>
                            bif (!(r41.1.1 : Bool)) then
                              some ((false, ()), [])
                            else
                              Option.bind (innkeepref07_Root n r6.1.1 (Int.tmod (IntKind.wrap .i64 (a2)) ((List.length (a0.2.2.2.1 : (List (den tPlace)))) : Int))) fun r42 =>
                              Option.bind (innkeepref07_Root n a0 (Int.tmod (IntKind.wrap .i64 (a3)) ((List.length (a0.2.2.2.1 : (List (den tPlace)))) : Int))) fun r43 =>
                              bif (!(eqT tPlace r42.1.1 r43.1.1)) then
                                some ((false, ()), [])
                              else
                                bif (decide ((r7.1.2.1 : Int) = 0)) then
                                  Option.bind (innkeepref06_Right n r7.1.1) fun r44 =>
                                  bif (r44.1.1 : Bool) then
                                    Option.bind (innkeepref09_Others n a0 r7.1.1 ([(Int.tmod (IntKind.wrap .i64 (a2)) ((List.length (a0.2.2.2.1 : (List (den tPlace)))) : Int))] : List Int)) fun r45 =>
                                    bif (r45.1.1 : Bool) then
                                      if (0 : Int) ≤ (Int.tmod (IntKind.wrap .i64 (a2)) ((List.length (a0.2.2.2.1 : (List (den tPlace)))) : Int)) ∧ (Int.tmod (IntKind.wrap .i64 (a2)) ((List.length (a0.2.2.2.1 : (List (den tPlace)))) : Int)) < (((List.length (r7.1.1.2.2.2.1 : (List (den tPlace)))) : Nat) : Int) then
                                      bif (eqT tPlace (List.getD (r7.1.1.2.2.2.1 : (List (den tPlace))) (Int.toNat (Int.tmod (IntKind.wrap .i64 (a2)) ((List.length (a0.2.2.2.1 : (List (den tPlace)))) : Int))) (dft tPlace) : (den tPlace)) (1, (Int.tmod (IntKind.wrap .i64 (a1)) ((List.length (a0.2.1 : (List Int))) : Int)), ())) then
                                        Option.bind (innkeepref07_Within n a0 (Int.tmod (IntKind.wrap .i64 (a2)) ((List.length (a0.2.2.2.1 : (List (den tPlace)))) : Int)) (Int.tmod (IntKind.wrap .i64 (a3)) ((List.length (a0.2.2.2.1 : (List (den tPlace)))) : Int))) fun r46 =>
                                        some (((r46.1.1 : Bool), ()), [])
                                      else
                                        some ((false, ()), [])
                                      else none
                                    else
                                      some ((false, ()), [])
                                  else
                                    some ((false, ()), [])
                                else
                                  some ((true, ()), [])
                  else
                    bif (decide ((r7.1.2.1 : Int) = 0)) then
                      Option.bind (innkeepref06_Right n r7.1.1) fun r47 =>
                      bif (r47.1.1 : Bool) then
                        Option.bind (innkeepref09_Others n a0 r7.1.1 ([(Int.tmod (IntKind.wrap .i64 (a2)) ((List.length (a0.2.2.2.1 : (List (den tPlace)))) : Int))] : List Int)) fun r48 =>
                        bif (r48.1.1 : Bool) then
                          if (0 : Int) ≤ (Int.tmod (IntKind.wrap .i64 (a2)) ((List.length (a0.2.2.2.1 : (List (den tPlace)))) : Int)) ∧ (Int.tmod (IntKind.wrap .i64 (a2)) ((List.length (a0.2.2.2.1 : (List (den tPlace)))) : Int)) < (((List.length (r7.1.1.2.2.2.1 : (List (den tPlace)))) : Nat) : Int) then
                          bif (eqT tPlace (List.getD (r7.1.1.2.2.2.1 : (List (den tPlace))) (Int.toNat (Int.tmod (IntKind.wrap .i64 (a2)) ((List.length (a0.2.2.2.1 : (List (den tPlace)))) : Int))) (dft tPlace) : (den tPlace)) (1, (Int.tmod (IntKind.wrap .i64 (a1)) ((List.length (a0.2.1 : (List Int))) : Int)), ())) then
                            Option.bind (innkeepref07_Within n a0 (Int.tmod (IntKind.wrap .i64 (a2)) ((List.length (a0.2.2.2.1 : (List (den tPlace)))) : Int)) (Int.tmod (IntKind.wrap .i64 (a3)) ((List.length (a0.2.2.2.1 : (List (den tPlace)))) : Int))) fun r49 =>
                            some (((r49.1.1 : Bool), ()), [])
                          else
                            some ((false, ()), [])
                          else none
                        else
                          some ((false, ()), [])
                      else
                        some ((false, ()), [])
                    else
                      some ((true, ()), [])
              else
                bif (decide ((r6.1.2.1 : Int) = 0)) then
                  Option.bind (boxes_Take n r6.1.1 (Int.tmod (IntKind.wrap .i64 (a1)) ((List.length (a0.2.1 : (List Int))) : Int)) (Int.tmod (IntKind.wrap .i64 (a2)) ((List.length (a0.2.2.2.1 : (List (den tPlace)))) : Int)) (Int.tmod (IntKind.wrap .i64 (a3)) ((List.length (a0.2.2.2.1 : (List (den tPlace)))) : Int))) fun r50 =>
                  bif (!(decide ((r50.1.2.1 : Int) = 0))) then
                    some ((false, ()), [])
                  else
                    Option.bind (innkeepref06_Same n r50.1.1 a0) fun r51 =>
                    bif (!(r51.1.1 : Bool)) then
                      some ((false, ()), [])
                    else
                      Option.bind (innkeepref06_Right n r6.1.1) fun r52 =>
                      bif (!(r52.1.1 : Bool)) then
                        some ((false, ()), [])
                      else
                        Option.bind (innkeepref09_Others n a0 r6.1.1 ([(Int.tmod (IntKind.wrap .i64 (a2)) ((List.length (a0.2.2.2.1 : (List (den tPlace)))) : Int))] : List Int)) fun r53 =>
                        bif (!(r53.1.1 : Bool)) then
                          some ((false, ()), [])
                        else
                          Option.bind (innkeepref07_Within n r6.1.1 (Int.tmod (IntKind.wrap .i64 (a2)) ((List.length (a0.2.2.2.1 : (List (den tPlace)))) : Int)) (Int.tmod (IntKind.wrap .i64 (a3)) ((List.length (a0.2.2.2.1 : (List (den tPlace)))) : Int))) fun r54 =>
                          bif (!(r54.1.1 : Bool)) then
                            some ((false, ()), [])
                          else
                            Option.bind (innkeepref07_Root n r6.1.1 (Int.tmod (IntKind.wrap .i64 (a2)) ((List.length (a0.2.2.2.1 : (List (den tPlace)))) : Int))) fun r55 =>
                            Option.bind (innkeepref07_Root n a0 (Int.tmod (IntKind.wrap .i64 (a3)) ((List.length (a0.2.2.2.1 : (List (den tPlace)))) : Int))) fun r56 =>
                            bif (!(eqT tPlace r55.1.1 r56.1.1)) then
                              some ((false, ()), [])
                            else
                              bif (decide ((r7.1.2.1 : Int) = 0)) then
                                Option.bind (innkeepref06_Right n r7.1.1) fun r57 =>
                                bif (r57.1.1 : Bool) then
                                  Option.bind (innkeepref09_Others n a0 r7.1.1 ([(Int.tmod (IntKind.wrap .i64 (a2)) ((List.length (a0.2.2.2.1 : (List (den tPlace)))) : Int))] : List Int)) fun r58 =>
                                  bif (r58.1.1 : Bool) then
                                    if (0 : Int) ≤ (Int.tmod (IntKind.wrap .i64 (a2)) ((List.length (a0.2.2.2.1 : (List (den tPlace)))) : Int)) ∧ (Int.tmod (IntKind.wrap .i64 (a2)) ((List.length (a0.2.2.2.1 : (List (den tPlace)))) : Int)) < (((List.length (r7.1.1.2.2.2.1 : (List (den tPlace)))) : Nat) : Int) then
                                    bif (eqT tPlace (List.getD (r7.1.1.2.2.2.1 : (List (den tPlace))) (Int.toNat (Int.tmod (IntKind.wrap .i64 (a2)) ((List.length (a0.2.2.2.1 : (List (den tPlace)))) : Int))) (dft tPlace) : (den tPlace)) (1, (Int.tmod (IntKind.wrap .i64 (a1)) ((List.length (a0.2.1 : (List Int))) : Int)), ())) then
                                      Option.bind (innkeepref07_Within n a0 (Int.tmod (IntKind.wrap .i64 (a2)) ((List.length (a0.2.2.2.1 : (List (den tPlace)))) : Int)) (Int.tmod (IntKind.wrap .i64 (a3)) ((List.length (a0.2.2.2.1 : (List (den tPlace)))) : Int))) fun r59 =>
                                      some (((r59.1.1 : Bool), ()), [])
                                    else
                                      some ((false, ()), [])
                                    else none
                                  else
                                    some ((false, ()), [])
                                else
                                  some ((false, ()), [])
                              else
                                some ((true, ()), [])
                else
                  bif (decide ((r7.1.2.1 : Int) = 0)) then
                    Option.bind (innkeepref06_Right n r7.1.1) fun r60 =>
                    bif (r60.1.1 : Bool) then
                      Option.bind (innkeepref09_Others n a0 r7.1.1 ([(Int.tmod (IntKind.wrap .i64 (a2)) ((List.length (a0.2.2.2.1 : (List (den tPlace)))) : Int))] : List Int)) fun r61 =>
                      bif (r61.1.1 : Bool) then
                        if (0 : Int) ≤ (Int.tmod (IntKind.wrap .i64 (a2)) ((List.length (a0.2.2.2.1 : (List (den tPlace)))) : Int)) ∧ (Int.tmod (IntKind.wrap .i64 (a2)) ((List.length (a0.2.2.2.1 : (List (den tPlace)))) : Int)) < (((List.length (r7.1.1.2.2.2.1 : (List (den tPlace)))) : Nat) : Int) then
                        bif (eqT tPlace (List.getD (r7.1.1.2.2.2.1 : (List (den tPlace))) (Int.toNat (Int.tmod (IntKind.wrap .i64 (a2)) ((List.length (a0.2.2.2.1 : (List (den tPlace)))) : Int))) (dft tPlace) : (den tPlace)) (1, (Int.tmod (IntKind.wrap .i64 (a1)) ((List.length (a0.2.1 : (List Int))) : Int)), ())) then
                          Option.bind (innkeepref07_Within n a0 (Int.tmod (IntKind.wrap .i64 (a2)) ((List.length (a0.2.2.2.1 : (List (den tPlace)))) : Int)) (Int.tmod (IntKind.wrap .i64 (a3)) ((List.length (a0.2.2.2.1 : (List (den tPlace)))) : Int))) fun r62 =>
                          some (((r62.1.1 : Bool), ()), [])
                        else
                          some ((false, ()), [])
                        else none
                      else
                        some ((false, ()), [])
                    else
                      some ((false, ()), [])
                  else
                    some ((true, ()), [])
        else
          bif (!(decide ((r6.1.2.1 : Int) = 0))) then
            Option.bind (innkeepref06_Same n r6.1.1 a0) fun r63 =>
            bif (!(r63.1.1 : Bool)) then
              some ((false, ()), [])
            else
              bif (!(decide ((r7.1.2.1 : Int) = 0))) then
                Option.bind (innkeepref06_Same n r7.1.1 a0) fun r64 =>
                bif (!(r64.1.1 : Bool)) then
                  some ((false, ()), [])
                else
                  bif (decide ((r6.1.2.1 : Int) = 0)) then
                    Option.bind (boxes_Take n r6.1.1 (Int.tmod (IntKind.wrap .i64 (a1)) ((List.length (a0.2.1 : (List Int))) : Int)) (Int.tmod (IntKind.wrap .i64 (a2)) ((List.length (a0.2.2.2.1 : (List (den tPlace)))) : Int)) (Int.tmod (IntKind.wrap .i64 (a3)) ((List.length (a0.2.2.2.1 : (List (den tPlace)))) : Int))) fun r65 =>
                    bif (!(decide ((r65.1.2.1 : Int) = 0))) then
                      some ((false, ()), [])
                    else
                      Option.bind (innkeepref06_Same n r65.1.1 a0) fun r66 =>
                      bif (!(r66.1.1 : Bool)) then
                        some ((false, ()), [])
                      else
                        Option.bind (innkeepref06_Right n r6.1.1) fun r67 =>
                        bif (!(r67.1.1 : Bool)) then
                          some ((false, ()), [])
                        else
                          Option.bind (innkeepref09_Others n a0 r6.1.1 ([(Int.tmod (IntKind.wrap .i64 (a2)) ((List.length (a0.2.2.2.1 : (List (den tPlace)))) : Int))] : List Int)) fun r68 =>
                          bif (!(r68.1.1 : Bool)) then
                            some ((false, ()), [])
                          else
                            Option.bind (innkeepref07_Within n r6.1.1 (Int.tmod (IntKind.wrap .i64 (a2)) ((List.length (a0.2.2.2.1 : (List (den tPlace)))) : Int)) (Int.tmod (IntKind.wrap .i64 (a3)) ((List.length (a0.2.2.2.1 : (List (den tPlace)))) : Int))) fun r69 =>
                            bif (!(r69.1.1 : Bool)) then
                              some ((false, ()), [])
                            else
                              Option.bind (innkeepref07_Root n r6.1.1 (Int.tmod (IntKind.wrap .i64 (a2)) ((List.length (a0.2.2.2.1 : (List (den tPlace)))) : Int))) fun r70 =>
                              Option.bind (innkeepref07_Root n a0 (Int.tmod (IntKind.wrap .i64 (a3)) ((List.length (a0.2.2.2.1 : (List (den tPlace)))) : Int))) fun r71 =>
                              bif (!(eqT tPlace r70.1.1 r71.1.1)) then
                                some ((false, ()), [])
                              else
                                bif (decide ((r7.1.2.1 : Int) = 0)) then
                                  Option.bind (innkeepref06_Right n r7.1.1) fun r72 =>
                                  bif (r72.1.1 : Bool) then
                                    Option.bind (innkeepref09_Others n a0 r7.1.1 ([(Int.tmod (IntKind.wrap .i64 (a2)) ((List.length (a0.2.2.2.1 : (List (den tPlace)))) : Int))] : List Int)) fun r73 =>
                                    bif (r73.1.1 : Bool) then
                                      if (0 : Int) ≤ (Int.tmod (IntKind.wrap .i64 (a2)) ((List.length (a0.2.2.2.1 : (List (den tPlace)))) : Int)) ∧ (Int.tmod (IntKind.wrap .i64 (a2)) ((List.length (a0.2.2.2.1 : (List (den tPlace)))) : Int)) < (((List.length (r7.1.1.2.2.2.1 : (List (den tPlace)))) : Nat) : Int) then
                                      bif (eqT tPlace (List.getD (r7.1.1.2.2.2.1 : (List (den tPlace))) (Int.toNat (Int.tmod (IntKind.wrap .i64 (a2)) ((List.length (a0.2.2.2.1 : (List (den tPlace)))) : Int))) (dft tPlace) : (den tPlace)) (1, (Int.tmod (IntKind.wrap .i64 (a1)) ((List.length (a0.2.1 : (List Int))) : Int)), ())) then
                                        Option.bind (innkeepref07_Within n a0 (Int.tmod (IntKind.wrap .i64 (a2)) ((List.length (a0.2.2.2.1 : (List (den tPlace)))) : Int)) (Int.tmod (IntKind.wrap .i64 (a3)) ((List.length (a0.2.2.2.1 : (List (den tPlace)))) : Int))) fun r74 =>
                                        some (((r74.1.1 : Bool), ()), [])
                                      else
                                        some ((false, ()), [])
                                      else none
                                    else
                                      some ((false, ()), [])
                                  else
                                    some ((false, ()), [])
                                else
                                  some ((true, ()), [])
                  else
                    bif (decide ((r7.1.2.1 : Int) = 0)) then
                      Option.bind (innkeepref06_Right n r7.1.1) fun r75 =>
                      bif (r75.1.1 : Bool) then
                        Option.bind (innkeepref09_Others n a0 r7.1.1 ([(Int.tmod (IntKind.wrap .i64 (a2)) ((List.length (a0.2.2.2.1 : (List (den tPlace)))) : Int))] : List Int)) fun r76 =>
                        bif (r76.1.1 : Bool) then
                          if (0 : Int) ≤ (Int.tmod (IntKind.wrap .i64 (a2)) ((List.length (a0.2.2.2.1 : (List (den tPlace)))) : Int)) ∧ (Int.tmod (IntKind.wrap .i64 (a2)) ((List.length (a0.2.2.2.1 : (List (den tPlace)))) : Int)) < (((List.length (r7.1.1.2.2.2.1 : (List (den tPlace)))) : Nat) : Int) then
                          bif (eqT tPlace (List.getD (r7.1.1.2.2.2.1 : (List (den tPlace))) (Int.toNat (Int.tmod (IntKind.wrap .i64 (a2)) ((List.length (a0.2.2.2.1 : (List (den tPlace)))) : Int))) (dft tPlace) : (den tPlace)) (1, (Int.tmod (IntKind.wrap .i64 (a1)) ((List.length (a0.2.1 : (List Int))) : Int)), ())) then
                            Option.bind (innkeepref07_Within n a0 (Int.tmod (IntKind.wrap .i64 (a2)) ((List.length (a0.2.2.2.1 : (List (den tPlace)))) : Int)) (Int.tmod (IntKind.wrap .i64 (a3)) ((List.length (a0.2.2.2.1 : (List (den tPlace)))) : Int))) fun r77 =>
                            some (((r77.1.1 : Bool), ()), [])
                          else
                            some ((false, ()), [])
                          else none
                        else
                          some ((false, ()), [])
                      else
                        some ((false, ()), [])
                    else
                      some ((true, ()), [])
              else
                bif (decide ((r6.1.2.1 : Int) = 0)) then
                  Option.bind (boxes_Take n r6.1.1 (Int.tmod (IntKind.wrap .i64 (a1)) ((List.length (a0.2.1 : (List Int))) : Int)) (Int.tmod (IntKind.wrap .i64 (a2)) ((List.length (a0.2.2.2.1 : (List (den tPlace)))) : Int)) (Int.tmod (IntKind.wrap .i64 (a3)) ((List.length (a0.2.2.2.1 : (List (den tPlace)))) : Int))) fun r78 =>
                  bif (!(decide ((r78.1.2.1 : Int) = 0))) then
                    some ((false, ()), [])
                  else
                    Option.bind (innkeepref06_Same n r78.1.1 a0) fun r79 =>
                    bif (!(r79.1.1 : Bool)) then
                      some ((false, ()), [])
                    else
                      Option.bind (innkeepref06_Right n r6.1.1) fun r80 =>
                      bif (!(r80.1.1 : Bool)) then
                        some ((false, ()), [])
                      else
                        Option.bind (innkeepref09_Others n a0 r6.1.1 ([(Int.tmod (IntKind.wrap .i64 (a2)) ((List.length (a0.2.2.2.1 : (List (den tPlace)))) : Int))] : List Int)) fun r81 =>
                        bif (!(r81.1.1 : Bool)) then
                          some ((false, ()), [])
                        else
                          Option.bind (innkeepref07_Within n r6.1.1 (Int.tmod (IntKind.wrap .i64 (a2)) ((List.length (a0.2.2.2.1 : (List (den tPlace)))) : Int)) (Int.tmod (IntKind.wrap .i64 (a3)) ((List.length (a0.2.2.2.1 : (List (den tPlace)))) : Int))) fun r82 =>
                          bif (!(r82.1.1 : Bool)) then
                            some ((false, ()), [])
                          else
                            Option.bind (innkeepref07_Root n r6.1.1 (Int.tmod (IntKind.wrap .i64 (a2)) ((List.length (a0.2.2.2.1 : (List (den tPlace)))) : Int))) fun r83 =>
                            Option.bind (innkeepref07_Root n a0 (Int.tmod (IntKind.wrap .i64 (a3)) ((List.length (a0.2.2.2.1 : (List (den tPlace)))) : Int))) fun r84 =>
                            bif (!(eqT tPlace r83.1.1 r84.1.1)) then
                              some ((false, ()), [])
                            else
                              bif (decide ((r7.1.2.1 : Int) = 0)) then
                                Option.bind (innkeepref06_Right n r7.1.1) fun r85 =>
                                bif (r85.1.1 : Bool) then
                                  Option.bind (innkeepref09_Others n a0 r7.1.1 ([(Int.tmod (IntKind.wrap .i64 (a2)) ((List.length (a0.2.2.2.1 : (List (den tPlace)))) : Int))] : List Int)) fun r86 =>
                                  bif (r86.1.1 : Bool) then
                                    if (0 : Int) ≤ (Int.tmod (IntKind.wrap .i64 (a2)) ((List.length (a0.2.2.2.1 : (List (den tPlace)))) : Int)) ∧ (Int.tmod (IntKind.wrap .i64 (a2)) ((List.length (a0.2.2.2.1 : (List (den tPlace)))) : Int)) < (((List.length (r7.1.1.2.2.2.1 : (List (den tPlace)))) : Nat) : Int) then
                                    bif (eqT tPlace (List.getD (r7.1.1.2.2.2.1 : (List (den tPlace))) (Int.toNat (Int.tmod (IntKind.wrap .i64 (a2)) ((List.length (a0.2.2.2.1 : (List (den tPlace)))) : Int))) (dft tPlace) : (den tPlace)) (1, (Int.tmod (IntKind.wrap .i64 (a1)) ((List.length (a0.2.1 : (List Int))) : Int)), ())) then
                                      Option.bind (innkeepref07_Within n a0 (Int.tmod (IntKind.wrap .i64 (a2)) ((List.length (a0.2.2.2.1 : (List (den tPlace)))) : Int)) (Int.tmod (IntKind.wrap .i64 (a3)) ((List.length (a0.2.2.2.1 : (List (den tPlace)))) : Int))) fun r87 =>
                                      some (((r87.1.1 : Bool), ()), [])
                                    else
                                      some ((false, ()), [])
                                    else none
                                  else
                                    some ((false, ()), [])
                                else
                                  some ((false, ()), [])
                              else
                                some ((true, ()), [])
                else
                  bif (decide ((r7.1.2.1 : Int) = 0)) then
                    Option.bind (innkeepref06_Right n r7.1.1) fun r88 =>
                    bif (r88.1.1 : Bool) then
                      Option.bind (innkeepref09_Others n a0 r7.1.1 ([(Int.tmod (IntKind.wrap .i64 (a2)) ((List.length (a0.2.2.2.1 : (List (den tPlace)))) : Int))] : List Int)) fun r89 =>
                      bif (r89.1.1 : Bool) then
                        if (0 : Int) ≤ (Int.tmod (IntKind.wrap .i64 (a2)) ((List.length (a0.2.2.2.1 : (List (den tPlace)))) : Int)) ∧ (Int.tmod (IntKind.wrap .i64 (a2)) ((List.length (a0.2.2.2.1 : (List (den tPlace)))) : Int)) < (((List.length (r7.1.1.2.2.2.1 : (List (den tPlace)))) : Nat) : Int) then
                        bif (eqT tPlace (List.getD (r7.1.1.2.2.2.1 : (List (den tPlace))) (Int.toNat (Int.tmod (IntKind.wrap .i64 (a2)) ((List.length (a0.2.2.2.1 : (List (den tPlace)))) : Int))) (dft tPlace) : (den tPlace)) (1, (Int.tmod (IntKind.wrap .i64 (a1)) ((List.length (a0.2.1 : (List Int))) : Int)), ())) then
                          Option.bind (innkeepref07_Within n a0 (Int.tmod (IntKind.wrap .i64 (a2)) ((List.length (a0.2.2.2.1 : (List (den tPlace)))) : Int)) (Int.tmod (IntKind.wrap .i64 (a3)) ((List.length (a0.2.2.2.1 : (List (den tPlace)))) : Int))) fun r90 =>
                          some (((r90.1.1 : Bool), ()), [])
                        else
                          some ((false, ()), [])
                        else none
                      else
                        some ((false, ()), [])
                    else
                      some ((false, ()), [])
                  else
                    some ((true, ()), [])
          else
            bif (!(decide ((r7.1.2.1 : Int) = 0))) then
              Option.bind (innkeepref06_Same n r7.1.1 a0) fun r91 =>
              bif (!(r91.1.1 : Bool)) then
                some ((false, ()), [])
              else
                bif (decide ((r6.1.2.1 : Int) = 0)) then
                  Option.bind (boxes_Take n r6.1.1 (Int.tmod (IntKind.wrap .i64 (a1)) ((List.length (a0.2.1 : (List Int))) : Int)) (Int.tmod (IntKind.wrap .i64 (a2)) ((List.length (a0.2.2.2.1 : (List (den tPlace)))) : Int)) (Int.tmod (IntKind.wrap .i64 (a3)) ((List.length (a0.2.2.2.1 : (List (den tPlace)))) : Int))) fun r92 =>
                  bif (!(decide ((r92.1.2.1 : Int) = 0))) then
                    some ((false, ()), [])
                  else
                    Option.bind (innkeepref06_Same n r92.1.1 a0) fun r93 =>
                    bif (!(r93.1.1 : Bool)) then
                      some ((false, ()), [])
                    else
                      Option.bind (innkeepref06_Right n r6.1.1) fun r94 =>
                      bif (!(r94.1.1 : Bool)) then
                        some ((false, ()), [])
                      else
                        Option.bind (innkeepref09_Others n a0 r6.1.1 ([(Int.tmod (IntKind.wrap .i64 (a2)) ((List.length (a0.2.2.2.1 : (List (den tPlace)))) : Int))] : List Int)) fun r95 =>
                        bif (!(r95.1.1 : Bool)) then
                          some ((false, ()), [])
                        else
                          Option.bind (innkeepref07_Within n r6.1.1 (Int.tmod (IntKind.wrap .i64 (a2)) ((List.length (a0.2.2.2.1 : (List (den tPlace)))) : Int)) (Int.tmod (IntKind.wrap .i64 (a3)) ((List.length (a0.2.2.2.1 : (List (den tPlace)))) : Int))) fun r96 =>
                          bif (!(r96.1.1 : Bool)) then
                            some ((false, ()), [])
                          else
                            Option.bind (innkeepref07_Root n r6.1.1 (Int.tmod (IntKind.wrap .i64 (a2)) ((List.length (a0.2.2.2.1 : (List (den tPlace)))) : Int))) fun r97 =>
                            Option.bind (innkeepref07_Root n a0 (Int.tmod (IntKind.wrap .i64 (a3)) ((List.length (a0.2.2.2.1 : (List (den tPlace)))) : Int))) fun r98 =>
                            bif (!(eqT tPlace r97.1.1 r98.1.1)) then
                              some ((false, ()), [])
                            else
                              bif (decide ((r7.1.2.1 : Int) = 0)) then
                                Option.bind (innkeepref06_Right n r7.1.1) fun r99 =>
                                bif (r99.1.1 : Bool) then
                                  Option.bind (innkeepref09_Others n a0 r7.1.1 ([(Int.tmod (IntKind.wrap .i64 (a2)) ((List.length (a0.2.2.2.1 : (List (den tPlace)))) : Int))] : List Int)) fun r100 =>
                                  bif (r100.1.1 : Bool) then
                                    if (0 : Int) ≤ (Int.tmod (IntKind.wrap .i64 (a2)) ((List.length (a0.2.2.2.1 : (List (den tPlace)))) : Int)) ∧ (Int.tmod (IntKind.wrap .i64 (a2)) ((List.length (a0.2.2.2.1 : (List (den tPlace)))) : Int)) < (((List.length (r7.1.1.2.2.2.1 : (List (den tPlace)))) : Nat) : Int) then
                                    bif (eqT tPlace (List.getD (r7.1.1.2.2.2.1 : (List (den tPlace))) (Int.toNat (Int.tmod (IntKind.wrap .i64 (a2)) ((List.length (a0.2.2.2.1 : (List (den tPlace)))) : Int))) (dft tPlace) : (den tPlace)) (1, (Int.tmod (IntKind.wrap .i64 (a1)) ((List.length (a0.2.1 : (List Int))) : Int)), ())) then
                                      Option.bind (innkeepref07_Within n a0 (Int.tmod (IntKind.wrap .i64 (a2)) ((List.length (a0.2.2.2.1 : (List (den tPlace)))) : Int)) (Int.tmod (IntKind.wrap .i64 (a3)) ((List.length (a0.2.2.2.1 : (List (den tPlace)))) : Int))) fun r101 =>
                                      some (((r101.1.1 : Bool), ()), [])
                                    else
                                      some ((false, ()), [])
                                    else none
                                  else
                                    some ((false, ()), [])
                                else
                                  some ((false, ()), [])
                              else
                                some ((true, ()), [])
                else
                  bif (decide ((r7.1.2.1 : Int) = 0)) then
                    Option.bind (innkeepref06_Right n r7.1.1) fun r102 =>
                    bif (r102.1.1 : Bool) then
                      Option.bind (innkeepref09_Others n a0 r7.1.1 ([(Int.tmod (IntKind.wrap .i64 (a2)) ((List.length (a0.2.2.2.1 : (List (den tPlace)))) : Int))] : List Int)) fun r103 =>
                      bif (r103.1.1 : Bool) then
                        if (0 : Int) ≤ (Int.tmod (IntKind.wrap .i64 (a2)) ((List.length (a0.2.2.2.1 : (List (den tPlace)))) : Int)) ∧ (Int.tmod (IntKind.wrap .i64 (a2)) ((List.length (a0.2.2.2.1 : (List (den tPlace)))) : Int)) < (((List.length (r7.1.1.2.2.2.1 : (List (den tPlace)))) : Nat) : Int) then
                        bif (eqT tPlace (List.getD (r7.1.1.2.2.2.1 : (List (den tPlace))) (Int.toNat (Int.tmod (IntKind.wrap .i64 (a2)) ((List.length (a0.2.2.2.1 : (List (den tPlace)))) : Int))) (dft tPlace) : (den tPlace)) (1, (Int.tmod (IntKind.wrap .i64 (a1)) ((List.length (a0.2.1 : (List Int))) : Int)), ())) then
                          Option.bind (innkeepref07_Within n a0 (Int.tmod (IntKind.wrap .i64 (a2)) ((List.length (a0.2.2.2.1 : (List (den tPlace)))) : Int)) (Int.tmod (IntKind.wrap .i64 (a3)) ((List.length (a0.2.2.2.1 : (List (den tPlace)))) : Int))) fun r104 =>
                          some (((r104.1.1 : Bool), ()), [])
                        else
                          some ((false, ()), [])
                        else none
                      else
                        some ((false, ()), [])
                    else
                      some ((false, ()), [])
                  else
                    some ((true, ()), [])
            else
              bif (decide ((r6.1.2.1 : Int) = 0)) then
                Option.bind (boxes_Take n r6.1.1 (Int.tmod (IntKind.wrap .i64 (a1)) ((List.length (a0.2.1 : (List Int))) : Int)) (Int.tmod (IntKind.wrap .i64 (a2)) ((List.length (a0.2.2.2.1 : (List (den tPlace)))) : Int)) (Int.tmod (IntKind.wrap .i64 (a3)) ((List.length (a0.2.2.2.1 : (List (den tPlace)))) : Int))) fun r105 =>
                bif (!(decide ((r105.1.2.1 : Int) = 0))) then
                  some ((false, ()), [])
                else
                  Option.bind (innkeepref06_Same n r105.1.1 a0) fun r106 =>
                  bif (!(r106.1.1 : Bool)) then
                    some ((false, ()), [])
                  else
                    Option.bind (innkeepref06_Right n r6.1.1) fun r107 =>
                    bif (!(r107.1.1 : Bool)) then
                      some ((false, ()), [])
                    else
                      Option.bind (innkeepref09_Others n a0 r6.1.1 ([(Int.tmod (IntKind.wrap .i64 (a2)) ((List.length (a0.2.2.2.1 : (List (den tPlace)))) : Int))] : List Int)) fun r108 =>
                      bif (!(r108.1.1 : Bool)) then
                        some ((false, ()), [])
                      else
                        Option.bind (innkeepref07_Within n r6.1.1 (Int.tmod (IntKind.wrap .i64 (a2)) ((List.length (a0.2.2.2.1 : (List (den tPlace)))) : Int)) (Int.tmod (IntKind.wrap .i64 (a3)) ((List.length (a0.2.2.2.1 : (List (den tPlace)))) : Int))) fun r109 =>
                        bif (!(r109.1.1 : Bool)) then
                          some ((false, ()), [])
                        else
                          Option.bind (innkeepref07_Root n r6.1.1 (Int.tmod (IntKind.wrap .i64 (a2)) ((List.length (a0.2.2.2.1 : (List (den tPlace)))) : Int))) fun r110 =>
                          Option.bind (innkeepref07_Root n a0 (Int.tmod (IntKind.wrap .i64 (a3)) ((List.length (a0.2.2.2.1 : (List (den tPlace)))) : Int))) fun r111 =>
                          bif (!(eqT tPlace r110.1.1 r111.1.1)) then
                            some ((false, ()), [])
                          else
                            bif (decide ((r7.1.2.1 : Int) = 0)) then
                              Option.bind (innkeepref06_Right n r7.1.1) fun r112 =>
                              bif (r112.1.1 : Bool) then
                                Option.bind (innkeepref09_Others n a0 r7.1.1 ([(Int.tmod (IntKind.wrap .i64 (a2)) ((List.length (a0.2.2.2.1 : (List (den tPlace)))) : Int))] : List Int)) fun r113 =>
                                bif (r113.1.1 : Bool) then
                                  if (0 : Int) ≤ (Int.tmod (IntKind.wrap .i64 (a2)) ((List.length (a0.2.2.2.1 : (List (den tPlace)))) : Int)) ∧ (Int.tmod (IntKind.wrap .i64 (a2)) ((List.length (a0.2.2.2.1 : (List (den tPlace)))) : Int)) < (((List.length (r7.1.1.2.2.2.1 : (List (den tPlace)))) : Nat) : Int) then
                                  bif (eqT tPlace (List.getD (r7.1.1.2.2.2.1 : (List (den tPlace))) (Int.toNat (Int.tmod (IntKind.wrap .i64 (a2)) ((List.length (a0.2.2.2.1 : (List (den tPlace)))) : Int))) (dft tPlace) : (den tPlace)) (1, (Int.tmod (IntKind.wrap .i64 (a1)) ((List.length (a0.2.1 : (List Int))) : Int)), ())) then
                                    Option.bind (innkeepref07_Within n a0 (Int.tmod (IntKind.wrap .i64 (a2)) ((List.length (a0.2.2.2.1 : (List (den tPlace)))) : Int)) (Int.tmod (IntKind.wrap .i64 (a3)) ((List.length (a0.2.2.2.1 : (List (den tPlace)))) : Int))) fun r114 =>
                                    some (((r114.1.1 : Bool), ()), [])
                                  else
                                    some ((false, ()), [])
                                  else none
                                else
                                  some ((false, ()), [])
                              else
                                some ((false, ()), [])
                            else
                              some ((true, ()), [])
              else
                bif (decide ((r7.1.2.1 : Int) = 0)) then
                  Option.bind (innkeepref06_Right n r7.1.1) fun r115 =>
                  bif (r115.1.1 : Bool) then
                    Option.bind (innkeepref09_Others n a0 r7.1.1 ([(Int.tmod (IntKind.wrap .i64 (a2)) ((List.length (a0.2.2.2.1 : (List (den tPlace)))) : Int))] : List Int)) fun r116 =>
                    bif (r116.1.1 : Bool) then
                      if (0 : Int) ≤ (Int.tmod (IntKind.wrap .i64 (a2)) ((List.length (a0.2.2.2.1 : (List (den tPlace)))) : Int)) ∧ (Int.tmod (IntKind.wrap .i64 (a2)) ((List.length (a0.2.2.2.1 : (List (den tPlace)))) : Int)) < (((List.length (r7.1.1.2.2.2.1 : (List (den tPlace)))) : Nat) : Int) then
                      bif (eqT tPlace (List.getD (r7.1.1.2.2.2.1 : (List (den tPlace))) (Int.toNat (Int.tmod (IntKind.wrap .i64 (a2)) ((List.length (a0.2.2.2.1 : (List (den tPlace)))) : Int))) (dft tPlace) : (den tPlace)) (1, (Int.tmod (IntKind.wrap .i64 (a1)) ((List.length (a0.2.1 : (List Int))) : Int)), ())) then
                        Option.bind (innkeepref07_Within n a0 (Int.tmod (IntKind.wrap .i64 (a2)) ((List.length (a0.2.2.2.1 : (List (den tPlace)))) : Int)) (Int.tmod (IntKind.wrap .i64 (a3)) ((List.length (a0.2.2.2.1 : (List (den tPlace)))) : Int))) fun r117 =>
                        some (((r117.1.1 : Bool), ()), [])
                      else
                        some ((false, ()), [])
                      else none
                    else
                      some ((false, ()), [])
                  else
                    some ((false, ()), [])
                else
                  some ((true, ()), []) := by kernel_rfl
def innkeeplaw10_BoxesHold.res : List Sh := [.d .bool]
@[reducible] def innkeeplaw10_BoxesHold.R : Type := dShL [.d .bool] × Fresh
def innkeeplaw10_BoxesHold (n : Nat) (a0 : (den tWorld)) (a1 : Int) (a2 : Int) (a3 : Int) : Option innkeeplaw10_BoxesHold.R := gc n 5 [.dat tWorld a0 [], .dat (.int .u8) a1 [], .dat (.int .i64) a2 [], .dat (.int .i64) a3 []] [.d .bool]
def innkeeplaw10_BoxesHold.l0 (n m0 : Nat) (t0 : (den tWorld)) (t1 : Int) (t2 : Int) (t3 : Int) (t8 : Bool) (t11 : Int) (t12 : Int) (o0 : (den tWorld)) (o1 : (den tWorld)) (o2 : (den tWorld)) (o3 : (List (den tPlace))) : Option innkeeplaw10_BoxesHold.R :=
  loopN (fun Kn K s h => run (gc n) n innkeeplaw10_BoxesHold.c19 Kn K s h) m0 (kBlk 0 (kSeq (run (gc n) n) innkeeplaw10_BoxesHold.c14 (retK innkeeplaw10_BoxesHold.fn innkeeplaw10_BoxesHold.res) (retK innkeeplaw10_BoxesHold.fn innkeeplaw10_BoxesHold.res)) (retK innkeeplaw10_BoxesHold.fn innkeeplaw10_BoxesHold.res))
    [(0, .dat tWorld t0 []), (1, .dat (.int .u8) t1 []), (2, .dat (.int .i64) t2 []), (3, .dat (.int .i64) t3 []), (4, .ptr 0 []), (8, .dat .bool t8 []), (9, .ptr 1 []), (10, .ptr 2 []), (11, .dat (.int .i64) t11 []), (12, .dat (.int .i64) t12 [])]
    [.box tWorld o0 [], .box tWorld o1 [], .box tWorld o2 [([3], some 3)], .arr tPlace o3]
def innkeeplaw10_BoxesHold.l1 (n m0 : Nat) (t0_1 : (den tWorld)) (t1_1 : Int) (t2_1 : Int) (t3_1 : Int) (t8_1 : Bool) (t11_1 : Int) (t12_1 : Int) (o0_1 : (den tWorld)) (o1_1 : (den tWorld)) (o2_1 : (den tWorld)) : Option innkeeplaw10_BoxesHold.R :=
  loopN (fun Kn K s h => run (gc n) n innkeeplaw10_BoxesHold.c19 Kn K s h) m0 (kBlk 0 (kSeq (run (gc n) n) innkeeplaw10_BoxesHold.c14 (retK innkeeplaw10_BoxesHold.fn innkeeplaw10_BoxesHold.res) (retK innkeeplaw10_BoxesHold.fn innkeeplaw10_BoxesHold.res)) (retK innkeeplaw10_BoxesHold.fn innkeeplaw10_BoxesHold.res))
    [(0, .dat tWorld t0_1 []), (1, .dat (.int .u8) t1_1 []), (2, .dat (.int .i64) t2_1 []), (3, .dat (.int .i64) t3_1 []), (4, .ptr 0 []), (8, .dat .bool t8_1 []), (9, .ptr 1 []), (10, .ptr 2 []), (11, .dat (.int .i64) t11_1 []), (12, .dat (.int .i64) t12_1 [])]
    [.box tWorld o0_1 [], .box tWorld o1_1 [], .box tWorld o2_1 []]
theorem innkeeplaw10_BoxesHold.l0_eq (n m0 : Nat) (t0 : (den tWorld)) (t1 : Int) (t2 : Int) (t3 : Int) (t8 : Bool) (t11 : Int) (t12 : Int) (o0 : (den tWorld)) (o1 : (den tWorld)) (o2 : (den tWorld)) (o3 : (List (den tPlace))) : innkeeplaw10_BoxesHold.l0 n (m0 + 1) t0 t1 t2 t3 t8 t11 t12 o0 o1 o2 o3 =
  bif (decide (t12 < ((List.length o3) : Int))) then
    if (0 : Int) ≤ t12 ∧ t12 < (((List.length o3) : Nat) : Int) then
    innkeeplaw10_BoxesHold.l0 n m0 t0 t1 t2 t3 t8 t11 (IntKind.wrap .i64 (t12 + 1)) o0 o1 o2 (List.set o3 (Int.toNat t12) (((List.getD o3 (Int.toNat t12) (dft tPlace) : (den tPlace)).1 : Int), 99, ()) : (List (den tPlace)))
    else none
  else
    Option.bind (innkeepref06_Same n o1 o0) fun r8 =>
    some (((r8.1.1 : Bool), ()), []) := by kernel_rfl
theorem innkeeplaw10_BoxesHold.l1_eq (n m0 : Nat) (t0_1 : (den tWorld)) (t1_1 : Int) (t2_1 : Int) (t3_1 : Int) (t8_1 : Bool) (t11_1 : Int) (t12_1 : Int) (o0_1 : (den tWorld)) (o1_1 : (den tWorld)) (o2_1 : (den tWorld)) : innkeeplaw10_BoxesHold.l1 n (m0 + 1) t0_1 t1_1 t2_1 t3_1 t8_1 t11_1 t12_1 o0_1 o1_1 o2_1 =
  bif (decide (t12_1 < ((List.length (o2_1.2.2.2.1 : (List (den tPlace)))) : Int))) then
    if (0 : Int) ≤ t12_1 ∧ t12_1 < (((List.length (o2_1.2.2.2.1 : (List (den tPlace)))) : Nat) : Int) then
    none
    else none
  else
    Option.bind (innkeepref06_Same n o1_1 o0_1) fun r11 =>
    some (((r11.1.1 : Bool), ()), []) := by kernel_rfl
theorem innkeeplaw10_BoxesHold.eq (n : Nat) (a0 : (den tWorld)) (a1 : Int) (a2 : Int) (a3 : Int) : innkeeplaw10_BoxesHold (n + 1) a0 a1 a2 a3 =
  Option.bind (innkeeplaw10_awake n) fun r1 =>
  bif (!(r1.1.1 : Bool)) then
    Option.bind (innkeeplaw10_awake n) fun r2 =>
    some (((r2.1.1 : Bool), ()), [])
  else
    Option.bind (innkeeplaw10_fits n a0) fun r3 =>
    bif (!(r3.1.1 : Bool)) then
      Option.bind (innkeeplaw10_awake n) fun r4 =>
      some (((r4.1.1 : Bool), ()), [])
    else
      Option.bind (innkeepref06_Copied n a0) fun r5 =>
      if ((List.length (a0.2.1 : (List Int))) : Int) = 0 then none else
      Option.bind (boxes_Put n r5.1.1 (Int.tmod (IntKind.wrap .i64 (a1)) ((List.length (a0.2.1 : (List Int))) : Int)) a2 a3) fun r6 =>
      bif (keepAll r6.2 [((0, [3]), 3)]) then
        if ((List.length (a0.2.1 : (List Int))) : Int) = 0 then none else
        Option.bind (boxes_Take n r5.1.1 (Int.tmod (IntKind.wrap .i64 (a1)) ((List.length (a0.2.1 : (List Int))) : Int)) a2 a3) fun r7 =>
        bif (decide ((r6.1.2.1 : Int) = 0)) then
          innkeeplaw10_BoxesHold.l0 n n a0 a1 a2 a3 false (r6.1.2.1 : Int) 0 a0 r5.1.1 (r6.1.1.1, (r6.1.1.2.1 : (List Int)), (r6.1.1.2.2.1 : (List Int)), ([] : List (den tPlace)), ()) (r6.1.1.2.2.2.1 : (List (den tPlace)))
        else
          Option.bind (innkeepref06_Same n r5.1.1 a0) fun r9 =>
          some (((r9.1.1 : Bool), ()), [])
      else
        if ((List.length (a0.2.1 : (List Int))) : Int) = 0 then none else
        Option.bind (boxes_Take n r5.1.1 (Int.tmod (IntKind.wrap .i64 (a1)) ((List.length (a0.2.1 : (List Int))) : Int)) a2 a3) fun r10 =>
        bif (decide ((r6.1.2.1 : Int) = 0)) then
          innkeeplaw10_BoxesHold.l1 n n a0 a1 a2 a3 false (r6.1.2.1 : Int) 0 a0 r5.1.1 r6.1.1
        else
          Option.bind (innkeepref06_Same n r5.1.1 a0) fun r12 =>
          some (((r12.1.1 : Bool), ()), []) := by kernel_rfl
def innkeeplaw10_BoxesNear.res : List Sh := [.d .bool]
@[reducible] def innkeeplaw10_BoxesNear.R : Type := dShL [.d .bool] × Fresh
def innkeeplaw10_BoxesNear (n : Nat) (a0 : (den tWorld)) (a1 : Int) (a2 : Int) (a3 : Int) : Option innkeeplaw10_BoxesNear.R := gc n 6 [.dat tWorld a0 [], .dat (.int .u8) a1 [], .dat (.int .u8) a2 [], .dat (.int .u8) a3 []] [.d .bool]
theorem innkeeplaw10_BoxesNear.eq (n : Nat) (a0 : (den tWorld)) (a1 : Int) (a2 : Int) (a3 : Int) : innkeeplaw10_BoxesNear (n + 1) a0 a1 a2 a3 =
  Option.bind (innkeeplaw10_awake n) fun r1 =>
  bif (!(r1.1.1 : Bool)) then
    Option.bind (innkeeplaw10_awake n) fun r2 =>
    some (((r2.1.1 : Bool), ()), [])
  else
    Option.bind (innkeeplaw10_fits n a0) fun r3 =>
    bif (!(r3.1.1 : Bool)) then
      Option.bind (innkeeplaw10_awake n) fun r4 =>
      some (((r4.1.1 : Bool), ()), [])
    else
      bif (decide (((List.length (a0.2.2.2.1 : (List (den tPlace)))) : Int) = 0)) then
        Option.bind (innkeeplaw10_awake n) fun r5 =>
        some (((r5.1.1 : Bool), ()), [])
      else
        if ((List.length (a0.2.1 : (List Int))) : Int) = 0 then none else
        if ((List.length (a0.2.2.2.1 : (List (den tPlace)))) : Int) = 0 then none else
        if ((List.length (a0.2.2.2.1 : (List (den tPlace)))) : Int) = 0 then none else
        Option.bind (boxes_Put n a0 (Int.tmod (IntKind.wrap .i64 (a1)) ((List.length (a0.2.1 : (List Int))) : Int)) (Int.tmod (IntKind.wrap .i64 (a2)) ((List.length (a0.2.2.2.1 : (List (den tPlace)))) : Int)) (Int.tmod (IntKind.wrap .i64 (a3)) ((List.length (a0.2.2.2.1 : (List (den tPlace)))) : Int))) fun r6 =>
        Option.bind (boxes_Take n a0 (Int.tmod (IntKind.wrap .i64 (a1)) ((List.length (a0.2.1 : (List Int))) : Int)) (Int.tmod (IntKind.wrap .i64 (a2)) ((List.length (a0.2.2.2.1 : (List (den tPlace)))) : Int)) (Int.tmod (IntKind.wrap .i64 (a3)) ((List.length (a0.2.2.2.1 : (List (den tPlace)))) : Int))) fun r7 =>
        Option.bind (boxes_Near n a0 (Int.tmod (IntKind.wrap .i64 (a1)) ((List.length (a0.2.1 : (List Int))) : Int)) (Int.tmod (IntKind.wrap .i64 (a2)) ((List.length (a0.2.2.2.1 : (List (den tPlace)))) : Int))) fun r8 =>
        bif (decide ((r6.1.2.1 : Int) = 0)) then
          bif (!(r8.1.1 : Bool)) then
            some ((false, ()), [])
          else
            Option.bind (boxes_Near n a0 (Int.tmod (IntKind.wrap .i64 (a1)) ((List.length (a0.2.1 : (List Int))) : Int)) (Int.tmod (IntKind.wrap .i64 (a3)) ((List.length (a0.2.2.2.1 : (List (den tPlace)))) : Int))) fun r9 =>
            bif (!(r9.1.1 : Bool)) then
              some ((false, ()), [])
            else
              if (0 : Int) ≤ (Int.tmod (IntKind.wrap .i64 (a2)) ((List.length (a0.2.2.2.1 : (List (den tPlace)))) : Int)) ∧ (Int.tmod (IntKind.wrap .i64 (a2)) ((List.length (a0.2.2.2.1 : (List (den tPlace)))) : Int)) < (((List.length (a0.2.2.2.1 : (List (den tPlace)))) : Nat) : Int) then
              bif (decide (((List.getD (a0.2.2.2.1 : (List (den tPlace))) (Int.toNat (Int.tmod (IntKind.wrap .i64 (a2)) ((List.length (a0.2.2.2.1 : (List (den tPlace)))) : Int))) (dft tPlace) : (den tPlace)).1 : Int) = 2)) then
                Option.bind (boxes_Near n a0 (Int.tmod (IntKind.wrap .i64 (a1)) ((List.length (a0.2.1 : (List Int))) : Int)) ((List.getD (a0.2.2.2.1 : (List (den tPlace))) (Int.toNat (Int.tmod (IntKind.wrap .i64 (a2)) ((List.length (a0.2.2.2.1 : (List (den tPlace)))) : Int))) (dft tPlace) : (den tPlace)).2.1 : Int)) fun r10 =>
                some (((eqT .bool (r8.1.1 : Bool) (r10.1.1 : Bool)), ()), [])
              else
                if (0 : Int) ≤ (Int.tmod (IntKind.wrap .i64 (a1)) ((List.length (a0.2.1 : (List Int))) : Int)) ∧ (Int.tmod (IntKind.wrap .i64 (a1)) ((List.length (a0.2.1 : (List Int))) : Int)) < (((List.length (a0.2.1 : (List Int))) : Nat) : Int) then
                bif (eqT tPlace (List.getD (a0.2.2.2.1 : (List (den tPlace))) (Int.toNat (Int.tmod (IntKind.wrap .i64 (a2)) ((List.length (a0.2.2.2.1 : (List (den tPlace)))) : Int))) (dft tPlace) : (den tPlace)) (0, (List.getD (a0.2.1 : (List Int)) (Int.toNat (Int.tmod (IntKind.wrap .i64 (a1)) ((List.length (a0.2.1 : (List Int))) : Int))) (0 : Int) : Int), ())) then
                  some (((eqT .bool (r8.1.1 : Bool) true), ()), [])
                else
                  some (((eqT .bool (r8.1.1 : Bool) (eqT tPlace (List.getD (a0.2.2.2.1 : (List (den tPlace))) (Int.toNat (Int.tmod (IntKind.wrap .i64 (a2)) ((List.length (a0.2.2.2.1 : (List (den tPlace)))) : Int))) (dft tPlace) : (den tPlace)) (1, (Int.tmod (IntKind.wrap .i64 (a1)) ((List.length (a0.2.1 : (List Int))) : Int)), ()))), ()), [])
                else none
              else none
        else
          bif (decide ((r7.1.2.1 : Int) = 0)) then
            bif (!(r8.1.1 : Bool)) then
              some ((false, ()), [])
            else
              Option.bind (boxes_Near n a0 (Int.tmod (IntKind.wrap .i64 (a1)) ((List.length (a0.2.1 : (List Int))) : Int)) (Int.tmod (IntKind.wrap .i64 (a3)) ((List.length (a0.2.2.2.1 : (List (den tPlace)))) : Int))) fun r11 =>
              bif (!(r11.1.1 : Bool)) then
                some ((false, ()), [])
              else
                if (0 : Int) ≤ (Int.tmod (IntKind.wrap .i64 (a2)) ((List.length (a0.2.2.2.1 : (List (den tPlace)))) : Int)) ∧ (Int.tmod (IntKind.wrap .i64 (a2)) ((List.length (a0.2.2.2.1 : (List (den tPlace)))) : Int)) < (((List.length (a0.2.2.2.1 : (List (den tPlace)))) : Nat) : Int) then
                bif (decide (((List.getD (a0.2.2.2.1 : (List (den tPlace))) (Int.toNat (Int.tmod (IntKind.wrap .i64 (a2)) ((List.length (a0.2.2.2.1 : (List (den tPlace)))) : Int))) (dft tPlace) : (den tPlace)).1 : Int) = 2)) then
                  Option.bind (boxes_Near n a0 (Int.tmod (IntKind.wrap .i64 (a1)) ((List.length (a0.2.1 : (List Int))) : Int)) ((List.getD (a0.2.2.2.1 : (List (den tPlace))) (Int.toNat (Int.tmod (IntKind.wrap .i64 (a2)) ((List.length (a0.2.2.2.1 : (List (den tPlace)))) : Int))) (dft tPlace) : (den tPlace)).2.1 : Int)) fun r12 =>
                  some (((eqT .bool (r8.1.1 : Bool) (r12.1.1 : Bool)), ()), [])
                else
                  if (0 : Int) ≤ (Int.tmod (IntKind.wrap .i64 (a1)) ((List.length (a0.2.1 : (List Int))) : Int)) ∧ (Int.tmod (IntKind.wrap .i64 (a1)) ((List.length (a0.2.1 : (List Int))) : Int)) < (((List.length (a0.2.1 : (List Int))) : Nat) : Int) then
                  bif (eqT tPlace (List.getD (a0.2.2.2.1 : (List (den tPlace))) (Int.toNat (Int.tmod (IntKind.wrap .i64 (a2)) ((List.length (a0.2.2.2.1 : (List (den tPlace)))) : Int))) (dft tPlace) : (den tPlace)) (0, (List.getD (a0.2.1 : (List Int)) (Int.toNat (Int.tmod (IntKind.wrap .i64 (a1)) ((List.length (a0.2.1 : (List Int))) : Int))) (0 : Int) : Int), ())) then
                    some (((eqT .bool (r8.1.1 : Bool) true), ()), [])
                  else
                    some (((eqT .bool (r8.1.1 : Bool) (eqT tPlace (List.getD (a0.2.2.2.1 : (List (den tPlace))) (Int.toNat (Int.tmod (IntKind.wrap .i64 (a2)) ((List.length (a0.2.2.2.1 : (List (den tPlace)))) : Int))) (dft tPlace) : (den tPlace)) (1, (Int.tmod (IntKind.wrap .i64 (a1)) ((List.length (a0.2.1 : (List Int))) : Int)), ()))), ()), [])
                  else none
                else none
          else
            if (0 : Int) ≤ (Int.tmod (IntKind.wrap .i64 (a2)) ((List.length (a0.2.2.2.1 : (List (den tPlace)))) : Int)) ∧ (Int.tmod (IntKind.wrap .i64 (a2)) ((List.length (a0.2.2.2.1 : (List (den tPlace)))) : Int)) < (((List.length (a0.2.2.2.1 : (List (den tPlace)))) : Nat) : Int) then
            bif (decide (((List.getD (a0.2.2.2.1 : (List (den tPlace))) (Int.toNat (Int.tmod (IntKind.wrap .i64 (a2)) ((List.length (a0.2.2.2.1 : (List (den tPlace)))) : Int))) (dft tPlace) : (den tPlace)).1 : Int) = 2)) then
              Option.bind (boxes_Near n a0 (Int.tmod (IntKind.wrap .i64 (a1)) ((List.length (a0.2.1 : (List Int))) : Int)) ((List.getD (a0.2.2.2.1 : (List (den tPlace))) (Int.toNat (Int.tmod (IntKind.wrap .i64 (a2)) ((List.length (a0.2.2.2.1 : (List (den tPlace)))) : Int))) (dft tPlace) : (den tPlace)).2.1 : Int)) fun r13 =>
              some (((eqT .bool (r8.1.1 : Bool) (r13.1.1 : Bool)), ()), [])
            else
              if (0 : Int) ≤ (Int.tmod (IntKind.wrap .i64 (a1)) ((List.length (a0.2.1 : (List Int))) : Int)) ∧ (Int.tmod (IntKind.wrap .i64 (a1)) ((List.length (a0.2.1 : (List Int))) : Int)) < (((List.length (a0.2.1 : (List Int))) : Nat) : Int) then
              bif (eqT tPlace (List.getD (a0.2.2.2.1 : (List (den tPlace))) (Int.toNat (Int.tmod (IntKind.wrap .i64 (a2)) ((List.length (a0.2.2.2.1 : (List (den tPlace)))) : Int))) (dft tPlace) : (den tPlace)) (0, (List.getD (a0.2.1 : (List Int)) (Int.toNat (Int.tmod (IntKind.wrap .i64 (a1)) ((List.length (a0.2.1 : (List Int))) : Int))) (0 : Int) : Int), ())) then
                some (((eqT .bool (r8.1.1 : Bool) true), ()), [])
              else
                some (((eqT .bool (r8.1.1 : Bool) (eqT tPlace (List.getD (a0.2.2.2.1 : (List (den tPlace))) (Int.toNat (Int.tmod (IntKind.wrap .i64 (a2)) ((List.length (a0.2.2.2.1 : (List (den tPlace)))) : Int))) (dft tPlace) : (den tPlace)) (1, (Int.tmod (IntKind.wrap .i64 (a1)) ((List.length (a0.2.1 : (List Int))) : Int)), ()))), ()), [])
              else none
            else none := by kernel_rfl
def innkeeplaw10_BoxesErrors.res : List Sh := [.d .bool]
@[reducible] def innkeeplaw10_BoxesErrors.R : Type := dShL [.d .bool] × Fresh
def innkeeplaw10_BoxesErrors (n : Nat) (a0 : (den tWorld)) (a1 : Int) (a2 : Int) (a3 : Int) : Option innkeeplaw10_BoxesErrors.R := gc n 7 [.dat tWorld a0 [], .dat (.int .u8) a1 [], .dat (.int .u8) a2 [], .dat (.int .u8) a3 []] [.d .bool]
theorem innkeeplaw10_BoxesErrors.eq (n : Nat) (a0 : (den tWorld)) (a1 : Int) (a2 : Int) (a3 : Int) : innkeeplaw10_BoxesErrors (n + 1) a0 a1 a2 a3 =
  Option.bind (innkeeplaw10_awake n) fun r1 =>
  bif (!(r1.1.1 : Bool)) then
    Option.bind (innkeeplaw10_awake n) fun r2 =>
    some (((r2.1.1 : Bool), ()), [])
  else
    Option.bind (innkeeplaw10_fits n a0) fun r3 =>
    bif (!(r3.1.1 : Bool)) then
      Option.bind (innkeeplaw10_awake n) fun r4 =>
      some (((r4.1.1 : Bool), ()), [])
    else
      bif (decide (((List.length (a0.2.2.2.1 : (List (den tPlace)))) : Int) = 0)) then
        Option.bind (innkeeplaw10_awake n) fun r5 =>
        some (((r5.1.1 : Bool), ()), [])
      else
        if ((List.length (a0.2.1 : (List Int))) : Int) = 0 then none else
        if ((List.length (a0.2.2.2.1 : (List (den tPlace)))) : Int) = 0 then none else
        if ((List.length (a0.2.2.2.1 : (List (den tPlace)))) : Int) = 0 then none else
        Option.bind (boxes_Put n a0 (Int.tmod (IntKind.wrap .i64 (a1)) ((List.length (a0.2.1 : (List Int))) : Int)) (Int.tmod (IntKind.wrap .i64 (a2)) ((List.length (a0.2.2.2.1 : (List (den tPlace)))) : Int)) (Int.tmod (IntKind.wrap .i64 (a3)) ((List.length (a0.2.2.2.1 : (List (den tPlace)))) : Int))) fun r6 =>
        Option.bind (boxes_Take n a0 (Int.tmod (IntKind.wrap .i64 (a1)) ((List.length (a0.2.1 : (List Int))) : Int)) (Int.tmod (IntKind.wrap .i64 (a2)) ((List.length (a0.2.2.2.1 : (List (den tPlace)))) : Int)) (Int.tmod (IntKind.wrap .i64 (a3)) ((List.length (a0.2.2.2.1 : (List (den tPlace)))) : Int))) fun r7 =>
        bif (decide ((r6.1.2.1 : Int) = 0)) then
          if (0 : Int) ≤ (Int.tmod (IntKind.wrap .i64 (a3)) ((List.length (a0.2.2.2.1 : (List (den tPlace)))) : Int)) ∧ (Int.tmod (IntKind.wrap .i64 (a3)) ((List.length (a0.2.2.2.1 : (List (den tPlace)))) : Int)) < (((List.length (a0.1.2.2.2.2.1 : (List Bool))) : Nat) : Int) then
          bif (!(List.getD (a0.1.2.2.2.2.1 : (List Bool)) (Int.toNat (Int.tmod (IntKind.wrap .i64 (a3)) ((List.length (a0.2.2.2.1 : (List (den tPlace)))) : Int))) false : Bool)) then
            some ((false, ()), [])
          else
            Option.bind (innkeepref07_Within n a0 (Int.tmod (IntKind.wrap .i64 (a3)) ((List.length (a0.2.2.2.1 : (List (den tPlace)))) : Int)) (Int.tmod (IntKind.wrap .i64 (a2)) ((List.length (a0.2.2.2.1 : (List (den tPlace)))) : Int))) fun r8 =>
            bif (r8.1.1 : Bool) then
              some ((false, ()), [])
            else
              bif (decide ((r7.1.2.1 : Int) = 0)) then
                if (0 : Int) ≤ (Int.tmod (IntKind.wrap .i64 (a2)) ((List.length (a0.2.2.2.1 : (List (den tPlace)))) : Int)) ∧ (Int.tmod (IntKind.wrap .i64 (a2)) ((List.length (a0.2.2.2.1 : (List (den tPlace)))) : Int)) < (((List.length (a0.2.2.2.1 : (List (den tPlace)))) : Nat) : Int) then
                bif (!(eqT tPlace (List.getD (a0.2.2.2.1 : (List (den tPlace))) (Int.toNat (Int.tmod (IntKind.wrap .i64 (a2)) ((List.length (a0.2.2.2.1 : (List (den tPlace)))) : Int))) (dft tPlace) : (den tPlace)) (2, (Int.tmod (IntKind.wrap .i64 (a3)) ((List.length (a0.2.2.2.1 : (List (den tPlace)))) : Int)), ()))) then
                  some ((false, ()), [])
                else
                  bif (decide ((Int.tmod (IntKind.wrap .i64 (a2)) ((List.length (a0.2.2.2.1 : (List (den tPlace)))) : Int)) = (Int.tmod (IntKind.wrap .i64 (a3)) ((List.length (a0.2.2.2.1 : (List (den tPlace)))) : Int)))) then
                    bif (decide ((r6.1.2.1 : Int) = 0)) then
                      some ((false, ()), [])
                    else
                      bif (decide ((r7.1.2.1 : Int) = 0)) then
                        some ((false, ()), [])
                      else
                        bif (!(decide ((r6.1.2.1 : Int) = 0))) then
                          some ((true, ()), [])
                        else
                          Option.bind (innkeepref07_Room n r6.1.1 (1, (Int.tmod (IntKind.wrap .i64 (a1)) ((List.length (a0.2.1 : (List Int))) : Int)), ())) fun r9 =>
                          Option.bind (innkeepref07_Room n a0 (1, (Int.tmod (IntKind.wrap .i64 (a1)) ((List.length (a0.2.1 : (List Int))) : Int)), ())) fun r10 =>
                          bif (decide ((r9.1.1 : Int) = (IntKind.wrap .i64 ((r10.1.1 : Int) + 1)))) then
                            Option.bind (innkeepref07_Room n r6.1.1 (2, (Int.tmod (IntKind.wrap .i64 (a3)) ((List.length (a0.2.2.2.1 : (List (den tPlace)))) : Int)), ())) fun r11 =>
                            Option.bind (innkeepref07_Room n a0 (2, (Int.tmod (IntKind.wrap .i64 (a3)) ((List.length (a0.2.2.2.1 : (List (den tPlace)))) : Int)), ())) fun r12 =>
                            some (((decide ((r11.1.1 : Int) = (IntKind.wrap .i64 ((r12.1.1 : Int) - 1)))), ()), [])
                          else
                            some ((false, ()), [])
                  else
                    bif (!(decide ((r6.1.2.1 : Int) = 0))) then
                      some ((true, ()), [])
                    else
                      Option.bind (innkeepref07_Room n r6.1.1 (1, (Int.tmod (IntKind.wrap .i64 (a1)) ((List.length (a0.2.1 : (List Int))) : Int)), ())) fun r13 =>
                      Option.bind (innkeepref07_Room n a0 (1, (Int.tmod (IntKind.wrap .i64 (a1)) ((List.length (a0.2.1 : (List Int))) : Int)), ())) fun r14 =>
                      bif (decide ((r13.1.1 : Int) = (IntKind.wrap .i64 ((r14.1.1 : Int) + 1)))) then
                        Option.bind (innkeepref07_Room n r6.1.1 (2, (Int.tmod (IntKind.wrap .i64 (a3)) ((List.length (a0.2.2.2.1 : (List (den tPlace)))) : Int)), ())) fun r15 =>
                        Option.bind (innkeepref07_Room n a0 (2, (Int.tmod (IntKind.wrap .i64 (a3)) ((List.length (a0.2.2.2.1 : (List (den tPlace)))) : Int)), ())) fun r16 =>
                        some (((decide ((r15.1.1 : Int) = (IntKind.wrap .i64 ((r16.1.1 : Int) - 1)))), ()), [])
                      else
                        some ((false, ()), [])
                else none
              else
                bif (decide ((Int.tmod (IntKind.wrap .i64 (a2)) ((List.length (a0.2.2.2.1 : (List (den tPlace)))) : Int)) = (Int.tmod (IntKind.wrap .i64 (a3)) ((List.length (a0.2.2.2.1 : (List (den tPlace)))) : Int)))) then
                  bif (decide ((r6.1.2.1 : Int) = 0)) then
                    some ((false, ()), [])
                  else
                    bif (decide ((r7.1.2.1 : Int) = 0)) then
                      some ((false, ()), [])
                    else
                      bif (!(decide ((r6.1.2.1 : Int) = 0))) then
                        some ((true, ()), [])
                      else
                        Option.bind (innkeepref07_Room n r6.1.1 (1, (Int.tmod (IntKind.wrap .i64 (a1)) ((List.length (a0.2.1 : (List Int))) : Int)), ())) fun r17 =>
                        Option.bind (innkeepref07_Room n a0 (1, (Int.tmod (IntKind.wrap .i64 (a1)) ((List.length (a0.2.1 : (List Int))) : Int)), ())) fun r18 =>
                        bif (decide ((r17.1.1 : Int) = (IntKind.wrap .i64 ((r18.1.1 : Int) + 1)))) then
                          Option.bind (innkeepref07_Room n r6.1.1 (2, (Int.tmod (IntKind.wrap .i64 (a3)) ((List.length (a0.2.2.2.1 : (List (den tPlace)))) : Int)), ())) fun r19 =>
                          Option.bind (innkeepref07_Room n a0 (2, (Int.tmod (IntKind.wrap .i64 (a3)) ((List.length (a0.2.2.2.1 : (List (den tPlace)))) : Int)), ())) fun r20 =>
                          some (((decide ((r19.1.1 : Int) = (IntKind.wrap .i64 ((r20.1.1 : Int) - 1)))), ()), [])
                        else
                          some ((false, ()), [])
                else
                  bif (!(decide ((r6.1.2.1 : Int) = 0))) then
                    some ((true, ()), [])
                  else
                    Option.bind (innkeepref07_Room n r6.1.1 (1, (Int.tmod (IntKind.wrap .i64 (a1)) ((List.length (a0.2.1 : (List Int))) : Int)), ())) fun r21 =>
                    Option.bind (innkeepref07_Room n a0 (1, (Int.tmod (IntKind.wrap .i64 (a1)) ((List.length (a0.2.1 : (List Int))) : Int)), ())) fun r22 =>
                    bif (decide ((r21.1.1 : Int) = (IntKind.wrap .i64 ((r22.1.1 : Int) + 1)))) then
                      Option.bind (innkeepref07_Room n r6.1.1 (2, (Int.tmod (IntKind.wrap .i64 (a3)) ((List.length (a0.2.2.2.1 : (List (den tPlace)))) : Int)), ())) fun r23 =>
                      Option.bind (innkeepref07_Room n a0 (2, (Int.tmod (IntKind.wrap .i64 (a3)) ((List.length (a0.2.2.2.1 : (List (den tPlace)))) : Int)), ())) fun r24 =>
                      some (((decide ((r23.1.1 : Int) = (IntKind.wrap .i64 ((r24.1.1 : Int) - 1)))), ()), [])
                    else
                      some ((false, ()), [])
          else none
        else
          bif (decide ((r7.1.2.1 : Int) = 0)) then
            if (0 : Int) ≤ (Int.tmod (IntKind.wrap .i64 (a2)) ((List.length (a0.2.2.2.1 : (List (den tPlace)))) : Int)) ∧ (Int.tmod (IntKind.wrap .i64 (a2)) ((List.length (a0.2.2.2.1 : (List (den tPlace)))) : Int)) < (((List.length (a0.2.2.2.1 : (List (den tPlace)))) : Nat) : Int) then
            bif (!(eqT tPlace (List.getD (a0.2.2.2.1 : (List (den tPlace))) (Int.toNat (Int.tmod (IntKind.wrap .i64 (a2)) ((List.length (a0.2.2.2.1 : (List (den tPlace)))) : Int))) (dft tPlace) : (den tPlace)) (2, (Int.tmod (IntKind.wrap .i64 (a3)) ((List.length (a0.2.2.2.1 : (List (den tPlace)))) : Int)), ()))) then
              some ((false, ()), [])
            else
              bif (decide ((Int.tmod (IntKind.wrap .i64 (a2)) ((List.length (a0.2.2.2.1 : (List (den tPlace)))) : Int)) = (Int.tmod (IntKind.wrap .i64 (a3)) ((List.length (a0.2.2.2.1 : (List (den tPlace)))) : Int)))) then
                bif (decide ((r6.1.2.1 : Int) = 0)) then
                  some ((false, ()), [])
                else
                  bif (decide ((r7.1.2.1 : Int) = 0)) then
                    some ((false, ()), [])
                  else
                    bif (!(decide ((r6.1.2.1 : Int) = 0))) then
                      some ((true, ()), [])
                    else
                      Option.bind (innkeepref07_Room n r6.1.1 (1, (Int.tmod (IntKind.wrap .i64 (a1)) ((List.length (a0.2.1 : (List Int))) : Int)), ())) fun r25 =>
                      Option.bind (innkeepref07_Room n a0 (1, (Int.tmod (IntKind.wrap .i64 (a1)) ((List.length (a0.2.1 : (List Int))) : Int)), ())) fun r26 =>
                      bif (decide ((r25.1.1 : Int) = (IntKind.wrap .i64 ((r26.1.1 : Int) + 1)))) then
                        Option.bind (innkeepref07_Room n r6.1.1 (2, (Int.tmod (IntKind.wrap .i64 (a3)) ((List.length (a0.2.2.2.1 : (List (den tPlace)))) : Int)), ())) fun r27 =>
                        Option.bind (innkeepref07_Room n a0 (2, (Int.tmod (IntKind.wrap .i64 (a3)) ((List.length (a0.2.2.2.1 : (List (den tPlace)))) : Int)), ())) fun r28 =>
                        some (((decide ((r27.1.1 : Int) = (IntKind.wrap .i64 ((r28.1.1 : Int) - 1)))), ()), [])
                      else
                        some ((false, ()), [])
              else
                bif (!(decide ((r6.1.2.1 : Int) = 0))) then
                  some ((true, ()), [])
                else
                  Option.bind (innkeepref07_Room n r6.1.1 (1, (Int.tmod (IntKind.wrap .i64 (a1)) ((List.length (a0.2.1 : (List Int))) : Int)), ())) fun r29 =>
                  Option.bind (innkeepref07_Room n a0 (1, (Int.tmod (IntKind.wrap .i64 (a1)) ((List.length (a0.2.1 : (List Int))) : Int)), ())) fun r30 =>
                  bif (decide ((r29.1.1 : Int) = (IntKind.wrap .i64 ((r30.1.1 : Int) + 1)))) then
                    Option.bind (innkeepref07_Room n r6.1.1 (2, (Int.tmod (IntKind.wrap .i64 (a3)) ((List.length (a0.2.2.2.1 : (List (den tPlace)))) : Int)), ())) fun r31 =>
                    Option.bind (innkeepref07_Room n a0 (2, (Int.tmod (IntKind.wrap .i64 (a3)) ((List.length (a0.2.2.2.1 : (List (den tPlace)))) : Int)), ())) fun r32 =>
                    some (((decide ((r31.1.1 : Int) = (IntKind.wrap .i64 ((r32.1.1 : Int) - 1)))), ()), [])
                  else
                    some ((false, ()), [])
            else none
          else
            bif (decide ((Int.tmod (IntKind.wrap .i64 (a2)) ((List.length (a0.2.2.2.1 : (List (den tPlace)))) : Int)) = (Int.tmod (IntKind.wrap .i64 (a3)) ((List.length (a0.2.2.2.1 : (List (den tPlace)))) : Int)))) then
              bif (decide ((r6.1.2.1 : Int) = 0)) then
                some ((false, ()), [])
              else
                bif (decide ((r7.1.2.1 : Int) = 0)) then
                  some ((false, ()), [])
                else
                  bif (!(decide ((r6.1.2.1 : Int) = 0))) then
                    some ((true, ()), [])
                  else
                    Option.bind (innkeepref07_Room n r6.1.1 (1, (Int.tmod (IntKind.wrap .i64 (a1)) ((List.length (a0.2.1 : (List Int))) : Int)), ())) fun r33 =>
                    Option.bind (innkeepref07_Room n a0 (1, (Int.tmod (IntKind.wrap .i64 (a1)) ((List.length (a0.2.1 : (List Int))) : Int)), ())) fun r34 =>
                    bif (decide ((r33.1.1 : Int) = (IntKind.wrap .i64 ((r34.1.1 : Int) + 1)))) then
                      Option.bind (innkeepref07_Room n r6.1.1 (2, (Int.tmod (IntKind.wrap .i64 (a3)) ((List.length (a0.2.2.2.1 : (List (den tPlace)))) : Int)), ())) fun r35 =>
                      Option.bind (innkeepref07_Room n a0 (2, (Int.tmod (IntKind.wrap .i64 (a3)) ((List.length (a0.2.2.2.1 : (List (den tPlace)))) : Int)), ())) fun r36 =>
                      some (((decide ((r35.1.1 : Int) = (IntKind.wrap .i64 ((r36.1.1 : Int) - 1)))), ()), [])
                    else
                      some ((false, ()), [])
            else
              bif (!(decide ((r6.1.2.1 : Int) = 0))) then
                some ((true, ()), [])
              else
                Option.bind (innkeepref07_Room n r6.1.1 (1, (Int.tmod (IntKind.wrap .i64 (a1)) ((List.length (a0.2.1 : (List Int))) : Int)), ())) fun r37 =>
                Option.bind (innkeepref07_Room n a0 (1, (Int.tmod (IntKind.wrap .i64 (a1)) ((List.length (a0.2.1 : (List Int))) : Int)), ())) fun r38 =>
                bif (decide ((r37.1.1 : Int) = (IntKind.wrap .i64 ((r38.1.1 : Int) + 1)))) then
                  Option.bind (innkeepref07_Room n r6.1.1 (2, (Int.tmod (IntKind.wrap .i64 (a3)) ((List.length (a0.2.2.2.1 : (List (den tPlace)))) : Int)), ())) fun r39 =>
                  Option.bind (innkeepref07_Room n a0 (2, (Int.tmod (IntKind.wrap .i64 (a3)) ((List.length (a0.2.2.2.1 : (List (den tPlace)))) : Int)), ())) fun r40 =>
                  some (((decide ((r39.1.1 : Int) = (IntKind.wrap .i64 ((r40.1.1 : Int) - 1)))), ()), [])
                else
                  some ((false, ()), []) := by kernel_rfl
end Go.Proofs.Ytlkodlblkpeofaa.Ghost
