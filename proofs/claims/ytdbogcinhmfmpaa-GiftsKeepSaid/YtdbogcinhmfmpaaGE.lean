/- What each function and each loop comes to, one step. Conditions: none. -/
import Derived.Test.YtdbogcinhmfmpaaGSp
import Derived.KernelRfl
set_option linter.unusedVariables false
set_option linter.unusedSimpArgs false
set_option linter.unusedSectionVars false
set_option linter.unnecessarySimpa false
namespace Go.Proofs.Ytdbogcinhmfmpaa.Ghost
open Go
abbrev gc (n : Nat) : Calls := gcall prog sp n
def innkeepref06_New.res : List Sh := [.d tWorld]
@[reducible] def innkeepref06_New.R : Type := dShL [.d tWorld] × Fresh
def innkeepref06_New (n : Nat) (a0 : (den tDesc)) : Option innkeepref06_New.R := gc n 21 [.dat tDesc a0 []] [.d tWorld]
def innkeepref06_New.l0 (n m0 : Nat) (t0 : (den tDesc)) (t4 : Int) (o0 : (den tDesc)) (o1 : (den tWorld)) (o2 : (den tWorld)) (o3 : (List Int)) (o4 : (List Int)) (o9 : (List (den tPlace))) : Option innkeepref06_New.R :=
  loopN (fun Kn K s h => run (gc n) n innkeepref06_New.c9 Kn K s h) m0 (kBlk 0 (kSeq (run (gc n) n) innkeepref06_New.c7 (retK innkeepref06_New.fn innkeepref06_New.res) (retK innkeepref06_New.fn innkeepref06_New.res)) (retK innkeepref06_New.fn innkeepref06_New.res))
    [(0, .dat tDesc t0 []), (1, .ptr 0 []), (2, .ptr 1 []), (3, .ptr 2 []), (4, .dat (.int .i64) t4 [])]
    [.box tDesc o0 [], .box tWorld o1 [], .box tWorld o2 [([1], some 3), ([2], some 4), ([3], some 9)], .arr (.int .i64) o3, .arr (.int .i64) o4, .none, .none, .dead, .dead, .arr tPlace o9]
theorem innkeepref06_New.l0_eq (n m0 : Nat) (t0 : (den tDesc)) (t4 : Int) (o0 : (den tDesc)) (o1 : (den tWorld)) (o2 : (den tWorld)) (o3 : (List Int)) (o4 : (List Int)) (o9 : (List (den tPlace))) : innkeepref06_New.l0 n (m0 + 1) t0 t4 o0 o1 o2 o3 o4 o9 =
  bif (decide (t4 < ((List.length (o0.2.2.2.1 : (List Int))) : Int))) then
    if (0 : Int) ≤ t4 ∧ t4 < (((List.length (o0.2.2.2.1 : (List Int))) : Nat) : Int) then
    if (List.length o9) + 1 ≤ 1048576 then
    innkeepref06_New.l0 n m0 t0 (IntKind.wrap .i64 (t4 + 1)) o0 o1 (o2.1, (o2.2.1 : (List Int)), (o2.2.2.1 : (List Int)), ([] : List (den tPlace)), ()) o3 o4 (o9 ++ ([(0, (List.getD (o0.2.2.2.1 : (List Int)) (Int.toNat t4) (0 : Int) : Int), ())] : List (den tPlace)))
    else none
    else none
  else
    some (((o2.1, o3, o4, o9, ()), ()), [(0, [1]), (0, [2]), (0, [3])]) := by kernel_rfl
theorem innkeepref06_New.eq (n : Nat) (a0 : (den tDesc)) : innkeepref06_New (n + 1) a0 =
  if 0 + (List.length (a0.2.1 : (List Int))) ≤ 1048576 then
  if 0 + (List.length (a0.2.2.1 : (List Int))) ≤ 1048576 then
  innkeepref06_New.l0 n n a0 0 a0 ((([] : List (List Int)), ([] : List Int), ([] : List Int), ([] : List Int), ([] : List Bool), 0, 0, 0, ()), ([] : List Int), ([] : List Int), ([] : List (den tPlace)), ()) (a0, ([] : List Int), ([] : List Int), ([] : List (den tPlace)), ()) (([] : List Int) ++ (a0.2.1 : (List Int))) (([] : List Int) ++ (a0.2.2.1 : (List Int))) ([] : List (den tPlace))
  else none
  else none := by kernel_rfl
def gifts_is.res : List Sh := [.d .bool]
@[reducible] def gifts_is.R : Type := dShL [.d .bool] × Fresh
def gifts_is (n : Nat) (a0 : (den tWorld)) (a1 : Int) : Option gifts_is.R := gc n 26 [.dat tWorld a0 [], .dat (.int .i64) a1 []] [.d .bool]
theorem gifts_is.eq (n : Nat) (a0 : (den tWorld)) (a1 : Int) : gifts_is (n + 1) a0 a1 =
  bif (decide (0 ≤ a1)) then
    some (((decide (a1 < ((List.length (a0.2.2.2.1 : (List (den tPlace)))) : Int))), ()), [])
  else
    some ((false, ()), []) := by kernel_rfl
def gifts_player.res : List Sh := [.d .bool]
@[reducible] def gifts_player.R : Type := dShL [.d .bool] × Fresh
def gifts_player (n : Nat) (a0 : (den tWorld)) (a1 : Int) : Option gifts_player.R := gc n 27 [.dat tWorld a0 [], .dat (.int .i64) a1 []] [.d .bool]
theorem gifts_player.eq (n : Nat) (a0 : (den tWorld)) (a1 : Int) : gifts_player (n + 1) a0 a1 =
  bif (decide (0 ≤ a1)) then
    some (((decide (a1 < ((List.length (a0.2.1 : (List Int))) : Int))), ()), [])
  else
    some ((false, ()), []) := by kernel_rfl
def gifts_with.res : List Sh := [.d tPlace]
@[reducible] def gifts_with.R : Type := dShL [.d tPlace] × Fresh
def gifts_with (n : Nat) (a0 : Int) : Option gifts_with.R := gc n 28 [.dat (.int .i64) a0 []] [.d tPlace]
theorem gifts_with.eq (n : Nat) (a0 : Int) : gifts_with (n + 1) a0 =
  some (((1, a0, ()), ()), []) := by kernel_rfl
def tree_In.res : List Sh := [.d (.sl (.int .i64))]
@[reducible] def tree_In.R : Type := dShL [.d (.sl (.int .i64))] × Fresh
def tree_In (n : Nat) (a0 : (den tWorld)) (a1 : (den tPlace)) : Option tree_In.R := gc n 48 [.dat tWorld a0 [], .dat tPlace a1 []] [.d (.sl (.int .i64))]
def tree_In.l0 (n m0 : Nat) (t0 : (den tWorld)) (t1 : (den tPlace)) (t4 : (List Int)) (t9 : (List (den tPlace))) (t10 : Int) (t11 : Int) (o0 : (den tWorld)) (o1 : (den tPlace)) (o5 : (List Int)) : Option tree_In.R :=
  loopN (fun Kn K s h => run (gc n) n tree_In.c5 Kn K s h) m0 (kBlk 0 (kSeq (run (gc n) n) tree_In.c2 (retK tree_In.fn tree_In.res) (retK tree_In.fn tree_In.res)) (retK tree_In.fn tree_In.res))
    [(0, .dat tWorld t0 []), (1, .dat tPlace t1 []), (2, .ptr 0 []), (3, .ptr 1 []), (4, .dat (.sl (.int .i64)) t4 []), (5, .dat (.sl (.int .i64)) ([] : List Int) [([], some 5)]), (9, .dat (.sl tPlace) t9 []), (10, .dat (.int .i64) t10 []), (11, .dat (.int .i64) t11 [])]
    [.box tWorld o0 [], .box tPlace o1 [], .none, .none, .none, .arr (.int .i64) o5]
theorem tree_In.l0_eq (n m0 : Nat) (t0 : (den tWorld)) (t1 : (den tPlace)) (t4 : (List Int)) (t9 : (List (den tPlace))) (t10 : Int) (t11 : Int) (o0 : (den tWorld)) (o1 : (den tPlace)) (o5 : (List Int)) : tree_In.l0 n (m0 + 1) t0 t1 t4 t9 t10 t11 o0 o1 o5 =
  bif (decide (t11 < t10)) then
    if (0 : Int) ≤ t11 ∧ t11 < (((List.length t9) : Nat) : Int) then
    bif (eqT tPlace o1 (List.getD t9 (Int.toNat t11) (dft tPlace) : (den tPlace))) then
      if (List.length o5) + 1 ≤ 1048576 then
      tree_In.l0 n m0 t0 t1 t4 t9 t10 (IntKind.wrap .i64 (t11 + 1)) o0 o1 (o5 ++ ([t11] : List Int))
      else none
    else
      tree_In.l0 n m0 t0 t1 t4 t9 t10 (IntKind.wrap .i64 (t11 + 1)) o0 o1 o5
    else none
  else
    some ((o5, ()), [(0, [])]) := by kernel_rfl
theorem tree_In.eq (n : Nat) (a0 : (den tWorld)) (a1 : (den tPlace)) : tree_In (n + 1) a0 a1 =
  tree_In.l0 n n a0 a1 ([] : List Int) (a0.2.2.2.1 : (List (den tPlace))) ((List.length (a0.2.2.2.1 : (List (den tPlace)))) : Int) 0 a0 a1 ([] : List Int) := by kernel_rfl
def tree_Room.res : List Sh := [.d (.int .i64)]
@[reducible] def tree_Room.R : Type := dShL [.d (.int .i64)] × Fresh
def tree_Room (n : Nat) (a0 : (den tWorld)) (a1 : (den tPlace)) : Option tree_Room.R := gc n 29 [.dat tWorld a0 [], .dat tPlace a1 []] [.d (.int .i64)]
theorem tree_Room.eq (n : Nat) (a0 : (den tWorld)) (a1 : (den tPlace)) : tree_Room (n + 1) a0 a1 =
  if (0 : Int) ≤ (a1.1 : Int) ∧ (a1.1 : Int) < ((3 : Nat) : Int) then
  Option.bind (tree_In n a0 a1) fun r1 =>
  some (((IntKind.wrap .i64 ((List.getD ([(a0.1.2.2.2.2.2.1 : Int), (a0.1.2.2.2.2.2.2.1 : Int), (a0.1.2.2.2.2.2.2.2.1 : Int)] : List Int) (Int.toNat (a1.1 : Int)) (0 : Int) : Int) - ((List.length (r1.1.1 : (List Int))) : Int))), ()), [])
  else none := by kernel_rfl
def slices_Clone_sint_int.res : List Sh := [.d (.sl (.int .i64))]
@[reducible] def slices_Clone_sint_int.R : Type := dShL [.d (.sl (.int .i64))] × Fresh
def slices_Clone_sint_int (n : Nat) (a0 : (List Int)) : Option slices_Clone_sint_int.R := gc n 52 [.dat (.sl (.int .i64)) a0 []] [.d (.sl (.int .i64))]
def slices_Clone_sapi_Place_api_Place.res : List Sh := [.d (.sl tPlace)]
@[reducible] def slices_Clone_sapi_Place_api_Place.R : Type := dShL [.d (.sl tPlace)] × Fresh
def slices_Clone_sapi_Place_api_Place (n : Nat) (a0 : (List (den tPlace))) : Option slices_Clone_sapi_Place_api_Place.R := gc n 53 [.dat (.sl tPlace) a0 []] [.d (.sl tPlace)]
def desc_Copy.res : List Sh := [.d tWorld]
@[reducible] def desc_Copy.R : Type := dShL [.d tWorld] × Fresh
def desc_Copy (n : Nat) (a0 : (den tWorld)) : Option desc_Copy.R := gc n 40 [.dat tWorld a0 []] [.d tWorld]
theorem desc_Copy.eq (n : Nat) (a0 : (den tWorld)) : desc_Copy (n + 1) a0 =
  Option.bind (slices_Clone_sint_int n (a0.2.1 : (List Int))) fun r1 =>
  bif (keepAll r1.2 [((0, []), 2)]) then
    Option.bind (slices_Clone_sint_int n (a0.2.2.1 : (List Int))) fun r2 =>
    bif (keepAll r2.2 [((0, []), 3)]) then
      Option.bind (slices_Clone_sapi_Place_api_Place n (a0.2.2.2.1 : (List (den tPlace)))) fun r3 =>
      bif (keepAll r3.2 [((0, []), 4)]) then
        some (((a0.1, (r1.1.1 : (List Int)), (r2.1.1 : (List Int)), (r3.1.1 : (List (den tPlace))), ()), ()), [(0, [1]), (0, [2]), (0, [3])])
      else
        none
    else
      none
  else
    none := by kernel_rfl
def hold_To.res : List Sh := [.d tWorld]
@[reducible] def hold_To.R : Type := dShL [.d tWorld] × Fresh
def hold_To (n : Nat) (a0 : (den tWorld)) (a1 : Int) (a2 : (den tPlace)) : Option hold_To.R := gc n 30 [.dat tWorld a0 [], .dat (.int .i64) a1 [], .dat tPlace a2 []] [.d tWorld]
theorem hold_To.eq (n : Nat) (a0 : (den tWorld)) (a1 : Int) (a2 : (den tPlace)) : hold_To (n + 1) a0 a1 a2 =
  Option.bind (desc_Copy n a0) fun r1 =>
  bif (keepAll r1.2 [((0, [3]), 4)]) then
    if (0 : Int) ≤ a1 ∧ a1 < (((List.length (r1.1.1.2.2.2.1 : (List (den tPlace)))) : Nat) : Int) then
    some (((r1.1.1.1, (r1.1.1.2.1 : (List Int)), (r1.1.1.2.2.1 : (List Int)), (List.set (r1.1.1.2.2.2.1 : (List (den tPlace))) (Int.toNat a1) a2 : (List (den tPlace))), ()), ()), [(0, [3])])
    else none
  else
    none := by kernel_rfl
def gifts_Give.res : List Sh := [.d tWorld, .d (.int .i64)]
@[reducible] def gifts_Give.R : Type := dShL [.d tWorld, .d (.int .i64)] × Fresh
def gifts_Give (n : Nat) (a0 : (den tWorld)) (a1 : Int) (a2 : Int) (a3 : Int) : Option gifts_Give.R := gc n 11 [.dat tWorld a0 [], .dat (.int .i64) a1 [], .dat (.int .i64) a2 [], .dat (.int .i64) a3 []] [.d tWorld, .d (.int .i64)]
theorem gifts_Give.eq (n : Nat) (a0 : (den tWorld)) (a1 : Int) (a2 : Int) (a3 : Int) : gifts_Give (n + 1) a0 a1 a2 a3 =
  Option.bind (gifts_is n a0 a2) fun r1 =>
  bif (!(r1.1.1 : Bool)) then
    some ((a0, 3, ()), [])
  else
    Option.bind (gifts_player n a0 a3) fun r2 =>
    bif (!(r2.1.1 : Bool)) then
      some ((a0, 3, ()), [])
    else
      bif (decide (a3 = a1)) then
        some ((a0, 12, ()), [])
      else
        if (0 : Int) ≤ a3 ∧ a3 < (((List.length (a0.2.1 : (List Int))) : Nat) : Int) then
        if (0 : Int) ≤ a1 ∧ a1 < (((List.length (a0.2.1 : (List Int))) : Nat) : Int) then
        bif (!(decide ((List.getD (a0.2.1 : (List Int)) (Int.toNat a3) (0 : Int) : Int) = (List.getD (a0.2.1 : (List Int)) (Int.toNat a1) (0 : Int) : Int)))) then
          some ((a0, 5, ()), [])
        else
          if (0 : Int) ≤ a2 ∧ a2 < (((List.length (a0.2.2.2.1 : (List (den tPlace)))) : Nat) : Int) then
          Option.bind (gifts_with n a1) fun r3 =>
          bif (!(eqT tPlace (List.getD (a0.2.2.2.1 : (List (den tPlace))) (Int.toNat a2) (dft tPlace) : (den tPlace)) r3.1.1)) then
            some ((a0, 5, ()), [])
          else
            Option.bind (gifts_with n a3) fun r4 =>
            Option.bind (tree_Room n a0 r4.1.1) fun r5 =>
            bif (decide ((r5.1.1 : Int) < 1)) then
              some ((a0, 9, ()), [])
            else
              Option.bind (gifts_with n a3) fun r6 =>
              Option.bind (hold_To n a0 a2 r6.1.1) fun r7 =>
              some ((r7.1.1, 0, ()), [])
          else none
        else none
        else none := by kernel_rfl
def slices_Concat_sint_int.res : List Sh := [.d (.sl (.int .i64))]
@[reducible] def slices_Concat_sint_int.R : Type := dShL [.d (.sl (.int .i64))] × Fresh
def slices_Concat_sint_int (n : Nat) (a0 : (List (List Int))) : Option slices_Concat_sint_int.R := gc n 33 [.dat (.sl (.sl (.int .i64))) a0 []] [.d (.sl (.int .i64))]
def gifts_Trade_2.res : List Sh := [.d .bool]
@[reducible] def gifts_Trade_2.R : Type := dShL [.d .bool] × Fresh
def gifts_Trade_2 (n : Nat) (a0 : Int) (a1 : (den tWorld)) : Option gifts_Trade_2.R := gc n 37 [.dat (.int .i64) a0 [], .ref tWorld a1] [.d .bool]
theorem gifts_Trade_2.eq (n : Nat) (a0 : Int) (a1 : (den tWorld)) : gifts_Trade_2 (n + 1) a0 a1 =
  Option.bind (gifts_is n a1 a0) fun r1 =>
  some (((!(r1.1.1 : Bool)), ()), []) := by kernel_rfl
def slices_IndexFunc_sint_int.res : List Sh := [.d (.int .i64)]
@[reducible] def slices_IndexFunc_sint_int.R : Type := dShL [.d (.int .i64)] × Fresh
def slices_IndexFunc_sint_int (n : Nat) (a0 : (List Int)) (a1 : (den tWorld)) : Option slices_IndexFunc_sint_int.R := gc n 50 [.dat (.sl (.int .i64)) a0 [], .clo 37 [.ref tWorld a1]] [.d (.int .i64)]
def slices_IndexFunc_sint_int.l0 (n m0 : Nat) (t0 : (List Int)) (t1 : (den tWorld)) (t4 : Int) (t7 : Int) (t8 : Int) : Option slices_IndexFunc_sint_int.R :=
  loopN (fun Kn K s h => run (gc n) n slices_IndexFunc_sint_int.c4 Kn K s h) m0 (kBlk 0 (kSeq (run (gc n) n) slices_IndexFunc_sint_int.c1 (retK slices_IndexFunc_sint_int.fn slices_IndexFunc_sint_int.res) (retK slices_IndexFunc_sint_int.fn slices_IndexFunc_sint_int.res)) (retK slices_IndexFunc_sint_int.fn slices_IndexFunc_sint_int.res))
    [(0, .dat (.sl (.int .i64)) t0 []), (1, .clo 37 [.ref tWorld t1]), (4, .dat (.int .i64) t4 []), (7, .dat (.int .i64) t7 []), (8, .dat (.int .i64) t8 [])]
    []
theorem slices_IndexFunc_sint_int.l0_eq (n m0 : Nat) (t0 : (List Int)) (t1 : (den tWorld)) (t4 : Int) (t7 : Int) (t8 : Int) : slices_IndexFunc_sint_int.l0 n (m0 + 1) t0 t1 t4 t7 t8 =
  bif (decide (t8 < t7)) then
    if (0 : Int) ≤ t8 ∧ t8 < (((List.length t0) : Nat) : Int) then
    Option.bind (gifts_Trade_2 n (List.getD t0 (Int.toNat t8) (0 : Int) : Int) t1) fun r1 =>
    bif (r1.1.1 : Bool) then
      some ((t8, ()), [])
    else
      slices_IndexFunc_sint_int.l0 n m0 t0 t1 t4 t7 (IntKind.wrap .i64 (t8 + 1))
    else none
  else
    some (((-1), ()), []) := by kernel_rfl
theorem slices_IndexFunc_sint_int.eq (n : Nat) (a0 : (List Int)) (a1 : (den tWorld)) : slices_IndexFunc_sint_int (n + 1) a0 a1 =
  slices_IndexFunc_sint_int.l0 n n a0 a1 0 ((List.length a0) : Int) 0 := by kernel_rfl
def slices_ContainsFunc_sint_int.res : List Sh := [.d .bool]
@[reducible] def slices_ContainsFunc_sint_int.R : Type := dShL [.d .bool] × Fresh
def slices_ContainsFunc_sint_int (n : Nat) (a0 : (List Int)) (a1 : (den tWorld)) : Option slices_ContainsFunc_sint_int.R := gc n 35 [.dat (.sl (.int .i64)) a0 [], .clo 37 [.ref tWorld a1]] [.d .bool]
theorem slices_ContainsFunc_sint_int.eq (n : Nat) (a0 : (List Int)) (a1 : (den tWorld)) : slices_ContainsFunc_sint_int (n + 1) a0 a1 =
  Option.bind (slices_IndexFunc_sint_int n a0 a1) fun r1 =>
  some (((decide (0 ≤ (r1.1.1 : Int))), ()), []) := by kernel_rfl
def gifts_twice.res : List Sh := [.d .bool]
@[reducible] def gifts_twice.R : Type := dShL [.d .bool] × Fresh
def gifts_twice (n : Nat) (a0 : (List Int)) : Option gifts_twice.R := gc n 38 [.dat (.sl (.int .i64)) a0 []] [.d .bool]
def gifts_twice.l0 (n m0 : Nat) (t0 : (List Int)) (t2 : Bool) (t7 : (List Int)) (t8 : Int) (t9 : Int) (o0 : (List (Int × Bool))) : Option gifts_twice.R :=
  loopN (fun Kn K s h => run (gc n) n gifts_twice.c5 Kn K s h) m0 (kBlk 0 (kSeq (run (gc n) n) gifts_twice.c3 (retK gifts_twice.fn gifts_twice.res) (retK gifts_twice.fn gifts_twice.res)) (retK gifts_twice.fn gifts_twice.res))
    [(0, .dat (.sl (.int .i64)) t0 []), (2, .dat .bool t2 []), (3, .ptr 0 []), (7, .dat (.sl (.int .i64)) t7 []), (8, .dat (.int .i64) t8 []), (9, .dat (.int .i64) t9 [])]
    [.map (.int .i64) .bool o0]
theorem gifts_twice.l0_eq (n m0 : Nat) (t0 : (List Int)) (t2 : Bool) (t7 : (List Int)) (t8 : Int) (t9 : Int) (o0 : (List (Int × Bool))) : gifts_twice.l0 n (m0 + 1) t0 t2 t7 t8 t9 o0 =
  bif (decide (t9 < t8)) then
    if (0 : Int) ≤ t9 ∧ t9 < (((List.length t7) : Nat) : Int) then
    bif ((Option.getD (mapFind (.int .i64) .bool (List.getD t7 (Int.toNat t9) (0 : Int) : Int) o0) false) : Bool) then
      some ((true, ()), [])
    else
      gifts_twice.l0 n m0 t0 t2 t7 t8 (IntKind.wrap .i64 (t9 + 1)) (mapPut (.int .i64) .bool (List.getD t7 (Int.toNat t9) (0 : Int) : Int) true o0)
    else none
  else
    some ((false, ()), []) := by kernel_rfl
theorem gifts_twice.eq (n : Nat) (a0 : (List Int)) : gifts_twice (n + 1) a0 =
  gifts_twice.l0 n n a0 false a0 ((List.length a0) : Int) 0 [] := by kernel_rfl
def gifts_Trade_1_1.res : List Sh := [.d .bool]
@[reducible] def gifts_Trade_1_1.R : Type := dShL [.d .bool] × Fresh
def gifts_Trade_1_1 (n : Nat) (a0 : Int) (a1 : (den tWorld)) (a2 : Int) : Option gifts_Trade_1_1.R := gc n 36 [.dat (.int .i64) a0 [], .ref tWorld a1, .ref (.int .i64) a2] [.d .bool]
theorem gifts_Trade_1_1.eq (n : Nat) (a0 : Int) (a1 : (den tWorld)) (a2 : Int) : gifts_Trade_1_1 (n + 1) a0 a1 a2 =
  if (0 : Int) ≤ a0 ∧ a0 < (((List.length (a1.2.2.2.1 : (List (den tPlace)))) : Nat) : Int) then
  Option.bind (gifts_with n a2) fun r1 =>
  some (((!(eqT tPlace (List.getD (a1.2.2.2.1 : (List (den tPlace))) (Int.toNat a0) (dft tPlace) : (den tPlace)) r1.1.1)), ()), [])
  else none := by kernel_rfl
def slices_IndexFunc_sint_int_v1.res : List Sh := [.d (.int .i64)]
@[reducible] def slices_IndexFunc_sint_int_v1.R : Type := dShL [.d (.int .i64)] × Fresh
def slices_IndexFunc_sint_int_v1 (n : Nat) (a0 : (List Int)) (a1 : (den tWorld)) (a2 : Int) : Option slices_IndexFunc_sint_int_v1.R := gc n 50 [.dat (.sl (.int .i64)) a0 [], .clo 36 [.ref tWorld a1, .ref (.int .i64) a2]] [.d (.int .i64)]
def slices_IndexFunc_sint_int_v1.l0 (n m0 : Nat) (t0 : (List Int)) (t1 : (den tWorld)) (t1' : Int) (t4 : Int) (t7 : Int) (t8 : Int) : Option slices_IndexFunc_sint_int_v1.R :=
  loopN (fun Kn K s h => run (gc n) n slices_IndexFunc_sint_int.c4 Kn K s h) m0 (kBlk 0 (kSeq (run (gc n) n) slices_IndexFunc_sint_int.c1 (retK slices_IndexFunc_sint_int.fn slices_IndexFunc_sint_int_v1.res) (retK slices_IndexFunc_sint_int.fn slices_IndexFunc_sint_int_v1.res)) (retK slices_IndexFunc_sint_int.fn slices_IndexFunc_sint_int_v1.res))
    [(0, .dat (.sl (.int .i64)) t0 []), (1, .clo 36 [.ref tWorld t1, .ref (.int .i64) t1']), (4, .dat (.int .i64) t4 []), (7, .dat (.int .i64) t7 []), (8, .dat (.int .i64) t8 [])]
    []
theorem slices_IndexFunc_sint_int_v1.l0_eq (n m0 : Nat) (t0 : (List Int)) (t1 : (den tWorld)) (t1' : Int) (t4 : Int) (t7 : Int) (t8 : Int) : slices_IndexFunc_sint_int_v1.l0 n (m0 + 1) t0 t1 t1' t4 t7 t8 =
  bif (decide (t8 < t7)) then
    if (0 : Int) ≤ t8 ∧ t8 < (((List.length t0) : Nat) : Int) then
    Option.bind (gifts_Trade_1_1 n (List.getD t0 (Int.toNat t8) (0 : Int) : Int) t1 t1') fun r1 =>
    bif (r1.1.1 : Bool) then
      some ((t8, ()), [])
    else
      slices_IndexFunc_sint_int_v1.l0 n m0 t0 t1 t1' t4 t7 (IntKind.wrap .i64 (t8 + 1))
    else none
  else
    some (((-1), ()), []) := by kernel_rfl
theorem slices_IndexFunc_sint_int_v1.eq (n : Nat) (a0 : (List Int)) (a1 : (den tWorld)) (a2 : Int) : slices_IndexFunc_sint_int_v1 (n + 1) a0 a1 a2 =
  slices_IndexFunc_sint_int_v1.l0 n n a0 a1 a2 0 ((List.length a0) : Int) 0 := by kernel_rfl
def slices_ContainsFunc_sint_int_v1.res : List Sh := [.d .bool]
@[reducible] def slices_ContainsFunc_sint_int_v1.R : Type := dShL [.d .bool] × Fresh
def slices_ContainsFunc_sint_int_v1 (n : Nat) (a0 : (List Int)) (a1 : (den tWorld)) (a2 : Int) : Option slices_ContainsFunc_sint_int_v1.R := gc n 35 [.dat (.sl (.int .i64)) a0 [], .clo 36 [.ref tWorld a1, .ref (.int .i64) a2]] [.d .bool]
theorem slices_ContainsFunc_sint_int_v1.eq (n : Nat) (a0 : (List Int)) (a1 : (den tWorld)) (a2 : Int) : slices_ContainsFunc_sint_int_v1 (n + 1) a0 a1 a2 =
  Option.bind (slices_IndexFunc_sint_int_v1 n a0 a1 a2) fun r1 =>
  some (((decide (0 ≤ (r1.1.1 : Int))), ()), []) := by kernel_rfl
def gifts_Trade_1.res : List Sh := [.d .bool]
@[reducible] def gifts_Trade_1.R : Type := dShL [.d .bool] × Fresh
def gifts_Trade_1 (n : Nat) (a0 : (List Int)) (a1 : Int) (a2 : (den tWorld)) : Option gifts_Trade_1.R := gc n 34 [.dat (.sl (.int .i64)) a0 [], .dat (.int .i64) a1 [], .ref tWorld a2] [.d .bool]
theorem gifts_Trade_1.eq (n : Nat) (a0 : (List Int)) (a1 : Int) (a2 : (den tWorld)) : gifts_Trade_1 (n + 1) a0 a1 a2 =
  Option.bind (slices_ContainsFunc_sint_int_v1 n a0 a2 a1) fun r1 =>
  some (((r1.1.1 : Bool), ()), []) := by kernel_rfl
def coin_Is.res : List Sh := [.d .bool]
@[reducible] def coin_Is.R : Type := dShL [.d .bool] × Fresh
def coin_Is (n : Nat) (a0 : Int) : Option coin_Is.R := gc n 51 [.dat (.int .i64) a0 []] [.d .bool]
theorem coin_Is.eq (n : Nat) (a0 : Int) : coin_Is (n + 1) a0 =
  bif (decide (0 ≤ a0)) then
    some (((decide (a0 ≤ 1073741824)), ()), [])
  else
    some ((false, ()), []) := by kernel_rfl
def coin_Swap.res : List Sh := [.d (.int .i64), .d (.int .i64), .d (.int .i64)]
@[reducible] def coin_Swap.R : Type := dShL [.d (.int .i64), .d (.int .i64), .d (.int .i64)] × Fresh
def coin_Swap (n : Nat) (a0 : Int) (a1 : Int) (a2 : Int) (a3 : Int) : Option coin_Swap.R := gc n 39 [.dat (.int .i64) a0 [], .dat (.int .i64) a1 [], .dat (.int .i64) a2 [], .dat (.int .i64) a3 []] [.d (.int .i64), .d (.int .i64), .d (.int .i64)]
theorem coin_Swap.eq (n : Nat) (a0 : Int) (a1 : Int) (a2 : Int) (a3 : Int) : coin_Swap (n + 1) a0 a1 a2 a3 =
  bif (decide (a2 < 0)) then
    some ((a0, a1, 1, ()), [])
  else
    bif (decide (a3 < 0)) then
      some ((a0, a1, 1, ()), [])
    else
      bif (decide (a0 < a2)) then
        some ((a0, a1, 10, ()), [])
      else
        bif (decide (a1 < a3)) then
          some ((a0, a1, 10, ()), [])
        else
          Option.bind (coin_Is n (IntKind.wrap .i64 ((IntKind.wrap .i64 (a0 - a2)) + a3))) fun r1 =>
          bif (!(r1.1.1 : Bool)) then
            some ((a0, a1, 11, ()), [])
          else
            Option.bind (coin_Is n (IntKind.wrap .i64 ((IntKind.wrap .i64 (a1 - a3)) + a2))) fun r2 =>
            bif (!(r2.1.1 : Bool)) then
              some ((a0, a1, 11, ()), [])
            else
              some (((IntKind.wrap .i64 ((IntKind.wrap .i64 (a0 - a2)) + a3)), (IntKind.wrap .i64 ((IntKind.wrap .i64 (a1 - a3)) + a2)), 0, ()), []) := by kernel_rfl
def gifts_Trade.res : List Sh := [.d tWorld, .d (.int .i64)]
@[reducible] def gifts_Trade.R : Type := dShL [.d tWorld, .d (.int .i64)] × Fresh
def gifts_Trade (n : Nat) (a0 : (den tWorld)) (a1 : Int) (a2 : (den tCmd)) : Option gifts_Trade.R := gc n 13 [.dat tWorld a0 [], .dat (.int .i64) a1 [], .dat tCmd a2 []] [.d tWorld, .d (.int .i64)]
def gifts_Trade.l0 (n m0 : Nat) (t0 : (den tWorld)) (t1 : Int) (t2 : (den tCmd)) (t7 : Int) (t8 : Int) (t9 : (List Int)) (t11 : Int) (t12 : Int) (t13 : Int) (t14 : Int) (t135 : (List Int)) (t136 : Int) (t137 : Int) (o0 : (den tWorld)) (o1 : (den tCmd)) (o2 : (den tWorld)) (o3 : (List (List Int))) (o4 : (den tWorld)) (o5 : (List Int)) (o6 : (List (den tPlace))) : Option gifts_Trade.R :=
  loopN (fun Kn K s h => run (gc n) n gifts_Trade.c61 Kn K s h) m0 (kBlk 1 (kSeq (run (gc n) n) gifts_Trade.c58 (retK gifts_Trade.fn gifts_Trade.res) (retK gifts_Trade.fn gifts_Trade.res)) (retK gifts_Trade.fn gifts_Trade.res))
    [(0, .dat tWorld t0 []), (1, .dat (.int .i64) t1 []), (2, .dat tCmd t2 []), (3, .ptr 0 []), (5, .ptr 1 []), (6, .ptr 2 []), (7, .dat (.int .i64) t7 []), (8, .dat (.int .i64) t8 []), (9, .dat (.sl (.int .i64)) t9 []), (10, .clo 34 [.ptr 0 []]), (11, .dat (.int .i64) t11 []), (12, .dat (.int .i64) t12 []), (13, .dat (.int .i64) t13 []), (14, .dat (.int .i64) t14 []), (15, .ptr 4 []), (135, .dat (.sl (.int .i64)) t135 []), (136, .dat (.int .i64) t136 []), (137, .dat (.int .i64) t137 [])]
    [.box tWorld o0 [], .box tCmd o1 [], .box tWorld o2 [], .frz (.sl (.int .i64)) o3, .box tWorld o4 [([2], some 5), ([3], some 6)], .arr (.int .i64) o5, .arr tPlace o6]
def gifts_Trade.l1 (n m0 : Nat) (t0_1 : (den tWorld)) (t1_1 : Int) (t2_1 : (den tCmd)) (t7_1 : Int) (t8_1 : Int) (t9_1 : (List Int)) (t11_1 : Int) (t12_1 : Int) (t13_1 : Int) (t14_1 : Int) (t135_1 : (List Int)) (t136_1 : Int) (t137_1 : Int) (t149_1 : (List Int)) (t150_1 : Int) (t151_1 : Int) (o0_1 : (den tWorld)) (o1_1 : (den tCmd)) (o2_1 : (den tWorld)) (o3_1 : (List (List Int))) (o4_1 : (den tWorld)) (o5_1 : (List Int)) (o6_1 : (List (den tPlace))) : Option gifts_Trade.R :=
  loopN (fun Kn K s h => run (gc n) n gifts_Trade.c75 Kn K s h) m0 (kBlk 3 (kSeq (run (gc n) n) gifts_Trade.c72 (retK gifts_Trade.fn gifts_Trade.res) (retK gifts_Trade.fn gifts_Trade.res)) (retK gifts_Trade.fn gifts_Trade.res))
    [(0, .dat tWorld t0_1 []), (1, .dat (.int .i64) t1_1 []), (2, .dat tCmd t2_1 []), (3, .ptr 0 []), (5, .ptr 1 []), (6, .ptr 2 []), (7, .dat (.int .i64) t7_1 []), (8, .dat (.int .i64) t8_1 []), (9, .dat (.sl (.int .i64)) t9_1 []), (10, .clo 34 [.ptr 0 []]), (11, .dat (.int .i64) t11_1 []), (12, .dat (.int .i64) t12_1 []), (13, .dat (.int .i64) t13_1 []), (14, .dat (.int .i64) t14_1 []), (15, .ptr 4 []), (135, .dat (.sl (.int .i64)) t135_1 []), (136, .dat (.int .i64) t136_1 []), (137, .dat (.int .i64) t137_1 []), (149, .dat (.sl (.int .i64)) t149_1 []), (150, .dat (.int .i64) t150_1 []), (151, .dat (.int .i64) t151_1 [])]
    [.box tWorld o0_1 [], .box tCmd o1_1 [], .box tWorld o2_1 [], .frz (.sl (.int .i64)) o3_1, .box tWorld o4_1 [([2], some 5), ([3], some 6)], .arr (.int .i64) o5_1, .arr tPlace o6_1]
theorem gifts_Trade.l0_eq (n m0 : Nat) (t0 : (den tWorld)) (t1 : Int) (t2 : (den tCmd)) (t7 : Int) (t8 : Int) (t9 : (List Int)) (t11 : Int) (t12 : Int) (t13 : Int) (t14 : Int) (t135 : (List Int)) (t136 : Int) (t137 : Int) (o0 : (den tWorld)) (o1 : (den tCmd)) (o2 : (den tWorld)) (o3 : (List (List Int))) (o4 : (den tWorld)) (o5 : (List Int)) (o6 : (List (den tPlace))) : gifts_Trade.l0 n (m0 + 1) t0 t1 t2 t7 t8 t9 t11 t12 t13 t14 t135 t136 t137 o0 o1 o2 o3 o4 o5 o6 =
  bif (decide (t137 < t136)) then
    if (0 : Int) ≤ t137 ∧ t137 < (((List.length t135) : Nat) : Int) then
    Option.bind (gifts_with n t8) fun r13 =>
    if (0 : Int) ≤ (List.getD t135 (Int.toNat t137) (0 : Int) : Int) ∧ (List.getD t135 (Int.toNat t137) (0 : Int) : Int) < (((List.length o6) : Nat) : Int) then
    gifts_Trade.l0 n m0 t0 t1 t2 t7 t8 t9 t11 t12 t13 t14 t135 t136 (IntKind.wrap .i64 (t137 + 1)) o0 o1 o2 o3 o4 o5 (List.set o6 (Int.toNat (List.getD t135 (Int.toNat t137) (0 : Int) : Int)) r13.1.1 : (List (den tPlace)))
    else none
    else none
  else
    gifts_Trade.l1 n n t0 t1 t2 t7 t8 t9 t11 t12 t13 t14 t135 t136 t137 (o1.2.2.2.2.2.2.2.1 : (List Int)) ((List.length (o1.2.2.2.2.2.2.2.1 : (List Int))) : Int) 0 o0 o1 o2 o3 o4 o5 o6 := by kernel_rfl
theorem gifts_Trade.l1_eq (n m0 : Nat) (t0_1 : (den tWorld)) (t1_1 : Int) (t2_1 : (den tCmd)) (t7_1 : Int) (t8_1 : Int) (t9_1 : (List Int)) (t11_1 : Int) (t12_1 : Int) (t13_1 : Int) (t14_1 : Int) (t135_1 : (List Int)) (t136_1 : Int) (t137_1 : Int) (t149_1 : (List Int)) (t150_1 : Int) (t151_1 : Int) (o0_1 : (den tWorld)) (o1_1 : (den tCmd)) (o2_1 : (den tWorld)) (o3_1 : (List (List Int))) (o4_1 : (den tWorld)) (o5_1 : (List Int)) (o6_1 : (List (den tPlace))) : gifts_Trade.l1 n (m0 + 1) t0_1 t1_1 t2_1 t7_1 t8_1 t9_1 t11_1 t12_1 t13_1 t14_1 t135_1 t136_1 t137_1 t149_1 t150_1 t151_1 o0_1 o1_1 o2_1 o3_1 o4_1 o5_1 o6_1 =
  bif (decide (t151_1 < t150_1)) then
    if (0 : Int) ≤ t151_1 ∧ t151_1 < (((List.length t149_1) : Nat) : Int) then
    Option.bind (gifts_with n t1_1) fun r14 =>
    if (0 : Int) ≤ (List.getD t149_1 (Int.toNat t151_1) (0 : Int) : Int) ∧ (List.getD t149_1 (Int.toNat t151_1) (0 : Int) : Int) < (((List.length o6_1) : Nat) : Int) then
    gifts_Trade.l1 n m0 t0_1 t1_1 t2_1 t7_1 t8_1 t9_1 t11_1 t12_1 t13_1 t14_1 t135_1 t136_1 t137_1 t149_1 t150_1 (IntKind.wrap .i64 (t151_1 + 1)) o0_1 o1_1 o2_1 o3_1 o4_1 o5_1 (List.set o6_1 (Int.toNat (List.getD t149_1 (Int.toNat t151_1) (0 : Int) : Int)) r14.1.1 : (List (den tPlace)))
    else none
    else none
  else
    some (((o4_1.1, (o4_1.2.1 : (List Int)), o5_1, o6_1, ()), 0, ()), [(0, [2]), (0, [3])]) := by kernel_rfl
theorem gifts_Trade.eq (n : Nat) (a0 : (den tWorld)) (a1 : Int) (a2 : (den tCmd)) : gifts_Trade (n + 1) a0 a1 a2 =
  Option.bind (slices_Concat_sint_int n ([(a2.2.2.2.2.2.1 : (List Int)), (a2.2.2.2.2.2.2.2.1 : (List Int))] : List (List Int))) fun r1 =>
  Option.bind (gifts_player n a0 (a2.2.2.2.2.1 : Int)) fun r2 =>
  bif (!(r2.1.1 : Bool)) then
    some ((a0, 3, ()), [])
  else
    Option.bind (slices_ContainsFunc_sint_int n (r1.1.1 : (List Int)) a0) fun r3 =>
    bif (r3.1.1 : Bool) then
      some ((a0, 3, ()), [])
    else
      bif (decide ((a2.2.2.2.2.1 : Int) = a1)) then
        some ((a0, 12, ()), [])
      else
        if (0 : Int) ≤ (a2.2.2.2.2.1 : Int) ∧ (a2.2.2.2.2.1 : Int) < (((List.length (a0.2.1 : (List Int))) : Nat) : Int) then
        if (0 : Int) ≤ a1 ∧ a1 < (((List.length (a0.2.1 : (List Int))) : Nat) : Int) then
        bif (!(decide ((List.getD (a0.2.1 : (List Int)) (Int.toNat (a2.2.2.2.2.1 : Int)) (0 : Int) : Int) = (List.getD (a0.2.1 : (List Int)) (Int.toNat a1) (0 : Int) : Int)))) then
          some ((a0, 5, ()), [])
        else
          Option.bind (gifts_twice n (r1.1.1 : (List Int))) fun r4 =>
          bif (r4.1.1 : Bool) then
            some ((a0, 13, ()), [])
          else
            Option.bind (gifts_Trade_1 n (a2.2.2.2.2.2.1 : (List Int)) a1 a0) fun r5 =>
            bif (r5.1.1 : Bool) then
              some ((a0, 5, ()), [])
            else
              Option.bind (gifts_Trade_1 n (a2.2.2.2.2.2.2.2.1 : (List Int)) (a2.2.2.2.2.1 : Int) a0) fun r6 =>
              bif (r6.1.1 : Bool) then
                some ((a0, 5, ()), [])
              else
                Option.bind (gifts_with n a1) fun r7 =>
                Option.bind (tree_Room n a0 r7.1.1) fun r8 =>
                bif (decide ((r8.1.1 : Int) < (IntKind.wrap .i64 (((List.length (a2.2.2.2.2.2.2.2.1 : (List Int))) : Int) - ((List.length (a2.2.2.2.2.2.1 : (List Int))) : Int))))) then
                  some ((a0, 9, ()), [])
                else
                  Option.bind (gifts_with n (a2.2.2.2.2.1 : Int)) fun r9 =>
                  Option.bind (tree_Room n a0 r9.1.1) fun r10 =>
                  bif (decide ((r10.1.1 : Int) < (IntKind.wrap .i64 (0 - (IntKind.wrap .i64 (((List.length (a2.2.2.2.2.2.2.2.1 : (List Int))) : Int) - ((List.length (a2.2.2.2.2.2.1 : (List Int))) : Int))))))) then
                    some ((a0, 9, ()), [])
                  else
                    if (0 : Int) ≤ a1 ∧ a1 < (((List.length (a0.2.2.1 : (List Int))) : Nat) : Int) then
                    if (0 : Int) ≤ (a2.2.2.2.2.1 : Int) ∧ (a2.2.2.2.2.1 : Int) < (((List.length (a0.2.2.1 : (List Int))) : Nat) : Int) then
                    Option.bind (coin_Swap n (List.getD (a0.2.2.1 : (List Int)) (Int.toNat a1) (0 : Int) : Int) (List.getD (a0.2.2.1 : (List Int)) (Int.toNat (a2.2.2.2.2.1 : Int)) (0 : Int) : Int) (a2.2.2.2.2.2.2.1 : Int) (a2.2.2.2.2.2.2.2.2.1 : Int)) fun r11 =>
                    bif (!(decide ((r11.1.2.2.1 : Int) = 0))) then
                      some ((a0, (r11.1.2.2.1 : Int), ()), [])
                    else
                      Option.bind (desc_Copy n a0) fun r12 =>
                      bif (keepAll r12.2 [((0, [2]), 5), ((0, [3]), 6)]) then
                        if (0 : Int) ≤ a1 ∧ a1 < (((List.length (r12.1.1.2.2.1 : (List Int))) : Nat) : Int) then
                        if (0 : Int) ≤ (a2.2.2.2.2.1 : Int) ∧ (a2.2.2.2.2.1 : Int) < (((List.length (List.set (r12.1.1.2.2.1 : (List Int)) (Int.toNat a1) (r11.1.1 : Int) : (List Int))) : Nat) : Int) then
                        gifts_Trade.l0 n n a0 a1 a2 0 (a2.2.2.2.2.1 : Int) (r1.1.1 : (List Int)) (IntKind.wrap .i64 (((List.length (a2.2.2.2.2.2.2.2.1 : (List Int))) : Int) - ((List.length (a2.2.2.2.2.2.1 : (List Int))) : Int))) (r11.1.1 : Int) (r11.1.2.1 : Int) (r11.1.2.2.1 : Int) (a2.2.2.2.2.2.1 : (List Int)) ((List.length (a2.2.2.2.2.2.1 : (List Int))) : Int) 0 a0 a2 ((([] : List (List Int)), ([] : List Int), ([] : List Int), ([] : List Int), ([] : List Bool), 0, 0, 0, ()), ([] : List Int), ([] : List Int), ([] : List (den tPlace)), ()) ([(a2.2.2.2.2.2.1 : (List Int)), (a2.2.2.2.2.2.2.2.1 : (List Int))] : List (List Int)) (r12.1.1.1, (r12.1.1.2.1 : (List Int)), ([] : List Int), ([] : List (den tPlace)), ()) (List.set (List.set (r12.1.1.2.2.1 : (List Int)) (Int.toNat a1) (r11.1.1 : Int) : (List Int)) (Int.toNat (a2.2.2.2.2.1 : Int)) (r11.1.2.1 : Int) : (List Int)) (r12.1.1.2.2.2.1 : (List (den tPlace)))
                        else none
                        else none
                      else
                        none
                    else none
                    else none
        else none
        else none := by kernel_rfl
def innkeepref03_Ints.res : List Sh := [.d .bool]
@[reducible] def innkeepref03_Ints.R : Type := dShL [.d .bool] × Fresh
def innkeepref03_Ints (n : Nat) (a0 : (List Int)) (a1 : (List Int)) : Option innkeepref03_Ints.R := gc n 22 [.dat (.sl (.int .i64)) a0 [], .dat (.sl (.int .i64)) a1 []] [.d .bool]
def innkeepref03_Ints.l0 (n m0 : Nat) (t0 : (List Int)) (t1 : (List Int)) (t4 : Bool) (t5 : Int) : Option innkeepref03_Ints.R :=
  loopN (fun Kn K s h => run (gc n) n innkeepref03_Ints.c9 Kn K s h) m0 (kBlk 0 (kSeq (run (gc n) n) innkeepref03_Ints.c7 (retK innkeepref03_Ints.fn innkeepref03_Ints.res) (retK innkeepref03_Ints.fn innkeepref03_Ints.res)) (retK innkeepref03_Ints.fn innkeepref03_Ints.res))
    [(0, .dat (.sl (.int .i64)) t0 []), (1, .dat (.sl (.int .i64)) t1 []), (4, .dat .bool t4 []), (5, .dat (.int .i64) t5 [])]
    []
theorem innkeepref03_Ints.l0_eq (n m0 : Nat) (t0 : (List Int)) (t1 : (List Int)) (t4 : Bool) (t5 : Int) : innkeepref03_Ints.l0 n (m0 + 1) t0 t1 t4 t5 =
  bif (decide (t5 < ((List.length t0) : Int))) then
    if (0 : Int) ≤ t5 ∧ t5 < (((List.length t0) : Nat) : Int) then
    if (0 : Int) ≤ t5 ∧ t5 < (((List.length t1) : Nat) : Int) then
    bif (!(decide ((List.getD t0 (Int.toNat t5) (0 : Int) : Int) = (List.getD t1 (Int.toNat t5) (0 : Int) : Int)))) then
      some ((false, ()), [])
    else
      innkeepref03_Ints.l0 n m0 t0 t1 t4 (IntKind.wrap .i64 (t5 + 1))
    else none
    else none
  else
    some ((true, ()), []) := by kernel_rfl
theorem innkeepref03_Ints.eq (n : Nat) (a0 : (List Int)) (a1 : (List Int)) : innkeepref03_Ints (n + 1) a0 a1 =
  bif (!(decide (((List.length a0) : Int) = ((List.length a1) : Int)))) then
    some ((false, ()), [])
  else
    innkeepref03_Ints.l0 n n a0 a1 false 0 := by kernel_rfl
def innkeeplaw11_awake.res : List Sh := [.d .bool]
@[reducible] def innkeeplaw11_awake.R : Type := dShL [.d .bool] × Fresh
def innkeeplaw11_awake (n : Nat) : Option innkeeplaw11_awake.R := gc n 7 [] [.d .bool]
theorem innkeeplaw11_awake.eq (n : Nat) : innkeeplaw11_awake (n + 1) =
  Option.bind (innkeepref06_New n ((List.replicate 2 (dft (.arr 4 (.int .i64)))), ([0, 0, 1] : List Int), ([5, 2, 5] : List Int), ([0, 0, 0] : List Int), ([false, false, false] : List Bool), 4, 2, 1, ())) fun r1 =>
  Option.bind (gifts_Give n (r1.1.1.1, (r1.1.1.2.1 : (List Int)), (r1.1.1.2.2.1 : (List Int)), ([(1, 0, ()), (1, 1, ()), (1, 1, ())] : List (den tPlace)), ()) 0 0 1) fun r2 =>
  Option.bind (gifts_Give n (r1.1.1.1, (r1.1.1.2.1 : (List Int)), (r1.1.1.2.2.1 : (List Int)), ([(1, 0, ()), (1, 1, ()), (1, 1, ())] : List (den tPlace)), ()) 1 1 0) fun r3 =>
  Option.bind (gifts_Give n (r1.1.1.1, (r1.1.1.2.1 : (List Int)), (r1.1.1.2.2.1 : (List Int)), ([(1, 0, ()), (1, 1, ()), (1, 1, ())] : List (den tPlace)), ()) 0 0 2) fun r4 =>
  Option.bind (gifts_Give n (r1.1.1.1, (r1.1.1.2.1 : (List Int)), (r1.1.1.2.2.1 : (List Int)), ([(1, 0, ()), (1, 1, ()), (1, 1, ())] : List (den tPlace)), ()) 0 0 0) fun r5 =>
  Option.bind (gifts_Trade n (r1.1.1.1, (r1.1.1.2.1 : (List Int)), (r1.1.1.2.2.1 : (List Int)), ([(1, 0, ()), (1, 1, ()), (1, 1, ())] : List (den tPlace)), ()) 0 (8, 0, 0, 0, 1, ([0] : List Int), 5, ([1, 2] : List Int), 2, ())) fun r6 =>
  Option.bind (gifts_Trade n (r1.1.1.1, (r1.1.1.2.1 : (List Int)), (r1.1.1.2.2.1 : (List Int)), ([(1, 0, ()), (1, 1, ()), (1, 1, ())] : List (den tPlace)), ()) 0 (8, 0, 0, 0, 1, ([] : List Int), 0, ([] : List Int), 3, ())) fun r7 =>
  Option.bind (gifts_Trade n (r1.1.1.1, (r1.1.1.2.1 : (List Int)), (r1.1.1.2.2.1 : (List Int)), ([(1, 0, ()), (1, 1, ()), (1, 1, ())] : List (den tPlace)), ()) 0 (8, 0, 0, 0, 1, ([0, 0] : List Int), 0, ([] : List Int), 0, ())) fun r8 =>
  bif (decide ((r2.1.2.1 : Int) = 9)) then
    bif (decide ((r3.1.2.1 : Int) = 0)) then
      if (0 : Int) ≤ 1 ∧ 1 < (((List.length (r3.1.1.2.2.2.1 : (List (den tPlace)))) : Nat) : Int) then
      bif (eqT tPlace (List.getD (r3.1.1.2.2.2.1 : (List (den tPlace))) 1 (dft tPlace) : (den tPlace)) (1, 0, ())) then
        bif (decide ((r4.1.2.1 : Int) = 5)) then
          bif (decide ((r5.1.2.1 : Int) = 12)) then
            bif (decide ((r6.1.2.1 : Int) = 0)) then
              if (0 : Int) ≤ 0 ∧ 0 < (((List.length (r6.1.1.2.2.2.1 : (List (den tPlace)))) : Nat) : Int) then
              bif (decide (((List.getD (r6.1.1.2.2.2.1 : (List (den tPlace))) 0 (dft tPlace) : (den tPlace)).2.1 : Int) = 1)) then
                if (0 : Int) ≤ 2 ∧ 2 < (((List.length (r6.1.1.2.2.2.1 : (List (den tPlace)))) : Nat) : Int) then
                bif (decide (((List.getD (r6.1.1.2.2.2.1 : (List (den tPlace))) 2 (dft tPlace) : (den tPlace)).2.1 : Int) = 0)) then
                  Option.bind (innkeepref03_Ints n (r6.1.1.2.2.1 : (List Int)) ([2, 5, 5] : List Int)) fun r9 =>
                  bif (r9.1.1 : Bool) then
                    bif (decide ((r7.1.2.1 : Int) = 10)) then
                      some (((decide ((r8.1.2.1 : Int) = 13)), ()), [])
                    else
                      some ((false, ()), [])
                  else
                    some ((false, ()), [])
                else
                  some ((false, ()), [])
                else none
              else
                some ((false, ()), [])
              else none
            else
              some ((false, ()), [])
          else
            some ((false, ()), [])
        else
          some ((false, ()), [])
      else
        some ((false, ()), [])
      else none
    else
      some ((false, ()), [])
  else
    some ((false, ()), []) := by kernel_rfl
def innkeepref06_Few.res : List Sh := [.d .bool]
@[reducible] def innkeepref06_Few.R : Type := dShL [.d .bool] × Fresh
def innkeepref06_Few (n : Nat) (a0 : (den tWorld)) : Option innkeepref06_Few.R := gc n 23 [.dat tWorld a0 []] [.d .bool]
theorem innkeepref06_Few.eq (n : Nat) (a0 : (den tWorld)) : innkeepref06_Few (n + 1) a0 =
  bif (decide (((List.length (a0.1.1 : (List (List Int)))) : Int) ≤ 20)) then
    bif (decide (((List.length (a0.1.2.1 : (List Int))) : Int) ≤ 20)) then
      bif (decide (((List.length (a0.1.2.2.1 : (List Int))) : Int) ≤ 20)) then
        bif (decide (((List.length (a0.1.2.2.2.1 : (List Int))) : Int) ≤ 40)) then
          bif (decide (((List.length (a0.1.2.2.2.2.1 : (List Bool))) : Int) ≤ 40)) then
            bif (decide (((List.length (a0.2.1 : (List Int))) : Int) ≤ 40)) then
              bif (decide (((List.length (a0.2.2.1 : (List Int))) : Int) ≤ 40)) then
                some (((decide (((List.length (a0.2.2.2.1 : (List (den tPlace)))) : Int) ≤ 40)), ()), [])
              else
                some ((false, ()), [])
            else
              some ((false, ()), [])
          else
            some ((false, ()), [])
        else
          some ((false, ()), [])
      else
        some ((false, ()), [])
    else
      some ((false, ()), [])
  else
    some ((false, ()), []) := by kernel_rfl
def innkeepref06_in.res : List Sh := [.d .bool]
@[reducible] def innkeepref06_in.R : Type := dShL [.d .bool] × Fresh
def innkeepref06_in (n : Nat) (a0 : Int) (a1 : Int) : Option innkeepref06_in.R := gc n 43 [.dat (.int .i64) a0 [], .dat (.int .i64) a1 []] [.d .bool]
theorem innkeepref06_in.eq (n : Nat) (a0 : Int) (a1 : Int) : innkeepref06_in (n + 1) a0 a1 =
  bif (decide (0 ≤ a0)) then
    some (((decide (a0 < a1)), ()), [])
  else
    some ((false, ()), []) := by kernel_rfl
def innkeepref01_Is.res : List Sh := [.d .bool]
@[reducible] def innkeepref01_Is.R : Type := dShL [.d .bool] × Fresh
def innkeepref01_Is (n : Nat) (a0 : Int) : Option innkeepref01_Is.R := gc n 44 [.dat (.int .i64) a0 []] [.d .bool]
theorem innkeepref01_Is.eq (n : Nat) (a0 : Int) : innkeepref01_Is (n + 1) a0 =
  bif (decide (0 ≤ a0)) then
    some (((decide (a0 ≤ 1073741824)), ()), [])
  else
    some ((false, ()), []) := by kernel_rfl
def innkeepref06_May.res : List Sh := [.d .bool]
@[reducible] def innkeepref06_May.R : Type := dShL [.d .bool] × Fresh
def innkeepref06_May (n : Nat) (a0 : (den tDesc)) : Option innkeepref06_May.R := gc n 42 [.dat tDesc a0 []] [.d .bool]
def innkeepref06_May.l0 (n m0 : Nat) (t0 : (den tDesc)) (t2 : Bool) (t3 : Int) (t4 : Int) (o0 : (den tDesc)) : Option innkeepref06_May.R :=
  loopN (fun Kn K s h => run (gc n) n innkeepref06_May.c17 Kn K s h) m0 (kBlk 0 (kSeq (run (gc n) n) innkeepref06_May.c15 (retK innkeepref06_May.fn innkeepref06_May.res) (retK innkeepref06_May.fn innkeepref06_May.res)) (retK innkeepref06_May.fn innkeepref06_May.res))
    [(0, .dat tDesc t0 []), (1, .ptr 0 []), (2, .dat .bool t2 []), (3, .dat (.int .i64) t3 []), (4, .dat (.int .i64) t4 [])]
    [.box tDesc o0 []]
def innkeepref06_May.l1 (n m0 m1 : Nat) (t0_1 : (den tDesc)) (t2_1 : Bool) (t3_1 : Int) (t4_1 : Int) (t5_1 : Int) (o0_1 : (den tDesc)) : Option innkeepref06_May.R :=
  loopN (fun Kn K s h => run (gc n) n innkeepref06_May.c26 Kn K s h) m1 (kBlk 2 (kSeq (run (gc n) n) innkeepref06_May.c24 (kSeq (run (gc n) n) innkeepref06_May.c23 (kSeq (run (gc n) n) innkeepref06_May.c18 (fun _ s h => loopN (fun Kn K s h => run (gc n) n innkeepref06_May.c17 Kn K s h) m0 (kBlk 0 (kSeq (run (gc n) n) innkeepref06_May.c15 (retK innkeepref06_May.fn innkeepref06_May.res) (retK innkeepref06_May.fn innkeepref06_May.res)) (retK innkeepref06_May.fn innkeepref06_May.res)) s h) (kBlk 0 (kSeq (run (gc n) n) innkeepref06_May.c15 (retK innkeepref06_May.fn innkeepref06_May.res) (retK innkeepref06_May.fn innkeepref06_May.res)) (retK innkeepref06_May.fn innkeepref06_May.res))) (kBlk 0 (kSeq (run (gc n) n) innkeepref06_May.c15 (retK innkeepref06_May.fn innkeepref06_May.res) (retK innkeepref06_May.fn innkeepref06_May.res)) (retK innkeepref06_May.fn innkeepref06_May.res))) (kBlk 1 (kSeq (run (gc n) n) innkeepref06_May.c23 (kSeq (run (gc n) n) innkeepref06_May.c18 (fun _ s h => loopN (fun Kn K s h => run (gc n) n innkeepref06_May.c17 Kn K s h) m0 (kBlk 0 (kSeq (run (gc n) n) innkeepref06_May.c15 (retK innkeepref06_May.fn innkeepref06_May.res) (retK innkeepref06_May.fn innkeepref06_May.res)) (retK innkeepref06_May.fn innkeepref06_May.res)) s h) (kBlk 0 (kSeq (run (gc n) n) innkeepref06_May.c15 (retK innkeepref06_May.fn innkeepref06_May.res) (retK innkeepref06_May.fn innkeepref06_May.res)) (retK innkeepref06_May.fn innkeepref06_May.res))) (kBlk 0 (kSeq (run (gc n) n) innkeepref06_May.c15 (retK innkeepref06_May.fn innkeepref06_May.res) (retK innkeepref06_May.fn innkeepref06_May.res)) (retK innkeepref06_May.fn innkeepref06_May.res))) (kBlk 0 (kSeq (run (gc n) n) innkeepref06_May.c15 (retK innkeepref06_May.fn innkeepref06_May.res) (retK innkeepref06_May.fn innkeepref06_May.res)) (retK innkeepref06_May.fn innkeepref06_May.res)))) (kBlk 1 (kSeq (run (gc n) n) innkeepref06_May.c23 (kSeq (run (gc n) n) innkeepref06_May.c18 (fun _ s h => loopN (fun Kn K s h => run (gc n) n innkeepref06_May.c17 Kn K s h) m0 (kBlk 0 (kSeq (run (gc n) n) innkeepref06_May.c15 (retK innkeepref06_May.fn innkeepref06_May.res) (retK innkeepref06_May.fn innkeepref06_May.res)) (retK innkeepref06_May.fn innkeepref06_May.res)) s h) (kBlk 0 (kSeq (run (gc n) n) innkeepref06_May.c15 (retK innkeepref06_May.fn innkeepref06_May.res) (retK innkeepref06_May.fn innkeepref06_May.res)) (retK innkeepref06_May.fn innkeepref06_May.res))) (kBlk 0 (kSeq (run (gc n) n) innkeepref06_May.c15 (retK innkeepref06_May.fn innkeepref06_May.res) (retK innkeepref06_May.fn innkeepref06_May.res)) (retK innkeepref06_May.fn innkeepref06_May.res))) (kBlk 0 (kSeq (run (gc n) n) innkeepref06_May.c15 (retK innkeepref06_May.fn innkeepref06_May.res) (retK innkeepref06_May.fn innkeepref06_May.res)) (retK innkeepref06_May.fn innkeepref06_May.res))))
    [(0, .dat tDesc t0_1 []), (1, .ptr 0 []), (2, .dat .bool t2_1 []), (3, .dat (.int .i64) t3_1 []), (4, .dat (.int .i64) t4_1 []), (5, .dat (.int .i64) t5_1 [])]
    [.box tDesc o0_1 []]
def innkeepref06_May.l2 (n m0 m1 : Nat) (t0_2 : (den tDesc)) (t2_2 : Bool) (t3_2 : Int) (t4_2 : Int) (t5_2 : Int) (t6_2 : Int) (t7_2 : Int) (o0_2 : (den tDesc)) : Option innkeepref06_May.R :=
  loopN (fun Kn K s h => run (gc n) n innkeepref06_May.c43 Kn K s h) m1 (kBlk 4 (kSeq (run (gc n) n) innkeepref06_May.c41 (kSeq (run (gc n) n) innkeepref06_May.c23 (kSeq (run (gc n) n) innkeepref06_May.c18 (fun _ s h => loopN (fun Kn K s h => run (gc n) n innkeepref06_May.c17 Kn K s h) m0 (kBlk 0 (kSeq (run (gc n) n) innkeepref06_May.c15 (retK innkeepref06_May.fn innkeepref06_May.res) (retK innkeepref06_May.fn innkeepref06_May.res)) (retK innkeepref06_May.fn innkeepref06_May.res)) s h) (kBlk 0 (kSeq (run (gc n) n) innkeepref06_May.c15 (retK innkeepref06_May.fn innkeepref06_May.res) (retK innkeepref06_May.fn innkeepref06_May.res)) (retK innkeepref06_May.fn innkeepref06_May.res))) (kBlk 0 (kSeq (run (gc n) n) innkeepref06_May.c15 (retK innkeepref06_May.fn innkeepref06_May.res) (retK innkeepref06_May.fn innkeepref06_May.res)) (retK innkeepref06_May.fn innkeepref06_May.res))) (kBlk 1 (kSeq (run (gc n) n) innkeepref06_May.c23 (kSeq (run (gc n) n) innkeepref06_May.c18 (fun _ s h => loopN (fun Kn K s h => run (gc n) n innkeepref06_May.c17 Kn K s h) m0 (kBlk 0 (kSeq (run (gc n) n) innkeepref06_May.c15 (retK innkeepref06_May.fn innkeepref06_May.res) (retK innkeepref06_May.fn innkeepref06_May.res)) (retK innkeepref06_May.fn innkeepref06_May.res)) s h) (kBlk 0 (kSeq (run (gc n) n) innkeepref06_May.c15 (retK innkeepref06_May.fn innkeepref06_May.res) (retK innkeepref06_May.fn innkeepref06_May.res)) (retK innkeepref06_May.fn innkeepref06_May.res))) (kBlk 0 (kSeq (run (gc n) n) innkeepref06_May.c15 (retK innkeepref06_May.fn innkeepref06_May.res) (retK innkeepref06_May.fn innkeepref06_May.res)) (retK innkeepref06_May.fn innkeepref06_May.res))) (kBlk 0 (kSeq (run (gc n) n) innkeepref06_May.c15 (retK innkeepref06_May.fn innkeepref06_May.res) (retK innkeepref06_May.fn innkeepref06_May.res)) (retK innkeepref06_May.fn innkeepref06_May.res)))) (kBlk 1 (kSeq (run (gc n) n) innkeepref06_May.c23 (kSeq (run (gc n) n) innkeepref06_May.c18 (fun _ s h => loopN (fun Kn K s h => run (gc n) n innkeepref06_May.c17 Kn K s h) m0 (kBlk 0 (kSeq (run (gc n) n) innkeepref06_May.c15 (retK innkeepref06_May.fn innkeepref06_May.res) (retK innkeepref06_May.fn innkeepref06_May.res)) (retK innkeepref06_May.fn innkeepref06_May.res)) s h) (kBlk 0 (kSeq (run (gc n) n) innkeepref06_May.c15 (retK innkeepref06_May.fn innkeepref06_May.res) (retK innkeepref06_May.fn innkeepref06_May.res)) (retK innkeepref06_May.fn innkeepref06_May.res))) (kBlk 0 (kSeq (run (gc n) n) innkeepref06_May.c15 (retK innkeepref06_May.fn innkeepref06_May.res) (retK innkeepref06_May.fn innkeepref06_May.res)) (retK innkeepref06_May.fn innkeepref06_May.res))) (kBlk 0 (kSeq (run (gc n) n) innkeepref06_May.c15 (retK innkeepref06_May.fn innkeepref06_May.res) (retK innkeepref06_May.fn innkeepref06_May.res)) (retK innkeepref06_May.fn innkeepref06_May.res))))
    [(0, .dat tDesc t0_2 []), (1, .ptr 0 []), (2, .dat .bool t2_2 []), (3, .dat (.int .i64) t3_2 []), (4, .dat (.int .i64) t4_2 []), (5, .dat (.int .i64) t5_2 []), (6, .dat (.int .i64) t6_2 []), (7, .dat (.int .i64) t7_2 [])]
    [.box tDesc o0_2 []]
def innkeepref06_May.l3 (n m0 : Nat) (t0_3 : (den tDesc)) (t2_3 : Bool) (t3_3 : Int) (t4_3 : Int) (t8_3 : Int) (o0_3 : (den tDesc)) : Option innkeepref06_May.R :=
  loopN (fun Kn K s h => run (gc n) n innkeepref06_May.c66 Kn K s h) m0 (kBlk 6 (kSeq (run (gc n) n) innkeepref06_May.c64 (retK innkeepref06_May.fn innkeepref06_May.res) (retK innkeepref06_May.fn innkeepref06_May.res)) (retK innkeepref06_May.fn innkeepref06_May.res))
    [(0, .dat tDesc t0_3 []), (1, .ptr 0 []), (2, .dat .bool t2_3 []), (3, .dat (.int .i64) t3_3 []), (4, .dat (.int .i64) t4_3 []), (8, .dat (.int .i64) t8_3 [])]
    [.box tDesc o0_3 []]
def innkeepref06_May.l4 (n m0 : Nat) (t0_4 : (den tDesc)) (t2_4 : Bool) (t3_4 : Int) (t4_4 : Int) (t8_4 : Int) (t9_4 : Int) (o0_4 : (den tDesc)) : Option innkeepref06_May.R :=
  loopN (fun Kn K s h => run (gc n) n innkeepref06_May.c82 Kn K s h) m0 (kBlk 8 (kSeq (run (gc n) n) innkeepref06_May.c80 (retK innkeepref06_May.fn innkeepref06_May.res) (retK innkeepref06_May.fn innkeepref06_May.res)) (retK innkeepref06_May.fn innkeepref06_May.res))
    [(0, .dat tDesc t0_4 []), (1, .ptr 0 []), (2, .dat .bool t2_4 []), (3, .dat (.int .i64) t3_4 []), (4, .dat (.int .i64) t4_4 []), (8, .dat (.int .i64) t8_4 []), (9, .dat (.int .i64) t9_4 [])]
    [.box tDesc o0_4 []]
theorem innkeepref06_May.l0_eq (n m0 : Nat) (t0 : (den tDesc)) (t2 : Bool) (t3 : Int) (t4 : Int) (o0 : (den tDesc)) : innkeepref06_May.l0 n (m0 + 1) t0 t2 t3 t4 o0 =
  bif (decide (t4 < t3)) then
    innkeepref06_May.l1 n m0 n t0 t2 t3 t4 0 o0
  else
    innkeepref06_May.l3 n n t0 t2 t3 t4 0 o0 := by kernel_rfl
theorem innkeepref06_May.l1_eq (n m0 m1 : Nat) (t0_1 : (den tDesc)) (t2_1 : Bool) (t3_1 : Int) (t4_1 : Int) (t5_1 : Int) (o0_1 : (den tDesc)) : innkeepref06_May.l1 n m0 (m1 + 1) t0_1 t2_1 t3_1 t4_1 t5_1 o0_1 =
  bif (decide (t5_1 < 4)) then
    if (0 : Int) ≤ t4_1 ∧ t4_1 < (((List.length (o0_1.1 : (List (List Int)))) : Nat) : Int) then
    if (0 : Int) ≤ t5_1 ∧ t5_1 < ((4 : Nat) : Int) then
    bif (!(decide ((List.getD (List.getD (o0_1.1 : (List (List Int))) (Int.toNat t4_1) (dft (.arr 4 (.int .i64))) : (List Int)) (Int.toNat t5_1) (0 : Int) : Int) = (-1)))) then
      if (0 : Int) ≤ t4_1 ∧ t4_1 < (((List.length (o0_1.1 : (List (List Int)))) : Nat) : Int) then
      if (0 : Int) ≤ t5_1 ∧ t5_1 < ((4 : Nat) : Int) then
      Option.bind (innkeepref06_in n (List.getD (List.getD (o0_1.1 : (List (List Int))) (Int.toNat t4_1) (dft (.arr 4 (.int .i64))) : (List Int)) (Int.toNat t5_1) (0 : Int) : Int) t3_1) fun r4 =>
      bif (!(r4.1.1 : Bool)) then
        some ((false, ()), [])
      else
        innkeepref06_May.l1 n m0 m1 t0_1 t2_1 t3_1 t4_1 (IntKind.wrap .i64 (t5_1 + 1)) o0_1
      else none
      else none
    else
      innkeepref06_May.l1 n m0 m1 t0_1 t2_1 t3_1 t4_1 (IntKind.wrap .i64 (t5_1 + 1)) o0_1
    else none
    else none
  else
    innkeepref06_May.l2 n m0 n t0_1 t2_1 t3_1 t4_1 t5_1 0 0 o0_1 := by kernel_rfl
theorem innkeepref06_May.l2_eq (n m0 m1 : Nat) (t0_2 : (den tDesc)) (t2_2 : Bool) (t3_2 : Int) (t4_2 : Int) (t5_2 : Int) (t6_2 : Int) (t7_2 : Int) (o0_2 : (den tDesc)) : innkeepref06_May.l2 n m0 (m1 + 1) t0_2 t2_2 t3_2 t4_2 t5_2 t6_2 t7_2 o0_2 =
  bif (decide (t7_2 < ((List.length (o0_2.2.2.2.1 : (List Int))) : Int))) then
    if (0 : Int) ≤ t7_2 ∧ t7_2 < (((List.length (o0_2.2.2.2.1 : (List Int))) : Nat) : Int) then
    bif (decide ((List.getD (o0_2.2.2.2.1 : (List Int)) (Int.toNat t7_2) (0 : Int) : Int) = t4_2)) then
      innkeepref06_May.l2 n m0 m1 t0_2 t2_2 t3_2 t4_2 t5_2 (IntKind.wrap .i64 (t6_2 + 1)) (IntKind.wrap .i64 (t7_2 + 1)) o0_2
    else
      innkeepref06_May.l2 n m0 m1 t0_2 t2_2 t3_2 t4_2 t5_2 t6_2 (IntKind.wrap .i64 (t7_2 + 1)) o0_2
    else none
  else
    bif (decide ((o0_2.2.2.2.2.2.1 : Int) < t6_2)) then
      some ((false, ()), [])
    else
      innkeepref06_May.l0 n m0 t0_2 t2_2 t3_2 (IntKind.wrap .i64 (t4_2 + 1)) o0_2 := by kernel_rfl
theorem innkeepref06_May.l3_eq (n m0 : Nat) (t0_3 : (den tDesc)) (t2_3 : Bool) (t3_3 : Int) (t4_3 : Int) (t8_3 : Int) (o0_3 : (den tDesc)) : innkeepref06_May.l3 n (m0 + 1) t0_3 t2_3 t3_3 t4_3 t8_3 o0_3 =
  bif (decide (t8_3 < ((List.length (o0_3.2.1 : (List Int))) : Int))) then
    if (0 : Int) ≤ t8_3 ∧ t8_3 < (((List.length (o0_3.2.1 : (List Int))) : Nat) : Int) then
    Option.bind (innkeepref06_in n (List.getD (o0_3.2.1 : (List Int)) (Int.toNat t8_3) (0 : Int) : Int) t3_3) fun r5 =>
    bif (!(r5.1.1 : Bool)) then
      some ((false, ()), [])
    else
      if (0 : Int) ≤ t8_3 ∧ t8_3 < (((List.length (o0_3.2.2.1 : (List Int))) : Nat) : Int) then
      Option.bind (innkeepref01_Is n (List.getD (o0_3.2.2.1 : (List Int)) (Int.toNat t8_3) (0 : Int) : Int)) fun r6 =>
      bif (!(r6.1.1 : Bool)) then
        some ((false, ()), [])
      else
        innkeepref06_May.l3 n m0 t0_3 t2_3 t3_3 t4_3 (IntKind.wrap .i64 (t8_3 + 1)) o0_3
      else none
    else none
  else
    innkeepref06_May.l4 n n t0_3 t2_3 t3_3 t4_3 t8_3 0 o0_3 := by kernel_rfl
theorem innkeepref06_May.l4_eq (n m0 : Nat) (t0_4 : (den tDesc)) (t2_4 : Bool) (t3_4 : Int) (t4_4 : Int) (t8_4 : Int) (t9_4 : Int) (o0_4 : (den tDesc)) : innkeepref06_May.l4 n (m0 + 1) t0_4 t2_4 t3_4 t4_4 t8_4 t9_4 o0_4 =
  bif (decide (t9_4 < ((List.length (o0_4.2.2.2.1 : (List Int))) : Int))) then
    if (0 : Int) ≤ t9_4 ∧ t9_4 < (((List.length (o0_4.2.2.2.1 : (List Int))) : Nat) : Int) then
    Option.bind (innkeepref06_in n (List.getD (o0_4.2.2.2.1 : (List Int)) (Int.toNat t9_4) (0 : Int) : Int) t3_4) fun r7 =>
    bif (!(r7.1.1 : Bool)) then
      some ((false, ()), [])
    else
      innkeepref06_May.l4 n m0 t0_4 t2_4 t3_4 t4_4 t8_4 (IntKind.wrap .i64 (t9_4 + 1)) o0_4
    else none
  else
    some ((true, ()), []) := by kernel_rfl
theorem innkeepref06_May.eq (n : Nat) (a0 : (den tDesc)) : innkeepref06_May (n + 1) a0 =
  bif (decide (((List.length (a0.1 : (List (List Int)))) : Int) < 1)) then
    some ((false, ()), [])
  else
    bif (decide (8 < ((List.length (a0.1 : (List (List Int)))) : Int))) then
      some ((false, ()), [])
    else
      bif (decide (((List.length (a0.2.1 : (List Int))) : Int) < 1)) then
        some ((false, ()), [])
      else
        bif (decide (6 < ((List.length (a0.2.1 : (List Int))) : Int))) then
          some ((false, ()), [])
        else
          bif (!(decide (((List.length (a0.2.2.1 : (List Int))) : Int) = ((List.length (a0.2.1 : (List Int))) : Int)))) then
            some ((false, ()), [])
          else
            bif (decide (16 < ((List.length (a0.2.2.2.1 : (List Int))) : Int))) then
              some ((false, ()), [])
            else
              bif (!(decide (((List.length (a0.2.2.2.2.1 : (List Bool))) : Int) = ((List.length (a0.2.2.2.1 : (List Int))) : Int)))) then
                some ((false, ()), [])
              else
                Option.bind (innkeepref06_in n (a0.2.2.2.2.2.1 : Int) 65) fun r1 =>
                bif (!(r1.1.1 : Bool)) then
                  some ((false, ()), [])
                else
                  Option.bind (innkeepref06_in n (a0.2.2.2.2.2.2.1 : Int) 65) fun r2 =>
                  bif (!(r2.1.1 : Bool)) then
                    some ((false, ()), [])
                  else
                    Option.bind (innkeepref06_in n (a0.2.2.2.2.2.2.2.1 : Int) 65) fun r3 =>
                    bif (!(r3.1.1 : Bool)) then
                      some ((false, ()), [])
                    else
                      innkeepref06_May.l0 n n a0 false ((List.length (a0.1 : (List (List Int)))) : Int) 0 a0 := by kernel_rfl
def innkeepref06_Depth.res : List Sh := [.d (.int .i64)]
@[reducible] def innkeepref06_Depth.R : Type := dShL [.d (.int .i64)] × Fresh
def innkeepref06_Depth (n : Nat) (a0 : (den tWorld)) (a1 : (den tPlace)) : Option innkeepref06_Depth.R := gc n 45 [.dat tWorld a0 [], .dat tPlace a1 []] [.d (.int .i64)]
def innkeepref06_Depth.l0 (n m0 : Nat) (t0 : (den tWorld)) (t1 : (den tPlace)) (t4 : Int) (t5 : Int) (o0 : (den tWorld)) (o1 : (den tPlace)) : Option innkeepref06_Depth.R :=
  loopN (fun Kn K s h => run (gc n) n innkeepref06_Depth.c3 Kn K s h) m0 (kBlk 0 (kSeq (run (gc n) n) innkeepref06_Depth.c2 (retK innkeepref06_Depth.fn innkeepref06_Depth.res) (retK innkeepref06_Depth.fn innkeepref06_Depth.res)) (retK innkeepref06_Depth.fn innkeepref06_Depth.res))
    [(0, .dat tWorld t0 []), (1, .dat tPlace t1 []), (2, .ptr 0 []), (3, .ptr 1 []), (4, .dat (.int .i64) t4 []), (5, .dat (.int .i64) t5 [])]
    [.box tWorld o0 [], .box tPlace o1 []]
theorem innkeepref06_Depth.l0_eq (n m0 : Nat) (t0 : (den tWorld)) (t1 : (den tPlace)) (t4 : Int) (t5 : Int) (o0 : (den tWorld)) (o1 : (den tPlace)) : innkeepref06_Depth.l0 n (m0 + 1) t0 t1 t4 t5 o0 o1 =
  bif (decide ((o1.1 : Int) = 2)) then
    bif (decide (50 < (IntKind.wrap .i64 (t5 + 1)))) then
      some ((99, ()), [])
    else
      if (0 : Int) ≤ (o1.2.1 : Int) ∧ (o1.2.1 : Int) < (((List.length (o0.2.2.2.1 : (List (den tPlace)))) : Nat) : Int) then
      innkeepref06_Depth.l0 n m0 t0 t1 t4 (IntKind.wrap .i64 (t5 + 1)) o0 (List.getD (o0.2.2.2.1 : (List (den tPlace))) (Int.toNat (o1.2.1 : Int)) (dft tPlace) : (den tPlace))
      else none
  else
    some ((t5, ()), []) := by kernel_rfl
theorem innkeepref06_Depth.eq (n : Nat) (a0 : (den tWorld)) (a1 : (den tPlace)) : innkeepref06_Depth (n + 1) a0 a1 =
  innkeepref06_Depth.l0 n n a0 a1 0 0 a0 a1 := by kernel_rfl
def innkeepref06_Many.res : List Sh := [.d (.int .i64)]
@[reducible] def innkeepref06_Many.R : Type := dShL [.d (.int .i64)] × Fresh
def innkeepref06_Many (n : Nat) (a0 : (den tWorld)) (a1 : (den tPlace)) : Option innkeepref06_Many.R := gc n 46 [.dat tWorld a0 [], .dat tPlace a1 []] [.d (.int .i64)]
def innkeepref06_Many.l0 (n m0 : Nat) (t0 : (den tWorld)) (t1 : (den tPlace)) (t4 : Int) (t5 : Int) (t6 : Int) (o0 : (den tWorld)) (o1 : (den tPlace)) : Option innkeepref06_Many.R :=
  loopN (fun Kn K s h => run (gc n) n innkeepref06_Many.c4 Kn K s h) m0 (kBlk 0 (kSeq (run (gc n) n) innkeepref06_Many.c2 (retK innkeepref06_Many.fn innkeepref06_Many.res) (retK innkeepref06_Many.fn innkeepref06_Many.res)) (retK innkeepref06_Many.fn innkeepref06_Many.res))
    [(0, .dat tWorld t0 []), (1, .dat tPlace t1 []), (2, .ptr 0 []), (3, .ptr 1 []), (4, .dat (.int .i64) t4 []), (5, .dat (.int .i64) t5 []), (6, .dat (.int .i64) t6 [])]
    [.box tWorld o0 [], .box tPlace o1 []]
theorem innkeepref06_Many.l0_eq (n m0 : Nat) (t0 : (den tWorld)) (t1 : (den tPlace)) (t4 : Int) (t5 : Int) (t6 : Int) (o0 : (den tWorld)) (o1 : (den tPlace)) : innkeepref06_Many.l0 n (m0 + 1) t0 t1 t4 t5 t6 o0 o1 =
  bif (decide (t6 < ((List.length (o0.2.2.2.1 : (List (den tPlace)))) : Int))) then
    if (0 : Int) ≤ t6 ∧ t6 < (((List.length (o0.2.2.2.1 : (List (den tPlace)))) : Nat) : Int) then
    bif (eqT tPlace (List.getD (o0.2.2.2.1 : (List (den tPlace))) (Int.toNat t6) (dft tPlace) : (den tPlace)) o1) then
      innkeepref06_Many.l0 n m0 t0 t1 t4 (IntKind.wrap .i64 (t5 + 1)) (IntKind.wrap .i64 (t6 + 1)) o0 o1
    else
      innkeepref06_Many.l0 n m0 t0 t1 t4 t5 (IntKind.wrap .i64 (t6 + 1)) o0 o1
    else none
  else
    some ((t5, ()), []) := by kernel_rfl
theorem innkeepref06_Many.eq (n : Nat) (a0 : (den tWorld)) (a1 : (den tPlace)) : innkeepref06_Many (n + 1) a0 a1 =
  innkeepref06_Many.l0 n n a0 a1 0 0 0 a0 a1 := by kernel_rfl
def innkeepref06_Cap.res : List Sh := [.d (.int .i64)]
@[reducible] def innkeepref06_Cap.R : Type := dShL [.d (.int .i64)] × Fresh
def innkeepref06_Cap (n : Nat) (a0 : (den tWorld)) (a1 : (den tPlace)) : Option innkeepref06_Cap.R := gc n 47 [.dat tWorld a0 [], .dat tPlace a1 []] [.d (.int .i64)]
theorem innkeepref06_Cap.eq (n : Nat) (a0 : (den tWorld)) (a1 : (den tPlace)) : innkeepref06_Cap (n + 1) a0 a1 =
  if (0 : Int) ≤ (a1.1 : Int) ∧ (a1.1 : Int) < ((3 : Nat) : Int) then
  some (((List.getD ([(a0.1.2.2.2.2.2.1 : Int), (a0.1.2.2.2.2.2.2.1 : Int), (a0.1.2.2.2.2.2.2.2.1 : Int)] : List Int) (Int.toNat (a1.1 : Int)) (0 : Int) : Int), ()), [])
  else none := by kernel_rfl
def innkeepref06_Right.res : List Sh := [.d .bool]
@[reducible] def innkeepref06_Right.R : Type := dShL [.d .bool] × Fresh
def innkeepref06_Right (n : Nat) (a0 : (den tWorld)) : Option innkeepref06_Right.R := gc n 17 [.dat tWorld a0 []] [.d .bool]
def innkeepref06_Right.l0 (n m0 : Nat) (t0 : (den tWorld)) (t2 : Bool) (t4 : Int) (o0 : (den tWorld)) (o1 : (den tDesc)) : Option innkeepref06_Right.R :=
  loopN (fun Kn K s h => run (gc n) n innkeepref06_Right.c11 Kn K s h) m0 (kBlk 0 (kSeq (run (gc n) n) innkeepref06_Right.c9 (retK innkeepref06_Right.fn innkeepref06_Right.res) (retK innkeepref06_Right.fn innkeepref06_Right.res)) (retK innkeepref06_Right.fn innkeepref06_Right.res))
    [(0, .dat tWorld t0 []), (1, .ptr 0 []), (2, .dat .bool t2 []), (3, .ptr 1 []), (4, .dat (.int .i64) t4 [])]
    [.box tWorld o0 [], .box tDesc o1 []]
def innkeepref06_Right.l1 (n m0 : Nat) (t0_1 : (den tWorld)) (t2_1 : Bool) (t4_1 : Int) (t5_1 : Int) (o0_1 : (den tWorld)) (o1_1 : (den tDesc)) : Option innkeepref06_Right.R :=
  loopN (fun Kn K s h => run (gc n) n innkeepref06_Right.c27 Kn K s h) m0 (kBlk 2 (kSeq (run (gc n) n) innkeepref06_Right.c25 (retK innkeepref06_Right.fn innkeepref06_Right.res) (retK innkeepref06_Right.fn innkeepref06_Right.res)) (retK innkeepref06_Right.fn innkeepref06_Right.res))
    [(0, .dat tWorld t0_1 []), (1, .ptr 0 []), (2, .dat .bool t2_1 []), (3, .ptr 1 []), (4, .dat (.int .i64) t4_1 []), (5, .dat (.int .i64) t5_1 [])]
    [.box tWorld o0_1 [], .box tDesc o1_1 []]
def innkeepref06_Right.l2 (n m0 : Nat) (t0_2 : (den tWorld)) (t2_2 : Bool) (t4_2 : Int) (t5_2 : Int) (t8_2 : Int) (o0_2 : (den tWorld)) (o1_2 : (den tDesc)) : Option innkeepref06_Right.R :=
  loopN (fun Kn K s h => run (gc n) n innkeepref06_Right.c47 Kn K s h) m0 (kBlk 4 (kSeq (run (gc n) n) innkeepref06_Right.c45 (retK innkeepref06_Right.fn innkeepref06_Right.res) (retK innkeepref06_Right.fn innkeepref06_Right.res)) (retK innkeepref06_Right.fn innkeepref06_Right.res))
    [(0, .dat tWorld t0_2 []), (1, .ptr 0 []), (2, .dat .bool t2_2 []), (3, .ptr 1 []), (4, .dat (.int .i64) t4_2 []), (5, .dat (.int .i64) t5_2 []), (8, .dat (.int .i64) t8_2 [])]
    [.box tWorld o0_2 [], .box tDesc o1_2 []]
theorem innkeepref06_Right.l0_eq (n m0 : Nat) (t0 : (den tWorld)) (t2 : Bool) (t4 : Int) (o0 : (den tWorld)) (o1 : (den tDesc)) : innkeepref06_Right.l0 n (m0 + 1) t0 t2 t4 o0 o1 =
  bif (decide (t4 < ((List.length (o0.2.1 : (List Int))) : Int))) then
    if (0 : Int) ≤ t4 ∧ t4 < (((List.length (o0.2.1 : (List Int))) : Nat) : Int) then
    Option.bind (innkeepref06_in n (List.getD (o0.2.1 : (List Int)) (Int.toNat t4) (0 : Int) : Int) ((List.length (o1.1 : (List (List Int)))) : Int)) fun r2 =>
    bif (!(r2.1.1 : Bool)) then
      some ((false, ()), [])
    else
      if (0 : Int) ≤ t4 ∧ t4 < (((List.length (o0.2.2.1 : (List Int))) : Nat) : Int) then
      Option.bind (innkeepref01_Is n (List.getD (o0.2.2.1 : (List Int)) (Int.toNat t4) (0 : Int) : Int)) fun r3 =>
      bif (!(r3.1.1 : Bool)) then
        some ((false, ()), [])
      else
        innkeepref06_Right.l0 n m0 t0 t2 (IntKind.wrap .i64 (t4 + 1)) o0 o1
      else none
    else none
  else
    innkeepref06_Right.l1 n n t0 t2 t4 0 o0 o1 := by kernel_rfl
theorem innkeepref06_Right.l1_eq (n m0 : Nat) (t0_1 : (den tWorld)) (t2_1 : Bool) (t4_1 : Int) (t5_1 : Int) (o0_1 : (den tWorld)) (o1_1 : (den tDesc)) : innkeepref06_Right.l1 n (m0 + 1) t0_1 t2_1 t4_1 t5_1 o0_1 o1_1 =
  bif (decide (t5_1 < ((List.length (o0_1.2.2.2.1 : (List (den tPlace)))) : Int))) then
    if (0 : Int) ≤ t5_1 ∧ t5_1 < (((List.length (o0_1.2.2.2.1 : (List (den tPlace)))) : Nat) : Int) then
    bif (decide (((List.getD (o0_1.2.2.2.1 : (List (den tPlace))) (Int.toNat t5_1) (dft tPlace) : (den tPlace)).1 : Int) = 0)) then
      Option.bind (innkeepref06_in n ((List.getD (o0_1.2.2.2.1 : (List (den tPlace))) (Int.toNat t5_1) (dft tPlace) : (den tPlace)).2.1 : Int) ((List.length (o1_1.1 : (List (List Int)))) : Int)) fun r4 =>
      bif (r4.1.1 : Bool) then
        innkeepref06_Right.l1 n m0 t0_1 t2_1 t4_1 (IntKind.wrap .i64 (t5_1 + 1)) o0_1 o1_1
      else
        bif (decide (((List.getD (o0_1.2.2.2.1 : (List (den tPlace))) (Int.toNat t5_1) (dft tPlace) : (den tPlace)).1 : Int) = 1)) then
          Option.bind (innkeepref06_in n ((List.getD (o0_1.2.2.2.1 : (List (den tPlace))) (Int.toNat t5_1) (dft tPlace) : (den tPlace)).2.1 : Int) ((List.length (o1_1.2.1 : (List Int))) : Int)) fun r5 =>
          bif (r5.1.1 : Bool) then
            innkeepref06_Right.l1 n m0 t0_1 t2_1 t4_1 (IntKind.wrap .i64 (t5_1 + 1)) o0_1 o1_1
          else
            bif (decide (((List.getD (o0_1.2.2.2.1 : (List (den tPlace))) (Int.toNat t5_1) (dft tPlace) : (den tPlace)).1 : Int) = 2)) then
              Option.bind (innkeepref06_in n ((List.getD (o0_1.2.2.2.1 : (List (den tPlace))) (Int.toNat t5_1) (dft tPlace) : (den tPlace)).2.1 : Int) ((List.length (o1_1.2.2.2.1 : (List Int))) : Int)) fun r6 =>
              bif (r6.1.1 : Bool) then
                if (0 : Int) ≤ ((List.getD (o0_1.2.2.2.1 : (List (den tPlace))) (Int.toNat t5_1) (dft tPlace) : (den tPlace)).2.1 : Int) ∧ ((List.getD (o0_1.2.2.2.1 : (List (den tPlace))) (Int.toNat t5_1) (dft tPlace) : (den tPlace)).2.1 : Int) < (((List.length (o1_1.2.2.2.2.1 : (List Bool))) : Nat) : Int) then
                bif (!(List.getD (o1_1.2.2.2.2.1 : (List Bool)) (Int.toNat ((List.getD (o0_1.2.2.2.1 : (List (den tPlace))) (Int.toNat t5_1) (dft tPlace) : (den tPlace)).2.1 : Int)) false : Bool)) then
                  some ((false, ()), [])
                else
                  innkeepref06_Right.l1 n m0 t0_1 t2_1 t4_1 (IntKind.wrap .i64 (t5_1 + 1)) o0_1 o1_1
                else none
              else
                some ((false, ()), [])
            else
              some ((false, ()), [])
        else
          bif (decide (((List.getD (o0_1.2.2.2.1 : (List (den tPlace))) (Int.toNat t5_1) (dft tPlace) : (den tPlace)).1 : Int) = 2)) then
            Option.bind (innkeepref06_in n ((List.getD (o0_1.2.2.2.1 : (List (den tPlace))) (Int.toNat t5_1) (dft tPlace) : (den tPlace)).2.1 : Int) ((List.length (o1_1.2.2.2.1 : (List Int))) : Int)) fun r7 =>
            bif (r7.1.1 : Bool) then
              if (0 : Int) ≤ ((List.getD (o0_1.2.2.2.1 : (List (den tPlace))) (Int.toNat t5_1) (dft tPlace) : (den tPlace)).2.1 : Int) ∧ ((List.getD (o0_1.2.2.2.1 : (List (den tPlace))) (Int.toNat t5_1) (dft tPlace) : (den tPlace)).2.1 : Int) < (((List.length (o1_1.2.2.2.2.1 : (List Bool))) : Nat) : Int) then
              bif (!(List.getD (o1_1.2.2.2.2.1 : (List Bool)) (Int.toNat ((List.getD (o0_1.2.2.2.1 : (List (den tPlace))) (Int.toNat t5_1) (dft tPlace) : (den tPlace)).2.1 : Int)) false : Bool)) then
                some ((false, ()), [])
              else
                innkeepref06_Right.l1 n m0 t0_1 t2_1 t4_1 (IntKind.wrap .i64 (t5_1 + 1)) o0_1 o1_1
              else none
            else
              some ((false, ()), [])
          else
            some ((false, ()), [])
    else
      bif (decide (((List.getD (o0_1.2.2.2.1 : (List (den tPlace))) (Int.toNat t5_1) (dft tPlace) : (den tPlace)).1 : Int) = 1)) then
        Option.bind (innkeepref06_in n ((List.getD (o0_1.2.2.2.1 : (List (den tPlace))) (Int.toNat t5_1) (dft tPlace) : (den tPlace)).2.1 : Int) ((List.length (o1_1.2.1 : (List Int))) : Int)) fun r8 =>
        bif (r8.1.1 : Bool) then
          innkeepref06_Right.l1 n m0 t0_1 t2_1 t4_1 (IntKind.wrap .i64 (t5_1 + 1)) o0_1 o1_1
        else
          bif (decide (((List.getD (o0_1.2.2.2.1 : (List (den tPlace))) (Int.toNat t5_1) (dft tPlace) : (den tPlace)).1 : Int) = 2)) then
            Option.bind (innkeepref06_in n ((List.getD (o0_1.2.2.2.1 : (List (den tPlace))) (Int.toNat t5_1) (dft tPlace) : (den tPlace)).2.1 : Int) ((List.length (o1_1.2.2.2.1 : (List Int))) : Int)) fun r9 =>
            bif (r9.1.1 : Bool) then
              if (0 : Int) ≤ ((List.getD (o0_1.2.2.2.1 : (List (den tPlace))) (Int.toNat t5_1) (dft tPlace) : (den tPlace)).2.1 : Int) ∧ ((List.getD (o0_1.2.2.2.1 : (List (den tPlace))) (Int.toNat t5_1) (dft tPlace) : (den tPlace)).2.1 : Int) < (((List.length (o1_1.2.2.2.2.1 : (List Bool))) : Nat) : Int) then
              bif (!(List.getD (o1_1.2.2.2.2.1 : (List Bool)) (Int.toNat ((List.getD (o0_1.2.2.2.1 : (List (den tPlace))) (Int.toNat t5_1) (dft tPlace) : (den tPlace)).2.1 : Int)) false : Bool)) then
                some ((false, ()), [])
              else
                innkeepref06_Right.l1 n m0 t0_1 t2_1 t4_1 (IntKind.wrap .i64 (t5_1 + 1)) o0_1 o1_1
              else none
            else
              some ((false, ()), [])
          else
            some ((false, ()), [])
      else
        bif (decide (((List.getD (o0_1.2.2.2.1 : (List (den tPlace))) (Int.toNat t5_1) (dft tPlace) : (den tPlace)).1 : Int) = 2)) then
          Option.bind (innkeepref06_in n ((List.getD (o0_1.2.2.2.1 : (List (den tPlace))) (Int.toNat t5_1) (dft tPlace) : (den tPlace)).2.1 : Int) ((List.length (o1_1.2.2.2.1 : (List Int))) : Int)) fun r10 =>
          bif (r10.1.1 : Bool) then
            if (0 : Int) ≤ ((List.getD (o0_1.2.2.2.1 : (List (den tPlace))) (Int.toNat t5_1) (dft tPlace) : (den tPlace)).2.1 : Int) ∧ ((List.getD (o0_1.2.2.2.1 : (List (den tPlace))) (Int.toNat t5_1) (dft tPlace) : (den tPlace)).2.1 : Int) < (((List.length (o1_1.2.2.2.2.1 : (List Bool))) : Nat) : Int) then
            bif (!(List.getD (o1_1.2.2.2.2.1 : (List Bool)) (Int.toNat ((List.getD (o0_1.2.2.2.1 : (List (den tPlace))) (Int.toNat t5_1) (dft tPlace) : (den tPlace)).2.1 : Int)) false : Bool)) then
              some ((false, ()), [])
            else
              innkeepref06_Right.l1 n m0 t0_1 t2_1 t4_1 (IntKind.wrap .i64 (t5_1 + 1)) o0_1 o1_1
            else none
          else
            some ((false, ()), [])
        else
          some ((false, ()), [])
    else none
  else
    innkeepref06_Right.l2 n n t0_1 t2_1 t4_1 t5_1 0 o0_1 o1_1 := by kernel_rfl
theorem innkeepref06_Right.l2_eq (n m0 : Nat) (t0_2 : (den tWorld)) (t2_2 : Bool) (t4_2 : Int) (t5_2 : Int) (t8_2 : Int) (o0_2 : (den tWorld)) (o1_2 : (den tDesc)) : innkeepref06_Right.l2 n (m0 + 1) t0_2 t2_2 t4_2 t5_2 t8_2 o0_2 o1_2 =
  bif (decide (t8_2 < ((List.length (o0_2.2.2.2.1 : (List (den tPlace)))) : Int))) then
    if (0 : Int) ≤ t8_2 ∧ t8_2 < (((List.length (o0_2.2.2.2.1 : (List (den tPlace)))) : Nat) : Int) then
    Option.bind (innkeepref06_Depth n o0_2 (List.getD (o0_2.2.2.2.1 : (List (den tPlace))) (Int.toNat t8_2) (dft tPlace) : (den tPlace))) fun r11 =>
    bif (decide (4 < (r11.1.1 : Int))) then
      some ((false, ()), [])
    else
      if (0 : Int) ≤ t8_2 ∧ t8_2 < (((List.length (o0_2.2.2.2.1 : (List (den tPlace)))) : Nat) : Int) then
      Option.bind (innkeepref06_Many n o0_2 (List.getD (o0_2.2.2.2.1 : (List (den tPlace))) (Int.toNat t8_2) (dft tPlace) : (den tPlace))) fun r12 =>
      if (0 : Int) ≤ t8_2 ∧ t8_2 < (((List.length (o0_2.2.2.2.1 : (List (den tPlace)))) : Nat) : Int) then
      Option.bind (innkeepref06_Cap n o0_2 (List.getD (o0_2.2.2.2.1 : (List (den tPlace))) (Int.toNat t8_2) (dft tPlace) : (den tPlace))) fun r13 =>
      bif (decide ((r13.1.1 : Int) < (r12.1.1 : Int))) then
        some ((false, ()), [])
      else
        innkeepref06_Right.l2 n m0 t0_2 t2_2 t4_2 t5_2 (IntKind.wrap .i64 (t8_2 + 1)) o0_2 o1_2
      else none
      else none
    else none
  else
    some ((true, ()), []) := by kernel_rfl
theorem innkeepref06_Right.eq (n : Nat) (a0 : (den tWorld)) : innkeepref06_Right (n + 1) a0 =
  Option.bind (innkeepref06_May n a0.1) fun r1 =>
  bif (!(r1.1.1 : Bool)) then
    some ((false, ()), [])
  else
    bif (!(decide (((List.length (a0.2.1 : (List Int))) : Int) = ((List.length (a0.1.2.1 : (List Int))) : Int)))) then
      some ((false, ()), [])
    else
      bif (!(decide (((List.length (a0.2.2.1 : (List Int))) : Int) = ((List.length (a0.1.2.1 : (List Int))) : Int)))) then
        some ((false, ()), [])
      else
        bif (!(decide (((List.length (a0.2.2.2.1 : (List (den tPlace)))) : Int) = ((List.length (a0.1.2.2.2.1 : (List Int))) : Int)))) then
          some ((false, ()), [])
        else
          innkeepref06_Right.l0 n n a0 false 0 a0 a0.1 := by kernel_rfl
def innkeeplaw11_fits.res : List Sh := [.d .bool]
@[reducible] def innkeeplaw11_fits.R : Type := dShL [.d .bool] × Fresh
def innkeeplaw11_fits (n : Nat) (a0 : (den tWorld)) : Option innkeeplaw11_fits.R := gc n 8 [.dat tWorld a0 []] [.d .bool]
theorem innkeeplaw11_fits.eq (n : Nat) (a0 : (den tWorld)) : innkeeplaw11_fits (n + 1) a0 =
  Option.bind (innkeepref06_Few n a0) fun r1 =>
  bif (r1.1.1 : Bool) then
    Option.bind (innkeepref06_Right n a0) fun r2 =>
    some (((r2.1.1 : Bool), ()), [])
  else
    some ((false, ()), []) := by kernel_rfl
def innkeepref03_Few.res : List Sh := [.d .bool]
@[reducible] def innkeepref03_Few.R : Type := dShL [.d .bool] × Fresh
def innkeepref03_Few (n : Nat) (a0 : (den tCmd)) : Option innkeepref03_Few.R := gc n 9 [.dat tCmd a0 []] [.d .bool]
theorem innkeepref03_Few.eq (n : Nat) (a0 : (den tCmd)) : innkeepref03_Few (n + 1) a0 =
  bif (decide (((List.length (a0.2.2.2.2.2.1 : (List Int))) : Int) ≤ 40)) then
    some (((decide (((List.length (a0.2.2.2.2.2.2.2.1 : (List Int))) : Int) ≤ 40)), ()), [])
  else
    some ((false, ()), []) := by kernel_rfl
def innkeepref03_fit.res : List Sh := [.d .bool]
@[reducible] def innkeepref03_fit.R : Type := dShL [.d .bool] × Fresh
def innkeepref03_fit (n : Nat) (a0 : Int) (a1 : Bool) : Option innkeepref03_fit.R := gc n 24 [.dat (.int .i64) a0 [], .dat .bool a1 []] [.d .bool]
theorem innkeepref03_fit.eq (n : Nat) (a0 : Int) (a1 : Bool) : innkeepref03_fit (n + 1) a0 a1 =
  bif (!a1) then
    some (((decide (a0 = 0)), ()), [])
  else
    bif (decide (0 ≤ a0)) then
      some (((decide (a0 ≤ 1073741824)), ()), [])
    else
      some ((false, ()), []) := by kernel_rfl
def innkeepref03_row.res : List Sh := [.d .bool]
@[reducible] def innkeepref03_row.R : Type := dShL [.d .bool] × Fresh
def innkeepref03_row (n : Nat) (a0 : (List Int)) (a1 : Bool) : Option innkeepref03_row.R := gc n 25 [.dat (.sl (.int .i64)) a0 [], .dat .bool a1 []] [.d .bool]
def innkeepref03_row.l0 (n m0 : Nat) (t0 : (List Int)) (t1 : Bool) (t4 : Bool) (t5 : Int) : Option innkeepref03_row.R :=
  loopN (fun Kn K s h => run (gc n) n innkeepref03_row.c10 Kn K s h) m0 (kBlk 0 (kSeq (run (gc n) n) innkeepref03_row.c8 (retK innkeepref03_row.fn innkeepref03_row.res) (retK innkeepref03_row.fn innkeepref03_row.res)) (retK innkeepref03_row.fn innkeepref03_row.res))
    [(0, .dat (.sl (.int .i64)) t0 []), (1, .dat .bool t1 []), (4, .dat .bool t4 []), (5, .dat (.int .i64) t5 [])]
    []
theorem innkeepref03_row.l0_eq (n m0 : Nat) (t0 : (List Int)) (t1 : Bool) (t4 : Bool) (t5 : Int) : innkeepref03_row.l0 n (m0 + 1) t0 t1 t4 t5 =
  bif (decide (t5 < ((List.length t0) : Int))) then
    if (0 : Int) ≤ t5 ∧ t5 < (((List.length t0) : Nat) : Int) then
    Option.bind (innkeepref03_fit n (List.getD t0 (Int.toNat t5) (0 : Int) : Int) true) fun r1 =>
    bif (!(r1.1.1 : Bool)) then
      some ((false, ()), [])
    else
      innkeepref03_row.l0 n m0 t0 t1 t4 (IntKind.wrap .i64 (t5 + 1))
    else none
  else
    some (((decide (((List.length t0) : Int) ≤ 16)), ()), []) := by kernel_rfl
theorem innkeepref03_row.eq (n : Nat) (a0 : (List Int)) (a1 : Bool) : innkeepref03_row (n + 1) a0 a1 =
  bif (!a1) then
    some (((decide (((List.length a0) : Int) = 0)), ()), [])
  else
    innkeepref03_row.l0 n n a0 a1 false 0 := by kernel_rfl
def innkeepref03_May.res : List Sh := [.d .bool]
@[reducible] def innkeepref03_May.R : Type := dShL [.d .bool] × Fresh
def innkeepref03_May (n : Nat) (a0 : (den tCmd)) : Option innkeepref03_May.R := gc n 10 [.dat tCmd a0 []] [.d .bool]
theorem innkeepref03_May.eq (n : Nat) (a0 : (den tCmd)) : innkeepref03_May (n + 1) a0 =
  bif (decide ((a0.1 : Int) < 1)) then
    some ((false, ()), [])
  else
    bif (decide (10 < (a0.1 : Int))) then
      some ((false, ()), [])
    else
      bif (decide ((a0.2.1 : Int) < 0)) then
        some ((false, ()), [])
      else
        bif (decide (3 < (a0.2.1 : Int))) then
          some ((false, ()), [])
        else
          bif (!(decide ((a0.2.1 : Int) = 0))) then
            bif (decide (2 < (a0.1 : Int))) then
              some ((false, ()), [])
            else
              bif (decide (3 ≤ (a0.1 : Int))) then
                Option.bind (innkeepref03_fit n (a0.2.2.1 : Int) (decide ((a0.1 : Int) ≤ 7))) fun r1 =>
                bif (r1.1.1 : Bool) then
                  bif (decide ((a0.1 : Int) = 5)) then
                    Option.bind (innkeepref03_fit n (a0.2.2.2.1 : Int) true) fun r2 =>
                    bif (r2.1.1 : Bool) then
                      bif (decide ((a0.1 : Int) = 2)) then
                        Option.bind (innkeepref03_fit n (a0.2.2.2.2.1 : Int) true) fun r3 =>
                        bif (r3.1.1 : Bool) then
                          Option.bind (innkeepref03_fit n (a0.2.2.2.2.2.2.1 : Int) (decide ((a0.1 : Int) = 8))) fun r4 =>
                          bif (r4.1.1 : Bool) then
                            Option.bind (innkeepref03_fit n (a0.2.2.2.2.2.2.2.2.1 : Int) (decide ((a0.1 : Int) = 8))) fun r5 =>
                            bif (r5.1.1 : Bool) then
                              Option.bind (innkeepref03_row n (a0.2.2.2.2.2.1 : (List Int)) (decide ((a0.1 : Int) = 8))) fun r6 =>
                              bif (r6.1.1 : Bool) then
                                Option.bind (innkeepref03_row n (a0.2.2.2.2.2.2.2.1 : (List Int)) (decide ((a0.1 : Int) = 8))) fun r7 =>
                                some (((r7.1.1 : Bool), ()), [])
                              else
                                some ((false, ()), [])
                            else
                              some ((false, ()), [])
                          else
                            some ((false, ()), [])
                        else
                          some ((false, ()), [])
                      else
                        bif (decide ((a0.1 : Int) = 7)) then
                          Option.bind (innkeepref03_fit n (a0.2.2.2.2.1 : Int) true) fun r8 =>
                          bif (r8.1.1 : Bool) then
                            Option.bind (innkeepref03_fit n (a0.2.2.2.2.2.2.1 : Int) (decide ((a0.1 : Int) = 8))) fun r9 =>
                            bif (r9.1.1 : Bool) then
                              Option.bind (innkeepref03_fit n (a0.2.2.2.2.2.2.2.2.1 : Int) (decide ((a0.1 : Int) = 8))) fun r10 =>
                              bif (r10.1.1 : Bool) then
                                Option.bind (innkeepref03_row n (a0.2.2.2.2.2.1 : (List Int)) (decide ((a0.1 : Int) = 8))) fun r11 =>
                                bif (r11.1.1 : Bool) then
                                  Option.bind (innkeepref03_row n (a0.2.2.2.2.2.2.2.1 : (List Int)) (decide ((a0.1 : Int) = 8))) fun r12 =>
                                  some (((r12.1.1 : Bool), ()), [])
                                else
                                  some ((false, ()), [])
                              else
                                some ((false, ()), [])
                            else
                              some ((false, ()), [])
                          else
                            some ((false, ()), [])
                        else
                          Option.bind (innkeepref03_fit n (a0.2.2.2.2.1 : Int) (decide ((a0.1 : Int) = 8))) fun r13 =>
                          bif (r13.1.1 : Bool) then
                            Option.bind (innkeepref03_fit n (a0.2.2.2.2.2.2.1 : Int) (decide ((a0.1 : Int) = 8))) fun r14 =>
                            bif (r14.1.1 : Bool) then
                              Option.bind (innkeepref03_fit n (a0.2.2.2.2.2.2.2.2.1 : Int) (decide ((a0.1 : Int) = 8))) fun r15 =>
                              bif (r15.1.1 : Bool) then
                                Option.bind (innkeepref03_row n (a0.2.2.2.2.2.1 : (List Int)) (decide ((a0.1 : Int) = 8))) fun r16 =>
                                bif (r16.1.1 : Bool) then
                                  Option.bind (innkeepref03_row n (a0.2.2.2.2.2.2.2.1 : (List Int)) (decide ((a0.1 : Int) = 8))) fun r17 =>
                                  some (((r17.1.1 : Bool), ()), [])
                                else
                                  some ((false, ()), [])
                              else
                                some ((false, ()), [])
                            else
                              some ((false, ()), [])
                          else
                            some ((false, ()), [])
                    else
                      some ((false, ()), [])
                  else
                    Option.bind (innkeepref03_fit n (a0.2.2.2.1 : Int) (decide ((a0.1 : Int) = 6))) fun r18 =>
                    bif (r18.1.1 : Bool) then
                      bif (decide ((a0.1 : Int) = 2)) then
                        Option.bind (innkeepref03_fit n (a0.2.2.2.2.1 : Int) true) fun r19 =>
                        bif (r19.1.1 : Bool) then
                          Option.bind (innkeepref03_fit n (a0.2.2.2.2.2.2.1 : Int) (decide ((a0.1 : Int) = 8))) fun r20 =>
                          bif (r20.1.1 : Bool) then
                            Option.bind (innkeepref03_fit n (a0.2.2.2.2.2.2.2.2.1 : Int) (decide ((a0.1 : Int) = 8))) fun r21 =>
                            bif (r21.1.1 : Bool) then
                              Option.bind (innkeepref03_row n (a0.2.2.2.2.2.1 : (List Int)) (decide ((a0.1 : Int) = 8))) fun r22 =>
                              bif (r22.1.1 : Bool) then
                                Option.bind (innkeepref03_row n (a0.2.2.2.2.2.2.2.1 : (List Int)) (decide ((a0.1 : Int) = 8))) fun r23 =>
                                some (((r23.1.1 : Bool), ()), [])
                              else
                                some ((false, ()), [])
                            else
                              some ((false, ()), [])
                          else
                            some ((false, ()), [])
                        else
                          some ((false, ()), [])
                      else
                        bif (decide ((a0.1 : Int) = 7)) then
                          Option.bind (innkeepref03_fit n (a0.2.2.2.2.1 : Int) true) fun r24 =>
                          bif (r24.1.1 : Bool) then
                            Option.bind (innkeepref03_fit n (a0.2.2.2.2.2.2.1 : Int) (decide ((a0.1 : Int) = 8))) fun r25 =>
                            bif (r25.1.1 : Bool) then
                              Option.bind (innkeepref03_fit n (a0.2.2.2.2.2.2.2.2.1 : Int) (decide ((a0.1 : Int) = 8))) fun r26 =>
                              bif (r26.1.1 : Bool) then
                                Option.bind (innkeepref03_row n (a0.2.2.2.2.2.1 : (List Int)) (decide ((a0.1 : Int) = 8))) fun r27 =>
                                bif (r27.1.1 : Bool) then
                                  Option.bind (innkeepref03_row n (a0.2.2.2.2.2.2.2.1 : (List Int)) (decide ((a0.1 : Int) = 8))) fun r28 =>
                                  some (((r28.1.1 : Bool), ()), [])
                                else
                                  some ((false, ()), [])
                              else
                                some ((false, ()), [])
                            else
                              some ((false, ()), [])
                          else
                            some ((false, ()), [])
                        else
                          Option.bind (innkeepref03_fit n (a0.2.2.2.2.1 : Int) (decide ((a0.1 : Int) = 8))) fun r29 =>
                          bif (r29.1.1 : Bool) then
                            Option.bind (innkeepref03_fit n (a0.2.2.2.2.2.2.1 : Int) (decide ((a0.1 : Int) = 8))) fun r30 =>
                            bif (r30.1.1 : Bool) then
                              Option.bind (innkeepref03_fit n (a0.2.2.2.2.2.2.2.2.1 : Int) (decide ((a0.1 : Int) = 8))) fun r31 =>
                              bif (r31.1.1 : Bool) then
                                Option.bind (innkeepref03_row n (a0.2.2.2.2.2.1 : (List Int)) (decide ((a0.1 : Int) = 8))) fun r32 =>
                                bif (r32.1.1 : Bool) then
                                  Option.bind (innkeepref03_row n (a0.2.2.2.2.2.2.2.1 : (List Int)) (decide ((a0.1 : Int) = 8))) fun r33 =>
                                  some (((r33.1.1 : Bool), ()), [])
                                else
                                  some ((false, ()), [])
                              else
                                some ((false, ()), [])
                            else
                              some ((false, ()), [])
                          else
                            some ((false, ()), [])
                    else
                      some ((false, ()), [])
                else
                  some ((false, ()), [])
              else
                Option.bind (innkeepref03_fit n (a0.2.2.1 : Int) false) fun r34 =>
                bif (r34.1.1 : Bool) then
                  bif (decide ((a0.1 : Int) = 5)) then
                    Option.bind (innkeepref03_fit n (a0.2.2.2.1 : Int) true) fun r35 =>
                    bif (r35.1.1 : Bool) then
                      bif (decide ((a0.1 : Int) = 2)) then
                        Option.bind (innkeepref03_fit n (a0.2.2.2.2.1 : Int) true) fun r36 =>
                        bif (r36.1.1 : Bool) then
                          Option.bind (innkeepref03_fit n (a0.2.2.2.2.2.2.1 : Int) (decide ((a0.1 : Int) = 8))) fun r37 =>
                          bif (r37.1.1 : Bool) then
                            Option.bind (innkeepref03_fit n (a0.2.2.2.2.2.2.2.2.1 : Int) (decide ((a0.1 : Int) = 8))) fun r38 =>
                            bif (r38.1.1 : Bool) then
                              Option.bind (innkeepref03_row n (a0.2.2.2.2.2.1 : (List Int)) (decide ((a0.1 : Int) = 8))) fun r39 =>
                              bif (r39.1.1 : Bool) then
                                Option.bind (innkeepref03_row n (a0.2.2.2.2.2.2.2.1 : (List Int)) (decide ((a0.1 : Int) = 8))) fun r40 =>
                                some (((r40.1.1 : Bool), ()), [])
                              else
                                some ((false, ()), [])
                            else
                              some ((false, ()), [])
                          else
                            some ((false, ()), [])
                        else
                          some ((false, ()), [])
                      else
                        bif (decide ((a0.1 : Int) = 7)) then
                          Option.bind (innkeepref03_fit n (a0.2.2.2.2.1 : Int) true) fun r41 =>
                          bif (r41.1.1 : Bool) then
                            Option.bind (innkeepref03_fit n (a0.2.2.2.2.2.2.1 : Int) (decide ((a0.1 : Int) = 8))) fun r42 =>
                            bif (r42.1.1 : Bool) then
                              Option.bind (innkeepref03_fit n (a0.2.2.2.2.2.2.2.2.1 : Int) (decide ((a0.1 : Int) = 8))) fun r43 =>
                              bif (r43.1.1 : Bool) then
                                Option.bind (innkeepref03_row n (a0.2.2.2.2.2.1 : (List Int)) (decide ((a0.1 : Int) = 8))) fun r44 =>
                                bif (r44.1.1 : Bool) then
                                  Option.bind (innkeepref03_row n (a0.2.2.2.2.2.2.2.1 : (List Int)) (decide ((a0.1 : Int) = 8))) fun r45 =>
                                  some (((r45.1.1 : Bool), ()), [])
                                else
                                  some ((false, ()), [])
                              else
                                some ((false, ()), [])
                            else
                              some ((false, ()), [])
                          else
                            some ((false, ()), [])
                        else
                          Option.bind (innkeepref03_fit n (a0.2.2.2.2.1 : Int) (decide ((a0.1 : Int) = 8))) fun r46 =>
                          bif (r46.1.1 : Bool) then
                            Option.bind (innkeepref03_fit n (a0.2.2.2.2.2.2.1 : Int) (decide ((a0.1 : Int) = 8))) fun r47 =>
                            bif (r47.1.1 : Bool) then
                              Option.bind (innkeepref03_fit n (a0.2.2.2.2.2.2.2.2.1 : Int) (decide ((a0.1 : Int) = 8))) fun r48 =>
                              bif (r48.1.1 : Bool) then
                                Option.bind (innkeepref03_row n (a0.2.2.2.2.2.1 : (List Int)) (decide ((a0.1 : Int) = 8))) fun r49 =>
                                bif (r49.1.1 : Bool) then
                                  Option.bind (innkeepref03_row n (a0.2.2.2.2.2.2.2.1 : (List Int)) (decide ((a0.1 : Int) = 8))) fun r50 =>
                                  some (((r50.1.1 : Bool), ()), [])
                                else
                                  some ((false, ()), [])
                              else
                                some ((false, ()), [])
                            else
                              some ((false, ()), [])
                          else
                            some ((false, ()), [])
                    else
                      some ((false, ()), [])
                  else
                    Option.bind (innkeepref03_fit n (a0.2.2.2.1 : Int) (decide ((a0.1 : Int) = 6))) fun r51 =>
                    bif (r51.1.1 : Bool) then
                      bif (decide ((a0.1 : Int) = 2)) then
                        Option.bind (innkeepref03_fit n (a0.2.2.2.2.1 : Int) true) fun r52 =>
                        bif (r52.1.1 : Bool) then
                          Option.bind (innkeepref03_fit n (a0.2.2.2.2.2.2.1 : Int) (decide ((a0.1 : Int) = 8))) fun r53 =>
                          bif (r53.1.1 : Bool) then
                            Option.bind (innkeepref03_fit n (a0.2.2.2.2.2.2.2.2.1 : Int) (decide ((a0.1 : Int) = 8))) fun r54 =>
                            bif (r54.1.1 : Bool) then
                              Option.bind (innkeepref03_row n (a0.2.2.2.2.2.1 : (List Int)) (decide ((a0.1 : Int) = 8))) fun r55 =>
                              bif (r55.1.1 : Bool) then
                                Option.bind (innkeepref03_row n (a0.2.2.2.2.2.2.2.1 : (List Int)) (decide ((a0.1 : Int) = 8))) fun r56 =>
                                some (((r56.1.1 : Bool), ()), [])
                              else
                                some ((false, ()), [])
                            else
                              some ((false, ()), [])
                          else
                            some ((false, ()), [])
                        else
                          some ((false, ()), [])
                      else
                        bif (decide ((a0.1 : Int) = 7)) then
                          Option.bind (innkeepref03_fit n (a0.2.2.2.2.1 : Int) true) fun r57 =>
                          bif (r57.1.1 : Bool) then
                            Option.bind (innkeepref03_fit n (a0.2.2.2.2.2.2.1 : Int) (decide ((a0.1 : Int) = 8))) fun r58 =>
                            bif (r58.1.1 : Bool) then
                              Option.bind (innkeepref03_fit n (a0.2.2.2.2.2.2.2.2.1 : Int) (decide ((a0.1 : Int) = 8))) fun r59 =>
                              bif (r59.1.1 : Bool) then
                                Option.bind (innkeepref03_row n (a0.2.2.2.2.2.1 : (List Int)) (decide ((a0.1 : Int) = 8))) fun r60 =>
                                bif (r60.1.1 : Bool) then
                                  Option.bind (innkeepref03_row n (a0.2.2.2.2.2.2.2.1 : (List Int)) (decide ((a0.1 : Int) = 8))) fun r61 =>
                                  some (((r61.1.1 : Bool), ()), [])
                                else
                                  some ((false, ()), [])
                              else
                                some ((false, ()), [])
                            else
                              some ((false, ()), [])
                          else
                            some ((false, ()), [])
                        else
                          Option.bind (innkeepref03_fit n (a0.2.2.2.2.1 : Int) (decide ((a0.1 : Int) = 8))) fun r62 =>
                          bif (r62.1.1 : Bool) then
                            Option.bind (innkeepref03_fit n (a0.2.2.2.2.2.2.1 : Int) (decide ((a0.1 : Int) = 8))) fun r63 =>
                            bif (r63.1.1 : Bool) then
                              Option.bind (innkeepref03_fit n (a0.2.2.2.2.2.2.2.2.1 : Int) (decide ((a0.1 : Int) = 8))) fun r64 =>
                              bif (r64.1.1 : Bool) then
                                Option.bind (innkeepref03_row n (a0.2.2.2.2.2.1 : (List Int)) (decide ((a0.1 : Int) = 8))) fun r65 =>
                                bif (r65.1.1 : Bool) then
                                  Option.bind (innkeepref03_row n (a0.2.2.2.2.2.2.2.1 : (List Int)) (decide ((a0.1 : Int) = 8))) fun r66 =>
                                  some (((r66.1.1 : Bool), ()), [])
                                else
                                  some ((false, ()), [])
                              else
                                some ((false, ()), [])
                            else
                              some ((false, ()), [])
                          else
                            some ((false, ()), [])
                    else
                      some ((false, ()), [])
                else
                  some ((false, ()), [])
          else
            bif (decide (3 ≤ (a0.1 : Int))) then
              Option.bind (innkeepref03_fit n (a0.2.2.1 : Int) (decide ((a0.1 : Int) ≤ 7))) fun r67 =>
              bif (r67.1.1 : Bool) then
                bif (decide ((a0.1 : Int) = 5)) then
                  Option.bind (innkeepref03_fit n (a0.2.2.2.1 : Int) true) fun r68 =>
                  bif (r68.1.1 : Bool) then
                    bif (decide ((a0.1 : Int) = 2)) then
                      Option.bind (innkeepref03_fit n (a0.2.2.2.2.1 : Int) true) fun r69 =>
                      bif (r69.1.1 : Bool) then
                        Option.bind (innkeepref03_fit n (a0.2.2.2.2.2.2.1 : Int) (decide ((a0.1 : Int) = 8))) fun r70 =>
                        bif (r70.1.1 : Bool) then
                          Option.bind (innkeepref03_fit n (a0.2.2.2.2.2.2.2.2.1 : Int) (decide ((a0.1 : Int) = 8))) fun r71 =>
                          bif (r71.1.1 : Bool) then
                            Option.bind (innkeepref03_row n (a0.2.2.2.2.2.1 : (List Int)) (decide ((a0.1 : Int) = 8))) fun r72 =>
                            bif (r72.1.1 : Bool) then
                              Option.bind (innkeepref03_row n (a0.2.2.2.2.2.2.2.1 : (List Int)) (decide ((a0.1 : Int) = 8))) fun r73 =>
                              some (((r73.1.1 : Bool), ()), [])
                            else
                              some ((false, ()), [])
                          else
                            some ((false, ()), [])
                        else
                          some ((false, ()), [])
                      else
                        some ((false, ()), [])
                    else
                      bif (decide ((a0.1 : Int) = 7)) then
                        Option.bind (innkeepref03_fit n (a0.2.2.2.2.1 : Int) true) fun r74 =>
                        bif (r74.1.1 : Bool) then
                          Option.bind (innkeepref03_fit n (a0.2.2.2.2.2.2.1 : Int) (decide ((a0.1 : Int) = 8))) fun r75 =>
                          bif (r75.1.1 : Bool) then
                            Option.bind (innkeepref03_fit n (a0.2.2.2.2.2.2.2.2.1 : Int) (decide ((a0.1 : Int) = 8))) fun r76 =>
                            bif (r76.1.1 : Bool) then
                              Option.bind (innkeepref03_row n (a0.2.2.2.2.2.1 : (List Int)) (decide ((a0.1 : Int) = 8))) fun r77 =>
                              bif (r77.1.1 : Bool) then
                                Option.bind (innkeepref03_row n (a0.2.2.2.2.2.2.2.1 : (List Int)) (decide ((a0.1 : Int) = 8))) fun r78 =>
                                some (((r78.1.1 : Bool), ()), [])
                              else
                                some ((false, ()), [])
                            else
                              some ((false, ()), [])
                          else
                            some ((false, ()), [])
                        else
                          some ((false, ()), [])
                      else
                        Option.bind (innkeepref03_fit n (a0.2.2.2.2.1 : Int) (decide ((a0.1 : Int) = 8))) fun r79 =>
                        bif (r79.1.1 : Bool) then
                          Option.bind (innkeepref03_fit n (a0.2.2.2.2.2.2.1 : Int) (decide ((a0.1 : Int) = 8))) fun r80 =>
                          bif (r80.1.1 : Bool) then
                            Option.bind (innkeepref03_fit n (a0.2.2.2.2.2.2.2.2.1 : Int) (decide ((a0.1 : Int) = 8))) fun r81 =>
                            bif (r81.1.1 : Bool) then
                              Option.bind (innkeepref03_row n (a0.2.2.2.2.2.1 : (List Int)) (decide ((a0.1 : Int) = 8))) fun r82 =>
                              bif (r82.1.1 : Bool) then
                                Option.bind (innkeepref03_row n (a0.2.2.2.2.2.2.2.1 : (List Int)) (decide ((a0.1 : Int) = 8))) fun r83 =>
                                some (((r83.1.1 : Bool), ()), [])
                              else
                                some ((false, ()), [])
                            else
                              some ((false, ()), [])
                          else
                            some ((false, ()), [])
                        else
                          some ((false, ()), [])
                  else
                    some ((false, ()), [])
                else
                  Option.bind (innkeepref03_fit n (a0.2.2.2.1 : Int) (decide ((a0.1 : Int) = 6))) fun r84 =>
                  bif (r84.1.1 : Bool) then
                    bif (decide ((a0.1 : Int) = 2)) then
                      Option.bind (innkeepref03_fit n (a0.2.2.2.2.1 : Int) true) fun r85 =>
                      bif (r85.1.1 : Bool) then
                        Option.bind (innkeepref03_fit n (a0.2.2.2.2.2.2.1 : Int) (decide ((a0.1 : Int) = 8))) fun r86 =>
                        bif (r86.1.1 : Bool) then
                          Option.bind (innkeepref03_fit n (a0.2.2.2.2.2.2.2.2.1 : Int) (decide ((a0.1 : Int) = 8))) fun r87 =>
                          bif (r87.1.1 : Bool) then
                            Option.bind (innkeepref03_row n (a0.2.2.2.2.2.1 : (List Int)) (decide ((a0.1 : Int) = 8))) fun r88 =>
                            bif (r88.1.1 : Bool) then
                              Option.bind (innkeepref03_row n (a0.2.2.2.2.2.2.2.1 : (List Int)) (decide ((a0.1 : Int) = 8))) fun r89 =>
                              some (((r89.1.1 : Bool), ()), [])
                            else
                              some ((false, ()), [])
                          else
                            some ((false, ()), [])
                        else
                          some ((false, ()), [])
                      else
                        some ((false, ()), [])
                    else
                      bif (decide ((a0.1 : Int) = 7)) then
                        Option.bind (innkeepref03_fit n (a0.2.2.2.2.1 : Int) true) fun r90 =>
                        bif (r90.1.1 : Bool) then
                          Option.bind (innkeepref03_fit n (a0.2.2.2.2.2.2.1 : Int) (decide ((a0.1 : Int) = 8))) fun r91 =>
                          bif (r91.1.1 : Bool) then
                            Option.bind (innkeepref03_fit n (a0.2.2.2.2.2.2.2.2.1 : Int) (decide ((a0.1 : Int) = 8))) fun r92 =>
                            bif (r92.1.1 : Bool) then
                              Option.bind (innkeepref03_row n (a0.2.2.2.2.2.1 : (List Int)) (decide ((a0.1 : Int) = 8))) fun r93 =>
                              bif (r93.1.1 : Bool) then
                                Option.bind (innkeepref03_row n (a0.2.2.2.2.2.2.2.1 : (List Int)) (decide ((a0.1 : Int) = 8))) fun r94 =>
                                some (((r94.1.1 : Bool), ()), [])
                              else
                                some ((false, ()), [])
                            else
                              some ((false, ()), [])
                          else
                            some ((false, ()), [])
                        else
                          some ((false, ()), [])
                      else
                        Option.bind (innkeepref03_fit n (a0.2.2.2.2.1 : Int) (decide ((a0.1 : Int) = 8))) fun r95 =>
                        bif (r95.1.1 : Bool) then
                          Option.bind (innkeepref03_fit n (a0.2.2.2.2.2.2.1 : Int) (decide ((a0.1 : Int) = 8))) fun r96 =>
                          bif (r96.1.1 : Bool) then
                            Option.bind (innkeepref03_fit n (a0.2.2.2.2.2.2.2.2.1 : Int) (decide ((a0.1 : Int) = 8))) fun r97 =>
                            bif (r97.1.1 : Bool) then
                              Option.bind (innkeepref03_row n (a0.2.2.2.2.2.1 : (List Int)) (decide ((a0.1 : Int) = 8))) fun r98 =>
                              bif (r98.1.1 : Bool) then
                                Option.bind (innkeepref03_row n (a0.2.2.2.2.2.2.2.1 : (List Int)) (decide ((a0.1 : Int) = 8))) fun r99 =>
                                some (((r99.1.1 : Bool), ()), [])
                              else
                                some ((false, ()), [])
                            else
                              some ((false, ()), [])
                          else
                            some ((false, ()), [])
                        else
                          some ((false, ()), [])
                  else
                    some ((false, ()), [])
              else
                some ((false, ()), [])
            else
              Option.bind (innkeepref03_fit n (a0.2.2.1 : Int) false) fun r100 =>
              bif (r100.1.1 : Bool) then
                bif (decide ((a0.1 : Int) = 5)) then
                  Option.bind (innkeepref03_fit n (a0.2.2.2.1 : Int) true) fun r101 =>
                  bif (r101.1.1 : Bool) then
                    bif (decide ((a0.1 : Int) = 2)) then
                      Option.bind (innkeepref03_fit n (a0.2.2.2.2.1 : Int) true) fun r102 =>
                      bif (r102.1.1 : Bool) then
                        Option.bind (innkeepref03_fit n (a0.2.2.2.2.2.2.1 : Int) (decide ((a0.1 : Int) = 8))) fun r103 =>
                        bif (r103.1.1 : Bool) then
                          Option.bind (innkeepref03_fit n (a0.2.2.2.2.2.2.2.2.1 : Int) (decide ((a0.1 : Int) = 8))) fun r104 =>
                          bif (r104.1.1 : Bool) then
                            Option.bind (innkeepref03_row n (a0.2.2.2.2.2.1 : (List Int)) (decide ((a0.1 : Int) = 8))) fun r105 =>
                            bif (r105.1.1 : Bool) then
                              Option.bind (innkeepref03_row n (a0.2.2.2.2.2.2.2.1 : (List Int)) (decide ((a0.1 : Int) = 8))) fun r106 =>
                              some (((r106.1.1 : Bool), ()), [])
                            else
                              some ((false, ()), [])
                          else
                            some ((false, ()), [])
                        else
                          some ((false, ()), [])
                      else
                        some ((false, ()), [])
                    else
                      bif (decide ((a0.1 : Int) = 7)) then
                        Option.bind (innkeepref03_fit n (a0.2.2.2.2.1 : Int) true) fun r107 =>
                        bif (r107.1.1 : Bool) then
                          Option.bind (innkeepref03_fit n (a0.2.2.2.2.2.2.1 : Int) (decide ((a0.1 : Int) = 8))) fun r108 =>
                          bif (r108.1.1 : Bool) then
                            Option.bind (innkeepref03_fit n (a0.2.2.2.2.2.2.2.2.1 : Int) (decide ((a0.1 : Int) = 8))) fun r109 =>
                            bif (r109.1.1 : Bool) then
                              Option.bind (innkeepref03_row n (a0.2.2.2.2.2.1 : (List Int)) (decide ((a0.1 : Int) = 8))) fun r110 =>
                              bif (r110.1.1 : Bool) then
                                Option.bind (innkeepref03_row n (a0.2.2.2.2.2.2.2.1 : (List Int)) (decide ((a0.1 : Int) = 8))) fun r111 =>
                                some (((r111.1.1 : Bool), ()), [])
                              else
                                some ((false, ()), [])
                            else
                              some ((false, ()), [])
                          else
                            some ((false, ()), [])
                        else
                          some ((false, ()), [])
                      else
                        Option.bind (innkeepref03_fit n (a0.2.2.2.2.1 : Int) (decide ((a0.1 : Int) = 8))) fun r112 =>
                        bif (r112.1.1 : Bool) then
                          Option.bind (innkeepref03_fit n (a0.2.2.2.2.2.2.1 : Int) (decide ((a0.1 : Int) = 8))) fun r113 =>
                          bif (r113.1.1 : Bool) then
                            Option.bind (innkeepref03_fit n (a0.2.2.2.2.2.2.2.2.1 : Int) (decide ((a0.1 : Int) = 8))) fun r114 =>
                            bif (r114.1.1 : Bool) then
                              Option.bind (innkeepref03_row n (a0.2.2.2.2.2.1 : (List Int)) (decide ((a0.1 : Int) = 8))) fun r115 =>
                              bif (r115.1.1 : Bool) then
                                Option.bind (innkeepref03_row n (a0.2.2.2.2.2.2.2.1 : (List Int)) (decide ((a0.1 : Int) = 8))) fun r116 =>
                                some (((r116.1.1 : Bool), ()), [])
                              else
                                some ((false, ()), [])
                            else
                              some ((false, ()), [])
                          else
                            some ((false, ()), [])
                        else
                          some ((false, ()), [])
                  else
                    some ((false, ()), [])
                else
                  Option.bind (innkeepref03_fit n (a0.2.2.2.1 : Int) (decide ((a0.1 : Int) = 6))) fun r117 =>
                  bif (r117.1.1 : Bool) then
                    bif (decide ((a0.1 : Int) = 2)) then
                      Option.bind (innkeepref03_fit n (a0.2.2.2.2.1 : Int) true) fun r118 =>
                      bif (r118.1.1 : Bool) then
                        Option.bind (innkeepref03_fit n (a0.2.2.2.2.2.2.1 : Int) (decide ((a0.1 : Int) = 8))) fun r119 =>
                        bif (r119.1.1 : Bool) then
                          Option.bind (innkeepref03_fit n (a0.2.2.2.2.2.2.2.2.1 : Int) (decide ((a0.1 : Int) = 8))) fun r120 =>
                          bif (r120.1.1 : Bool) then
                            Option.bind (innkeepref03_row n (a0.2.2.2.2.2.1 : (List Int)) (decide ((a0.1 : Int) = 8))) fun r121 =>
                            bif (r121.1.1 : Bool) then
                              Option.bind (innkeepref03_row n (a0.2.2.2.2.2.2.2.1 : (List Int)) (decide ((a0.1 : Int) = 8))) fun r122 =>
                              some (((r122.1.1 : Bool), ()), [])
                            else
                              some ((false, ()), [])
                          else
                            some ((false, ()), [])
                        else
                          some ((false, ()), [])
                      else
                        some ((false, ()), [])
                    else
                      bif (decide ((a0.1 : Int) = 7)) then
                        Option.bind (innkeepref03_fit n (a0.2.2.2.2.1 : Int) true) fun r123 =>
                        bif (r123.1.1 : Bool) then
                          Option.bind (innkeepref03_fit n (a0.2.2.2.2.2.2.1 : Int) (decide ((a0.1 : Int) = 8))) fun r124 =>
                          bif (r124.1.1 : Bool) then
                            Option.bind (innkeepref03_fit n (a0.2.2.2.2.2.2.2.2.1 : Int) (decide ((a0.1 : Int) = 8))) fun r125 =>
                            bif (r125.1.1 : Bool) then
                              Option.bind (innkeepref03_row n (a0.2.2.2.2.2.1 : (List Int)) (decide ((a0.1 : Int) = 8))) fun r126 =>
                              bif (r126.1.1 : Bool) then
                                Option.bind (innkeepref03_row n (a0.2.2.2.2.2.2.2.1 : (List Int)) (decide ((a0.1 : Int) = 8))) fun r127 =>
                                some (((r127.1.1 : Bool), ()), [])
                              else
                                some ((false, ()), [])
                            else
                              some ((false, ()), [])
                          else
                            some ((false, ()), [])
                        else
                          some ((false, ()), [])
                      else
                        Option.bind (innkeepref03_fit n (a0.2.2.2.2.1 : Int) (decide ((a0.1 : Int) = 8))) fun r128 =>
                        bif (r128.1.1 : Bool) then
                          Option.bind (innkeepref03_fit n (a0.2.2.2.2.2.2.1 : Int) (decide ((a0.1 : Int) = 8))) fun r129 =>
                          bif (r129.1.1 : Bool) then
                            Option.bind (innkeepref03_fit n (a0.2.2.2.2.2.2.2.2.1 : Int) (decide ((a0.1 : Int) = 8))) fun r130 =>
                            bif (r130.1.1 : Bool) then
                              Option.bind (innkeepref03_row n (a0.2.2.2.2.2.1 : (List Int)) (decide ((a0.1 : Int) = 8))) fun r131 =>
                              bif (r131.1.1 : Bool) then
                                Option.bind (innkeepref03_row n (a0.2.2.2.2.2.2.2.1 : (List Int)) (decide ((a0.1 : Int) = 8))) fun r132 =>
                                some (((r132.1.1 : Bool), ()), [])
                              else
                                some ((false, ()), [])
                            else
                              some ((false, ()), [])
                          else
                            some ((false, ()), [])
                        else
                          some ((false, ()), [])
                  else
                    some ((false, ()), [])
              else
                some ((false, ()), []) := by kernel_rfl
def innkeepref07_Room.res : List Sh := [.d (.int .i64)]
@[reducible] def innkeepref07_Room.R : Type := dShL [.d (.int .i64)] × Fresh
def innkeepref07_Room (n : Nat) (a0 : (den tWorld)) (a1 : (den tPlace)) : Option innkeepref07_Room.R := gc n 31 [.dat tWorld a0 [], .dat tPlace a1 []] [.d (.int .i64)]
theorem innkeepref07_Room.eq (n : Nat) (a0 : (den tWorld)) (a1 : (den tPlace)) : innkeepref07_Room (n + 1) a0 a1 =
  Option.bind (innkeepref06_Cap n a0 a1) fun r1 =>
  Option.bind (innkeepref06_Many n a0 a1) fun r2 =>
  some (((IntKind.wrap .i64 ((r1.1.1 : Int) - (r2.1.1 : Int))), ()), []) := by kernel_rfl
def innkeepref06_Copied.res : List Sh := [.d tWorld]
@[reducible] def innkeepref06_Copied.R : Type := dShL [.d tWorld] × Fresh
def innkeepref06_Copied (n : Nat) (a0 : (den tWorld)) : Option innkeepref06_Copied.R := gc n 18 [.dat tWorld a0 []] [.d tWorld]
theorem innkeepref06_Copied.eq (n : Nat) (a0 : (den tWorld)) : innkeepref06_Copied (n + 1) a0 =
  if 0 + (List.length (a0.2.1 : (List Int))) ≤ 1048576 then
  if 0 + (List.length (a0.2.2.1 : (List Int))) ≤ 1048576 then
  if 0 + (List.length (a0.2.2.2.1 : (List (den tPlace)))) ≤ 1048576 then
  some (((a0.1, (([] : List Int) ++ (a0.2.1 : (List Int))), (([] : List Int) ++ (a0.2.2.1 : (List Int))), (([] : List (den tPlace)) ++ (a0.2.2.2.1 : (List (den tPlace)))), ()), ()), [(0, [1]), (0, [2]), (0, [3])])
  else none
  else none
  else none := by kernel_rfl
def innkeepref09_To.res : List Sh := [.d tWorld]
@[reducible] def innkeepref09_To.R : Type := dShL [.d tWorld] × Fresh
def innkeepref09_To (n : Nat) (a0 : (den tWorld)) (a1 : Int) (a2 : (den tPlace)) : Option innkeepref09_To.R := gc n 32 [.dat tWorld a0 [], .dat (.int .i64) a1 [], .dat tPlace a2 []] [.d tWorld]
theorem innkeepref09_To.eq (n : Nat) (a0 : (den tWorld)) (a1 : Int) (a2 : (den tPlace)) : innkeepref09_To (n + 1) a0 a1 a2 =
  Option.bind (innkeepref06_Copied n a0) fun r1 =>
  bif (keepAll r1.2 [((0, [3]), 4)]) then
    if (0 : Int) ≤ a1 ∧ a1 < (((List.length (r1.1.1.2.2.2.1 : (List (den tPlace)))) : Nat) : Int) then
    some (((r1.1.1.1, (r1.1.1.2.1 : (List Int)), (r1.1.1.2.2.1 : (List Int)), (List.set (r1.1.1.2.2.2.1 : (List (den tPlace))) (Int.toNat a1) a2 : (List (den tPlace))), ()), ()), [(0, [3])])
    else none
  else
    none := by kernel_rfl
def innkeepref11_Give.res : List Sh := [.d tWorld, .d (.int .i64)]
@[reducible] def innkeepref11_Give.R : Type := dShL [.d tWorld, .d (.int .i64)] × Fresh
def innkeepref11_Give (n : Nat) (a0 : (den tWorld)) (a1 : Int) (a2 : Int) (a3 : Int) : Option innkeepref11_Give.R := gc n 12 [.dat tWorld a0 [], .dat (.int .i64) a1 [], .dat (.int .i64) a2 [], .dat (.int .i64) a3 []] [.d tWorld, .d (.int .i64)]
theorem innkeepref11_Give.eq (n : Nat) (a0 : (den tWorld)) (a1 : Int) (a2 : Int) (a3 : Int) : innkeepref11_Give (n + 1) a0 a1 a2 a3 =
  bif (decide (a2 < 0)) then
    some ((a0, 3, ()), [])
  else
    bif (decide (((List.length (a0.2.2.2.1 : (List (den tPlace)))) : Int) ≤ a2)) then
      some ((a0, 3, ()), [])
    else
      bif (decide (a3 < 0)) then
        some ((a0, 3, ()), [])
      else
        bif (decide (((List.length (a0.2.1 : (List Int))) : Int) ≤ a3)) then
          some ((a0, 3, ()), [])
        else
          bif (decide (a1 = a3)) then
            some ((a0, 12, ()), [])
          else
            if (0 : Int) ≤ a1 ∧ a1 < (((List.length (a0.2.1 : (List Int))) : Nat) : Int) then
            if (0 : Int) ≤ a3 ∧ a3 < (((List.length (a0.2.1 : (List Int))) : Nat) : Int) then
            bif (!(decide ((List.getD (a0.2.1 : (List Int)) (Int.toNat a1) (0 : Int) : Int) = (List.getD (a0.2.1 : (List Int)) (Int.toNat a3) (0 : Int) : Int)))) then
              some ((a0, 5, ()), [])
            else
              if (0 : Int) ≤ a2 ∧ a2 < (((List.length (a0.2.2.2.1 : (List (den tPlace)))) : Nat) : Int) then
              bif (!(eqT tPlace (List.getD (a0.2.2.2.1 : (List (den tPlace))) (Int.toNat a2) (dft tPlace) : (den tPlace)) (1, a1, ()))) then
                some ((a0, 5, ()), [])
              else
                Option.bind (innkeepref07_Room n a0 (1, a3, ())) fun r1 =>
                bif (decide ((r1.1.1 : Int) = 0)) then
                  some ((a0, 9, ()), [])
                else
                  Option.bind (innkeepref09_To n a0 a2 (1, a3, ())) fun r2 =>
                  some ((r2.1.1, 0, ()), [])
              else none
            else none
            else none := by kernel_rfl
def innkeepref01_Swap.res : List Sh := [.d (.int .i64), .d (.int .i64), .d (.int .i64)]
@[reducible] def innkeepref01_Swap.R : Type := dShL [.d (.int .i64), .d (.int .i64), .d (.int .i64)] × Fresh
def innkeepref01_Swap (n : Nat) (a0 : Int) (a1 : Int) (a2 : Int) (a3 : Int) : Option innkeepref01_Swap.R := gc n 41 [.dat (.int .i64) a0 [], .dat (.int .i64) a1 [], .dat (.int .i64) a2 [], .dat (.int .i64) a3 []] [.d (.int .i64), .d (.int .i64), .d (.int .i64)]
theorem innkeepref01_Swap.eq (n : Nat) (a0 : Int) (a1 : Int) (a2 : Int) (a3 : Int) : innkeepref01_Swap (n + 1) a0 a1 a2 a3 =
  bif (decide (a2 < 0)) then
    some ((a0, a1, 1, ()), [])
  else
    bif (decide (a3 < 0)) then
      some ((a0, a1, 1, ()), [])
    else
      bif (decide (a0 < a2)) then
        some ((a0, a1, 10, ()), [])
      else
        bif (decide (a1 < a3)) then
          some ((a0, a1, 10, ()), [])
        else
          Option.bind (innkeepref01_Is n (IntKind.wrap .i64 ((IntKind.wrap .i64 (a0 + a3)) - a2))) fun r1 =>
          bif (!(r1.1.1 : Bool)) then
            some ((a0, a1, 11, ()), [])
          else
            Option.bind (innkeepref01_Is n (IntKind.wrap .i64 ((IntKind.wrap .i64 (a1 + a2)) - a3))) fun r2 =>
            bif (!(r2.1.1 : Bool)) then
              some ((a0, a1, 11, ()), [])
            else
              some (((IntKind.wrap .i64 ((IntKind.wrap .i64 (a0 + a3)) - a2)), (IntKind.wrap .i64 ((IntKind.wrap .i64 (a1 + a2)) - a3)), 0, ()), []) := by kernel_rfl
def innkeepref11_Trade.res : List Sh := [.d tWorld, .d (.int .i64)]
@[reducible] def innkeepref11_Trade.R : Type := dShL [.d tWorld, .d (.int .i64)] × Fresh
def innkeepref11_Trade (n : Nat) (a0 : (den tWorld)) (a1 : Int) (a2 : (den tCmd)) : Option innkeepref11_Trade.R := gc n 14 [.dat tWorld a0 [], .dat (.int .i64) a1 [], .dat tCmd a2 []] [.d tWorld, .d (.int .i64)]
def innkeepref11_Trade.l0 (n m0 : Nat) (t0 : (den tWorld)) (t1 : Int) (t2 : (den tCmd)) (t7 : Int) (t8 : Int) (t10 : Int) (o0 : (den tWorld)) (o1 : (den tCmd)) (o2 : (den tWorld)) (o5 : (List Int)) : Option innkeepref11_Trade.R :=
  loopN (fun Kn K s h => run (gc n) n innkeepref11_Trade.c14 Kn K s h) m0 (kBlk 0 (kSeq (run (gc n) n) innkeepref11_Trade.c12 (retK innkeepref11_Trade.fn innkeepref11_Trade.res) (retK innkeepref11_Trade.fn innkeepref11_Trade.res)) (retK innkeepref11_Trade.fn innkeepref11_Trade.res))
    [(0, .dat tWorld t0 []), (1, .dat (.int .i64) t1 []), (2, .dat tCmd t2 []), (3, .ptr 0 []), (5, .ptr 1 []), (6, .ptr 2 []), (7, .dat (.int .i64) t7 []), (8, .dat (.int .i64) t8 []), (9, .dat (.sl (.int .i64)) ([] : List Int) [([], some 5)]), (10, .dat (.int .i64) t10 [])]
    [.box tWorld o0 [], .box tCmd o1 [], .box tWorld o2 [], .dead, .dead, .arr (.int .i64) o5]
def innkeepref11_Trade.l1 (n m0 : Nat) (t0_1 : (den tWorld)) (t1_1 : Int) (t2_1 : (den tCmd)) (t7_1 : Int) (t8_1 : Int) (t10_1 : Int) (t11_1 : Int) (o0_1 : (den tWorld)) (o1_1 : (den tCmd)) (o2_1 : (den tWorld)) (o5_1 : (List Int)) : Option innkeepref11_Trade.R :=
  loopN (fun Kn K s h => run (gc n) n innkeepref11_Trade.c45 Kn K s h) m0 (kBlk 2 (kSeq (run (gc n) n) innkeepref11_Trade.c43 (retK innkeepref11_Trade.fn innkeepref11_Trade.res) (retK innkeepref11_Trade.fn innkeepref11_Trade.res)) (retK innkeepref11_Trade.fn innkeepref11_Trade.res))
    [(0, .dat tWorld t0_1 []), (1, .dat (.int .i64) t1_1 []), (2, .dat tCmd t2_1 []), (3, .ptr 0 []), (5, .ptr 1 []), (6, .ptr 2 []), (7, .dat (.int .i64) t7_1 []), (8, .dat (.int .i64) t8_1 []), (9, .dat (.sl (.int .i64)) ([] : List Int) [([], some 5)]), (10, .dat (.int .i64) t10_1 []), (11, .dat (.int .i64) t11_1 [])]
    [.box tWorld o0_1 [], .box tCmd o1_1 [], .box tWorld o2_1 [], .dead, .dead, .arr (.int .i64) o5_1]
def innkeepref11_Trade.l2 (n m0 m1 : Nat) (t0_2 : (den tWorld)) (t1_2 : Int) (t2_2 : (den tCmd)) (t7_2 : Int) (t8_2 : Int) (t10_2 : Int) (t11_2 : Int) (t12_2 : Int) (o0_2 : (den tWorld)) (o1_2 : (den tCmd)) (o2_2 : (den tWorld)) (o5_2 : (List Int)) : Option innkeepref11_Trade.R :=
  loopN (fun Kn K s h => run (gc n) n innkeepref11_Trade.c53 Kn K s h) m1 (kBlk 4 (kSeq (run (gc n) n) innkeepref11_Trade.c51 (kSeq (run (gc n) n) innkeepref11_Trade.c46 (fun _ s h => loopN (fun Kn K s h => run (gc n) n innkeepref11_Trade.c45 Kn K s h) m0 (kBlk 2 (kSeq (run (gc n) n) innkeepref11_Trade.c43 (retK innkeepref11_Trade.fn innkeepref11_Trade.res) (retK innkeepref11_Trade.fn innkeepref11_Trade.res)) (retK innkeepref11_Trade.fn innkeepref11_Trade.res)) s h) (kBlk 2 (kSeq (run (gc n) n) innkeepref11_Trade.c43 (retK innkeepref11_Trade.fn innkeepref11_Trade.res) (retK innkeepref11_Trade.fn innkeepref11_Trade.res)) (retK innkeepref11_Trade.fn innkeepref11_Trade.res))) (kBlk 2 (kSeq (run (gc n) n) innkeepref11_Trade.c43 (retK innkeepref11_Trade.fn innkeepref11_Trade.res) (retK innkeepref11_Trade.fn innkeepref11_Trade.res)) (retK innkeepref11_Trade.fn innkeepref11_Trade.res))) (kBlk 3 (kSeq (run (gc n) n) innkeepref11_Trade.c51 (kSeq (run (gc n) n) innkeepref11_Trade.c46 (fun _ s h => loopN (fun Kn K s h => run (gc n) n innkeepref11_Trade.c45 Kn K s h) m0 (kBlk 2 (kSeq (run (gc n) n) innkeepref11_Trade.c43 (retK innkeepref11_Trade.fn innkeepref11_Trade.res) (retK innkeepref11_Trade.fn innkeepref11_Trade.res)) (retK innkeepref11_Trade.fn innkeepref11_Trade.res)) s h) (kBlk 2 (kSeq (run (gc n) n) innkeepref11_Trade.c43 (retK innkeepref11_Trade.fn innkeepref11_Trade.res) (retK innkeepref11_Trade.fn innkeepref11_Trade.res)) (retK innkeepref11_Trade.fn innkeepref11_Trade.res))) (kBlk 2 (kSeq (run (gc n) n) innkeepref11_Trade.c43 (retK innkeepref11_Trade.fn innkeepref11_Trade.res) (retK innkeepref11_Trade.fn innkeepref11_Trade.res)) (retK innkeepref11_Trade.fn innkeepref11_Trade.res))) (kBlk 2 (kSeq (run (gc n) n) innkeepref11_Trade.c43 (retK innkeepref11_Trade.fn innkeepref11_Trade.res) (retK innkeepref11_Trade.fn innkeepref11_Trade.res)) (retK innkeepref11_Trade.fn innkeepref11_Trade.res))))
    [(0, .dat tWorld t0_2 []), (1, .dat (.int .i64) t1_2 []), (2, .dat tCmd t2_2 []), (3, .ptr 0 []), (5, .ptr 1 []), (6, .ptr 2 []), (7, .dat (.int .i64) t7_2 []), (8, .dat (.int .i64) t8_2 []), (9, .dat (.sl (.int .i64)) ([] : List Int) [([], some 5)]), (10, .dat (.int .i64) t10_2 []), (11, .dat (.int .i64) t11_2 []), (12, .dat (.int .i64) t12_2 [])]
    [.box tWorld o0_2 [], .box tCmd o1_2 [], .box tWorld o2_2 [], .dead, .dead, .arr (.int .i64) o5_2]
def innkeepref11_Trade.l3 (n m0 : Nat) (t0_3 : (den tWorld)) (t1_3 : Int) (t2_3 : (den tCmd)) (t7_3 : Int) (t8_3 : Int) (t10_3 : Int) (t11_3 : Int) (t14_3 : Int) (o0_3 : (den tWorld)) (o1_3 : (den tCmd)) (o2_3 : (den tWorld)) (o5_3 : (List Int)) (o6_3 : (den tWorld)) (o7_3 : (List (den tPlace))) (o8_3 : (List Int)) : Option innkeepref11_Trade.R :=
  loopN (fun Kn K s h => run (gc n) n innkeepref11_Trade.c74 Kn K s h) m0 (kBlk 6 (kSeq (run (gc n) n) innkeepref11_Trade.c72 (retK innkeepref11_Trade.fn innkeepref11_Trade.res) (retK innkeepref11_Trade.fn innkeepref11_Trade.res)) (retK innkeepref11_Trade.fn innkeepref11_Trade.res))
    [(0, .dat tWorld t0_3 []), (1, .dat (.int .i64) t1_3 []), (2, .dat tCmd t2_3 []), (3, .ptr 0 []), (5, .ptr 1 []), (6, .ptr 2 []), (7, .dat (.int .i64) t7_3 []), (8, .dat (.int .i64) t8_3 []), (9, .dat (.sl (.int .i64)) ([] : List Int) [([], some 5)]), (10, .dat (.int .i64) t10_3 []), (11, .dat (.int .i64) t11_3 []), (13, .ptr 6 []), (14, .dat (.int .i64) t14_3 [])]
    [.box tWorld o0_3 [], .box tCmd o1_3 [], .box tWorld o2_3 [], .dead, .dead, .arr (.int .i64) o5_3, .box tWorld o6_3 [([2], some 8), ([3], some 7)], .arr tPlace o7_3, .arr (.int .i64) o8_3]
theorem innkeepref11_Trade.l0_eq (n m0 : Nat) (t0 : (den tWorld)) (t1 : Int) (t2 : (den tCmd)) (t7 : Int) (t8 : Int) (t10 : Int) (o0 : (den tWorld)) (o1 : (den tCmd)) (o2 : (den tWorld)) (o5 : (List Int)) : innkeepref11_Trade.l0 n (m0 + 1) t0 t1 t2 t7 t8 t10 o0 o1 o2 o5 =
  bif (decide (t10 < ((List.length o5) : Int))) then
    if (0 : Int) ≤ t10 ∧ t10 < (((List.length o5) : Nat) : Int) then
    bif (decide ((List.getD o5 (Int.toNat t10) (0 : Int) : Int) < 0)) then
      some ((o0, 3, ()), [])
    else
      if (0 : Int) ≤ t10 ∧ t10 < (((List.length o5) : Nat) : Int) then
      bif (decide (((List.length (o0.2.2.2.1 : (List (den tPlace)))) : Int) ≤ (List.getD o5 (Int.toNat t10) (0 : Int) : Int))) then
        some ((o0, 3, ()), [])
      else
        innkeepref11_Trade.l0 n m0 t0 t1 t2 t7 t8 (IntKind.wrap .i64 (t10 + 1)) o0 o1 o2 o5
      else none
    else none
  else
    bif (decide (t1 = t8)) then
      some ((o0, 12, ()), [])
    else
      if (0 : Int) ≤ t1 ∧ t1 < (((List.length (o0.2.1 : (List Int))) : Nat) : Int) then
      if (0 : Int) ≤ t8 ∧ t8 < (((List.length (o0.2.1 : (List Int))) : Nat) : Int) then
      bif (!(decide ((List.getD (o0.2.1 : (List Int)) (Int.toNat t1) (0 : Int) : Int) = (List.getD (o0.2.1 : (List Int)) (Int.toNat t8) (0 : Int) : Int)))) then
        some ((o0, 5, ()), [])
      else
        innkeepref11_Trade.l1 n n t0 t1 t2 t7 t8 t10 0 o0 o1 o2 o5
      else none
      else none := by kernel_rfl
theorem innkeepref11_Trade.l1_eq (n m0 : Nat) (t0_1 : (den tWorld)) (t1_1 : Int) (t2_1 : (den tCmd)) (t7_1 : Int) (t8_1 : Int) (t10_1 : Int) (t11_1 : Int) (o0_1 : (den tWorld)) (o1_1 : (den tCmd)) (o2_1 : (den tWorld)) (o5_1 : (List Int)) : innkeepref11_Trade.l1 n (m0 + 1) t0_1 t1_1 t2_1 t7_1 t8_1 t10_1 t11_1 o0_1 o1_1 o2_1 o5_1 =
  bif (decide (t11_1 < ((List.length o5_1) : Int))) then
    innkeepref11_Trade.l2 n m0 n t0_1 t1_1 t2_1 t7_1 t8_1 t10_1 t11_1 0 o0_1 o1_1 o2_1 o5_1
  else
    Option.bind (innkeepref06_Copied n o0_1) fun r1 =>
    bif (keepAll r1.2 [((0, [3]), 7), ((0, [2]), 8)]) then
      innkeepref11_Trade.l3 n n t0_1 t1_1 t2_1 t7_1 t8_1 t10_1 t11_1 0 o0_1 o1_1 o2_1 o5_1 (r1.1.1.1, (r1.1.1.2.1 : (List Int)), ([] : List Int), ([] : List (den tPlace)), ()) (r1.1.1.2.2.2.1 : (List (den tPlace))) (r1.1.1.2.2.1 : (List Int))
    else
      none := by kernel_rfl
theorem innkeepref11_Trade.l2_eq (n m0 m1 : Nat) (t0_2 : (den tWorld)) (t1_2 : Int) (t2_2 : (den tCmd)) (t7_2 : Int) (t8_2 : Int) (t10_2 : Int) (t11_2 : Int) (t12_2 : Int) (o0_2 : (den tWorld)) (o1_2 : (den tCmd)) (o2_2 : (den tWorld)) (o5_2 : (List Int)) : innkeepref11_Trade.l2 n m0 (m1 + 1) t0_2 t1_2 t2_2 t7_2 t8_2 t10_2 t11_2 t12_2 o0_2 o1_2 o2_2 o5_2 =
  bif (decide (t12_2 < t11_2)) then
    if (0 : Int) ≤ t11_2 ∧ t11_2 < (((List.length o5_2) : Nat) : Int) then
    if (0 : Int) ≤ t12_2 ∧ t12_2 < (((List.length o5_2) : Nat) : Int) then
    bif (decide ((List.getD o5_2 (Int.toNat t11_2) (0 : Int) : Int) = (List.getD o5_2 (Int.toNat t12_2) (0 : Int) : Int))) then
      some ((o0_2, 13, ()), [])
    else
      innkeepref11_Trade.l2 n m0 m1 t0_2 t1_2 t2_2 t7_2 t8_2 t10_2 t11_2 (IntKind.wrap .i64 (t12_2 + 1)) o0_2 o1_2 o2_2 o5_2
    else none
    else none
  else
    innkeepref11_Trade.l1 n m0 t0_2 t1_2 t2_2 t7_2 t8_2 t10_2 (IntKind.wrap .i64 (t11_2 + 1)) o0_2 o1_2 o2_2 o5_2 := by kernel_rfl
theorem innkeepref11_Trade.l3_eq (n m0 : Nat) (t0_3 : (den tWorld)) (t1_3 : Int) (t2_3 : (den tCmd)) (t7_3 : Int) (t8_3 : Int) (t10_3 : Int) (t11_3 : Int) (t14_3 : Int) (o0_3 : (den tWorld)) (o1_3 : (den tCmd)) (o2_3 : (den tWorld)) (o5_3 : (List Int)) (o6_3 : (den tWorld)) (o7_3 : (List (den tPlace))) (o8_3 : (List Int)) : innkeepref11_Trade.l3 n (m0 + 1) t0_3 t1_3 t2_3 t7_3 t8_3 t10_3 t11_3 t14_3 o0_3 o1_3 o2_3 o5_3 o6_3 o7_3 o8_3 =
  bif (decide (t14_3 < ((List.length o5_3) : Int))) then
    bif (decide (((List.length (o1_3.2.2.2.2.2.1 : (List Int))) : Int) ≤ t14_3)) then
      if (0 : Int) ≤ t14_3 ∧ t14_3 < (((List.length o5_3) : Nat) : Int) then
      if (0 : Int) ≤ (List.getD o5_3 (Int.toNat t14_3) (0 : Int) : Int) ∧ (List.getD o5_3 (Int.toNat t14_3) (0 : Int) : Int) < (((List.length (o0_3.2.2.2.1 : (List (den tPlace)))) : Nat) : Int) then
      bif (!(eqT tPlace (List.getD (o0_3.2.2.2.1 : (List (den tPlace))) (Int.toNat (List.getD o5_3 (Int.toNat t14_3) (0 : Int) : Int)) (dft tPlace) : (den tPlace)) (1, t8_3, ()))) then
        some ((o0_3, 5, ()), [])
      else
        if (0 : Int) ≤ t14_3 ∧ t14_3 < (((List.length o5_3) : Nat) : Int) then
        if (0 : Int) ≤ (List.getD o5_3 (Int.toNat t14_3) (0 : Int) : Int) ∧ (List.getD o5_3 (Int.toNat t14_3) (0 : Int) : Int) < (((List.length o7_3) : Nat) : Int) then
        innkeepref11_Trade.l3 n m0 t0_3 t1_3 t2_3 t7_3 t8_3 t10_3 t11_3 (IntKind.wrap .i64 (t14_3 + 1)) o0_3 o1_3 o2_3 o5_3 o6_3 (List.set o7_3 (Int.toNat (List.getD o5_3 (Int.toNat t14_3) (0 : Int) : Int)) (1, t1_3, ()) : (List (den tPlace))) o8_3
        else none
        else none
      else none
      else none
    else
      if (0 : Int) ≤ t14_3 ∧ t14_3 < (((List.length o5_3) : Nat) : Int) then
      if (0 : Int) ≤ (List.getD o5_3 (Int.toNat t14_3) (0 : Int) : Int) ∧ (List.getD o5_3 (Int.toNat t14_3) (0 : Int) : Int) < (((List.length (o0_3.2.2.2.1 : (List (den tPlace)))) : Nat) : Int) then
      bif (!(eqT tPlace (List.getD (o0_3.2.2.2.1 : (List (den tPlace))) (Int.toNat (List.getD o5_3 (Int.toNat t14_3) (0 : Int) : Int)) (dft tPlace) : (den tPlace)) (1, t1_3, ()))) then
        some ((o0_3, 5, ()), [])
      else
        if (0 : Int) ≤ t14_3 ∧ t14_3 < (((List.length o5_3) : Nat) : Int) then
        if (0 : Int) ≤ (List.getD o5_3 (Int.toNat t14_3) (0 : Int) : Int) ∧ (List.getD o5_3 (Int.toNat t14_3) (0 : Int) : Int) < (((List.length o7_3) : Nat) : Int) then
        innkeepref11_Trade.l3 n m0 t0_3 t1_3 t2_3 t7_3 t8_3 t10_3 t11_3 (IntKind.wrap .i64 (t14_3 + 1)) o0_3 o1_3 o2_3 o5_3 o6_3 (List.set o7_3 (Int.toNat (List.getD o5_3 (Int.toNat t14_3) (0 : Int) : Int)) (1, t8_3, ()) : (List (den tPlace))) o8_3
        else none
        else none
      else none
      else none
  else
    Option.bind (innkeepref07_Room n (o6_3.1, (o6_3.2.1 : (List Int)), o8_3, o7_3, ()) (1, t1_3, ())) fun r2 =>
    bif (decide ((r2.1.1 : Int) < 0)) then
      some ((o0_3, 9, ()), [])
    else
      Option.bind (innkeepref07_Room n (o6_3.1, (o6_3.2.1 : (List Int)), o8_3, o7_3, ()) (1, t8_3, ())) fun r3 =>
      bif (decide ((r3.1.1 : Int) < 0)) then
        some ((o0_3, 9, ()), [])
      else
        if (0 : Int) ≤ t1_3 ∧ t1_3 < (((List.length (o0_3.2.2.1 : (List Int))) : Nat) : Int) then
        if (0 : Int) ≤ t8_3 ∧ t8_3 < (((List.length (o0_3.2.2.1 : (List Int))) : Nat) : Int) then
        Option.bind (innkeepref01_Swap n (List.getD (o0_3.2.2.1 : (List Int)) (Int.toNat t1_3) (0 : Int) : Int) (List.getD (o0_3.2.2.1 : (List Int)) (Int.toNat t8_3) (0 : Int) : Int) (o1_3.2.2.2.2.2.2.1 : Int) (o1_3.2.2.2.2.2.2.2.2.1 : Int)) fun r4 =>
        bif (!(decide ((r4.1.2.2.1 : Int) = 0))) then
          some ((o0_3, (r4.1.2.2.1 : Int), ()), [])
        else
          if (0 : Int) ≤ t1_3 ∧ t1_3 < (((List.length o8_3) : Nat) : Int) then
          if (0 : Int) ≤ t8_3 ∧ t8_3 < (((List.length (List.set o8_3 (Int.toNat t1_3) (r4.1.1 : Int) : (List Int))) : Nat) : Int) then
          some (((o6_3.1, (o6_3.2.1 : (List Int)), (List.set (List.set o8_3 (Int.toNat t1_3) (r4.1.1 : Int) : (List Int)) (Int.toNat t8_3) (r4.1.2.1 : Int) : (List Int)), o7_3, ()), 0, ()), [(0, [2]), (0, [3])])
          else none
          else none
        else none
        else none := by kernel_rfl
theorem innkeepref11_Trade.eq (n : Nat) (a0 : (den tWorld)) (a1 : Int) (a2 : (den tCmd)) : innkeepref11_Trade (n + 1) a0 a1 a2 =
  if 0 + (List.length (a2.2.2.2.2.2.1 : (List Int))) ≤ 1048576 then
  if (List.length (([] : List Int) ++ (a2.2.2.2.2.2.1 : (List Int)))) + (List.length (a2.2.2.2.2.2.2.2.1 : (List Int))) ≤ 1048576 then
  bif (decide ((a2.2.2.2.2.1 : Int) < 0)) then
    some ((a0, 3, ()), [])
  else
    bif (decide (((List.length (a0.2.1 : (List Int))) : Int) ≤ (a2.2.2.2.2.1 : Int))) then
      some ((a0, 3, ()), [])
    else
      innkeepref11_Trade.l0 n n a0 a1 a2 0 (a2.2.2.2.2.1 : Int) 0 a0 a2 ((([] : List (List Int)), ([] : List Int), ([] : List Int), ([] : List Int), ([] : List Bool), 0, 0, 0, ()), ([] : List Int), ([] : List Int), ([] : List (den tPlace)), ()) ((([] : List Int) ++ (a2.2.2.2.2.2.1 : (List Int))) ++ (a2.2.2.2.2.2.2.2.1 : (List Int)))
  else none
  else none := by kernel_rfl
def innkeepref06_Places.res : List Sh := [.d .bool]
@[reducible] def innkeepref06_Places.R : Type := dShL [.d .bool] × Fresh
def innkeepref06_Places (n : Nat) (a0 : (List (den tPlace))) (a1 : (List (den tPlace))) : Option innkeepref06_Places.R := gc n 20 [.dat (.sl tPlace) a0 [], .dat (.sl tPlace) a1 []] [.d .bool]
def innkeepref06_Places.l0 (n m0 : Nat) (t0 : (List (den tPlace))) (t1 : (List (den tPlace))) (t4 : Bool) (t5 : Int) : Option innkeepref06_Places.R :=
  loopN (fun Kn K s h => run (gc n) n innkeepref06_Places.c9 Kn K s h) m0 (kBlk 0 (kSeq (run (gc n) n) innkeepref06_Places.c7 (retK innkeepref06_Places.fn innkeepref06_Places.res) (retK innkeepref06_Places.fn innkeepref06_Places.res)) (retK innkeepref06_Places.fn innkeepref06_Places.res))
    [(0, .dat (.sl tPlace) t0 []), (1, .dat (.sl tPlace) t1 []), (4, .dat .bool t4 []), (5, .dat (.int .i64) t5 [])]
    []
theorem innkeepref06_Places.l0_eq (n m0 : Nat) (t0 : (List (den tPlace))) (t1 : (List (den tPlace))) (t4 : Bool) (t5 : Int) : innkeepref06_Places.l0 n (m0 + 1) t0 t1 t4 t5 =
  bif (decide (t5 < ((List.length t0) : Int))) then
    if (0 : Int) ≤ t5 ∧ t5 < (((List.length t0) : Nat) : Int) then
    if (0 : Int) ≤ t5 ∧ t5 < (((List.length t1) : Nat) : Int) then
    bif (!(eqT tPlace (List.getD t0 (Int.toNat t5) (dft tPlace) : (den tPlace)) (List.getD t1 (Int.toNat t5) (dft tPlace) : (den tPlace)))) then
      some ((false, ()), [])
    else
      innkeepref06_Places.l0 n m0 t0 t1 t4 (IntKind.wrap .i64 (t5 + 1))
    else none
    else none
  else
    some ((true, ()), []) := by kernel_rfl
theorem innkeepref06_Places.eq (n : Nat) (a0 : (List (den tPlace))) (a1 : (List (den tPlace))) : innkeepref06_Places (n + 1) a0 a1 =
  bif (!(decide (((List.length a0) : Int) = ((List.length a1) : Int)))) then
    some ((false, ()), [])
  else
    innkeepref06_Places.l0 n n a0 a1 false 0 := by kernel_rfl
def innkeepref06_Same.res : List Sh := [.d .bool]
@[reducible] def innkeepref06_Same.R : Type := dShL [.d .bool] × Fresh
def innkeepref06_Same (n : Nat) (a0 : (den tWorld)) (a1 : (den tWorld)) : Option innkeepref06_Same.R := gc n 15 [.dat tWorld a0 [], .dat tWorld a1 []] [.d .bool]
def innkeepref06_Same.l0 (n m0 : Nat) (t0 : (den tWorld)) (t1 : (den tWorld)) (t4 : Bool) (t7 : Int) (o0 : (den tWorld)) (o1 : (den tWorld)) (o2 : (den tDesc)) (o3 : (den tDesc)) : Option innkeepref06_Same.R :=
  loopN (fun Kn K s h => run (gc n) n innkeepref06_Same.c13 Kn K s h) m0 (kBlk 0 (kSeq (run (gc n) n) innkeepref06_Same.c11 (retK innkeepref06_Same.fn innkeepref06_Same.res) (retK innkeepref06_Same.fn innkeepref06_Same.res)) (retK innkeepref06_Same.fn innkeepref06_Same.res))
    [(0, .dat tWorld t0 []), (1, .dat tWorld t1 []), (2, .ptr 0 []), (3, .ptr 1 []), (4, .dat .bool t4 []), (5, .ptr 2 []), (6, .ptr 3 []), (7, .dat (.int .i64) t7 [])]
    [.box tWorld o0 [], .box tWorld o1 [], .box tDesc o2 [], .box tDesc o3 []]
def innkeepref06_Same.l1 (n m0 : Nat) (t0_1 : (den tWorld)) (t1_1 : (den tWorld)) (t4_1 : Bool) (t7_1 : Int) (t8_1 : Int) (o0_1 : (den tWorld)) (o1_1 : (den tWorld)) (o2_1 : (den tDesc)) (o3_1 : (den tDesc)) : Option innkeepref06_Same.R :=
  loopN (fun Kn K s h => run (gc n) n innkeepref06_Same.c29 Kn K s h) m0 (kBlk 2 (kSeq (run (gc n) n) innkeepref06_Same.c27 (retK innkeepref06_Same.fn innkeepref06_Same.res) (retK innkeepref06_Same.fn innkeepref06_Same.res)) (retK innkeepref06_Same.fn innkeepref06_Same.res))
    [(0, .dat tWorld t0_1 []), (1, .dat tWorld t1_1 []), (2, .ptr 0 []), (3, .ptr 1 []), (4, .dat .bool t4_1 []), (5, .ptr 2 []), (6, .ptr 3 []), (7, .dat (.int .i64) t7_1 []), (8, .dat (.int .i64) t8_1 [])]
    [.box tWorld o0_1 [], .box tWorld o1_1 [], .box tDesc o2_1 [], .box tDesc o3_1 []]
theorem innkeepref06_Same.l0_eq (n m0 : Nat) (t0 : (den tWorld)) (t1 : (den tWorld)) (t4 : Bool) (t7 : Int) (o0 : (den tWorld)) (o1 : (den tWorld)) (o2 : (den tDesc)) (o3 : (den tDesc)) : innkeepref06_Same.l0 n (m0 + 1) t0 t1 t4 t7 o0 o1 o2 o3 =
  bif (decide (t7 < ((List.length (o2.1 : (List (List Int)))) : Int))) then
    if (0 : Int) ≤ t7 ∧ t7 < (((List.length (o2.1 : (List (List Int)))) : Nat) : Int) then
    if (0 : Int) ≤ t7 ∧ t7 < (((List.length (o3.1 : (List (List Int)))) : Nat) : Int) then
    bif (!(eqT (.arr 4 (.int .i64)) (List.getD (o2.1 : (List (List Int))) (Int.toNat t7) (dft (.arr 4 (.int .i64))) : (List Int)) (List.getD (o3.1 : (List (List Int))) (Int.toNat t7) (dft (.arr 4 (.int .i64))) : (List Int)))) then
      some ((false, ()), [])
    else
      innkeepref06_Same.l0 n m0 t0 t1 t4 (IntKind.wrap .i64 (t7 + 1)) o0 o1 o2 o3
    else none
    else none
  else
    innkeepref06_Same.l1 n n t0 t1 t4 t7 0 o0 o1 o2 o3 := by kernel_rfl
theorem innkeepref06_Same.l1_eq (n m0 : Nat) (t0_1 : (den tWorld)) (t1_1 : (den tWorld)) (t4_1 : Bool) (t7_1 : Int) (t8_1 : Int) (o0_1 : (den tWorld)) (o1_1 : (den tWorld)) (o2_1 : (den tDesc)) (o3_1 : (den tDesc)) : innkeepref06_Same.l1 n (m0 + 1) t0_1 t1_1 t4_1 t7_1 t8_1 o0_1 o1_1 o2_1 o3_1 =
  bif (decide (t8_1 < ((List.length (o2_1.2.2.2.2.1 : (List Bool))) : Int))) then
    if (0 : Int) ≤ t8_1 ∧ t8_1 < (((List.length (o2_1.2.2.2.2.1 : (List Bool))) : Nat) : Int) then
    if (0 : Int) ≤ t8_1 ∧ t8_1 < (((List.length (o3_1.2.2.2.2.1 : (List Bool))) : Nat) : Int) then
    bif (!(eqT .bool (List.getD (o2_1.2.2.2.2.1 : (List Bool)) (Int.toNat t8_1) false : Bool) (List.getD (o3_1.2.2.2.2.1 : (List Bool)) (Int.toNat t8_1) false : Bool))) then
      some ((false, ()), [])
    else
      innkeepref06_Same.l1 n m0 t0_1 t1_1 t4_1 t7_1 (IntKind.wrap .i64 (t8_1 + 1)) o0_1 o1_1 o2_1 o3_1
    else none
    else none
  else
    Option.bind (innkeepref03_Ints n (o2_1.2.1 : (List Int)) (o3_1.2.1 : (List Int))) fun r1 =>
    bif (r1.1.1 : Bool) then
      Option.bind (innkeepref03_Ints n (o2_1.2.2.1 : (List Int)) (o3_1.2.2.1 : (List Int))) fun r2 =>
      bif (r2.1.1 : Bool) then
        Option.bind (innkeepref03_Ints n (o2_1.2.2.2.1 : (List Int)) (o3_1.2.2.2.1 : (List Int))) fun r3 =>
        bif (r3.1.1 : Bool) then
          Option.bind (innkeepref03_Ints n (o0_1.2.1 : (List Int)) (o1_1.2.1 : (List Int))) fun r4 =>
          bif (r4.1.1 : Bool) then
            Option.bind (innkeepref03_Ints n (o0_1.2.2.1 : (List Int)) (o1_1.2.2.1 : (List Int))) fun r5 =>
            bif (r5.1.1 : Bool) then
              Option.bind (innkeepref06_Places n (o0_1.2.2.2.1 : (List (den tPlace))) (o1_1.2.2.2.1 : (List (den tPlace)))) fun r6 =>
              some (((r6.1.1 : Bool), ()), [])
            else
              some ((false, ()), [])
          else
            some ((false, ()), [])
        else
          some ((false, ()), [])
      else
        some ((false, ()), [])
    else
      some ((false, ()), []) := by kernel_rfl
theorem innkeepref06_Same.eq (n : Nat) (a0 : (den tWorld)) (a1 : (den tWorld)) : innkeepref06_Same (n + 1) a0 a1 =
  bif (!(decide ((a0.1.2.2.2.2.2.1 : Int) = (a1.1.2.2.2.2.2.1 : Int)))) then
    some ((false, ()), [])
  else
    bif (!(decide ((a0.1.2.2.2.2.2.2.1 : Int) = (a1.1.2.2.2.2.2.2.1 : Int)))) then
      some ((false, ()), [])
    else
      bif (!(decide ((a0.1.2.2.2.2.2.2.2.1 : Int) = (a1.1.2.2.2.2.2.2.2.1 : Int)))) then
        some ((false, ()), [])
      else
        bif (!(decide (((List.length (a0.1.1 : (List (List Int)))) : Int) = ((List.length (a1.1.1 : (List (List Int)))) : Int)))) then
          some ((false, ()), [])
        else
          bif (!(decide (((List.length (a0.1.2.2.2.2.1 : (List Bool))) : Int) = ((List.length (a1.1.2.2.2.2.1 : (List Bool))) : Int)))) then
            some ((false, ()), [])
          else
            innkeepref06_Same.l0 n n a0 a1 false 0 a0 a1 a0.1 a1.1 := by kernel_rfl
def innkeeplaw11_GiftsDo.res : List Sh := [.d .bool]
@[reducible] def innkeeplaw11_GiftsDo.R : Type := dShL [.d .bool] × Fresh
def innkeeplaw11_GiftsDo (n : Nat) (a0 : (den tWorld)) (a1 : Int) (a2 : Int) (a3 : Int) (a4 : (den tCmd)) : Option innkeeplaw11_GiftsDo.R := gc n 3 [.dat tWorld a0 [], .dat (.int .u8) a1 [], .dat (.int .i64) a2 [], .dat (.int .i64) a3 [], .dat tCmd a4 []] [.d .bool]
theorem innkeeplaw11_GiftsDo.eq (n : Nat) (a0 : (den tWorld)) (a1 : Int) (a2 : Int) (a3 : Int) (a4 : (den tCmd)) : innkeeplaw11_GiftsDo (n + 1) a0 a1 a2 a3 a4 =
  Option.bind (innkeeplaw11_awake n) fun r1 =>
  bif (!(r1.1.1 : Bool)) then
    Option.bind (innkeeplaw11_awake n) fun r2 =>
    some (((r2.1.1 : Bool), ()), [])
  else
    Option.bind (innkeeplaw11_fits n a0) fun r3 =>
    bif (!(r3.1.1 : Bool)) then
      Option.bind (innkeeplaw11_awake n) fun r4 =>
      some (((r4.1.1 : Bool), ()), [])
    else
      Option.bind (innkeepref03_Few n a4) fun r5 =>
      bif (!(r5.1.1 : Bool)) then
        Option.bind (innkeeplaw11_awake n) fun r6 =>
        some (((r6.1.1 : Bool), ()), [])
      else
        Option.bind (innkeepref03_May n a4) fun r7 =>
        bif (!(r7.1.1 : Bool)) then
          Option.bind (innkeeplaw11_awake n) fun r8 =>
          some (((r8.1.1 : Bool), ()), [])
        else
          bif (!(decide ((a4.1 : Int) = 8))) then
            Option.bind (innkeeplaw11_awake n) fun r9 =>
            some (((r9.1.1 : Bool), ()), [])
          else
            if ((List.length (a0.2.1 : (List Int))) : Int) = 0 then none else
            Option.bind (gifts_Give n a0 (Int.tmod (IntKind.wrap .i64 (a1)) ((List.length (a0.2.1 : (List Int))) : Int)) a2 a3) fun r10 =>
            Option.bind (innkeepref11_Give n a0 (Int.tmod (IntKind.wrap .i64 (a1)) ((List.length (a0.2.1 : (List Int))) : Int)) a2 a3) fun r11 =>
            Option.bind (gifts_Trade n a0 (Int.tmod (IntKind.wrap .i64 (a1)) ((List.length (a0.2.1 : (List Int))) : Int)) a4) fun r12 =>
            Option.bind (innkeepref11_Trade n a0 (Int.tmod (IntKind.wrap .i64 (a1)) ((List.length (a0.2.1 : (List Int))) : Int)) a4) fun r13 =>
            Option.bind (innkeepref06_Same n r10.1.1 r11.1.1) fun r14 =>
            bif (r14.1.1 : Bool) then
              bif (decide ((r10.1.2.1 : Int) = (r11.1.2.1 : Int))) then
                Option.bind (innkeepref06_Same n r12.1.1 r13.1.1) fun r15 =>
                bif (r15.1.1 : Bool) then
                  some (((decide ((r12.1.2.1 : Int) = (r13.1.2.1 : Int))), ()), [])
                else
                  some ((false, ()), [])
              else
                some ((false, ()), [])
            else
              some ((false, ()), []) := by kernel_rfl
def innkeepref11_Sum.res : List Sh := [.d (.int .i64)]
@[reducible] def innkeepref11_Sum.R : Type := dShL [.d (.int .i64)] × Fresh
def innkeepref11_Sum (n : Nat) (a0 : (den tWorld)) : Option innkeepref11_Sum.R := gc n 16 [.dat tWorld a0 []] [.d (.int .i64)]
def innkeepref11_Sum.l0 (n m0 : Nat) (t0 : (den tWorld)) (t2 : Int) (t3 : Int) (t4 : Int) (o0 : (den tWorld)) : Option innkeepref11_Sum.R :=
  loopN (fun Kn K s h => run (gc n) n innkeepref11_Sum.c4 Kn K s h) m0 (kBlk 0 (kSeq (run (gc n) n) innkeepref11_Sum.c2 (retK innkeepref11_Sum.fn innkeepref11_Sum.res) (retK innkeepref11_Sum.fn innkeepref11_Sum.res)) (retK innkeepref11_Sum.fn innkeepref11_Sum.res))
    [(0, .dat tWorld t0 []), (1, .ptr 0 []), (2, .dat (.int .i64) t2 []), (3, .dat (.int .i64) t3 []), (4, .dat (.int .i64) t4 [])]
    [.box tWorld o0 []]
theorem innkeepref11_Sum.l0_eq (n m0 : Nat) (t0 : (den tWorld)) (t2 : Int) (t3 : Int) (t4 : Int) (o0 : (den tWorld)) : innkeepref11_Sum.l0 n (m0 + 1) t0 t2 t3 t4 o0 =
  bif (decide (t4 < ((List.length (o0.2.2.1 : (List Int))) : Int))) then
    if (0 : Int) ≤ t4 ∧ t4 < (((List.length (o0.2.2.1 : (List Int))) : Nat) : Int) then
    innkeepref11_Sum.l0 n m0 t0 t2 (IntKind.wrap .i64 (t3 + (List.getD (o0.2.2.1 : (List Int)) (Int.toNat t4) (0 : Int) : Int))) (IntKind.wrap .i64 (t4 + 1)) o0
    else none
  else
    some ((t3, ()), []) := by kernel_rfl
theorem innkeepref11_Sum.eq (n : Nat) (a0 : (den tWorld)) : innkeepref11_Sum (n + 1) a0 =
  innkeepref11_Sum.l0 n n a0 0 0 0 a0 := by kernel_rfl
def innkeepref09_Others.res : List Sh := [.d .bool]
@[reducible] def innkeepref09_Others.R : Type := dShL [.d .bool] × Fresh
def innkeepref09_Others (n : Nat) (a0 : (den tWorld)) (a1 : (den tWorld)) (a2 : (List Int)) : Option innkeepref09_Others.R := gc n 19 [.dat tWorld a0 [], .dat tWorld a1 [], .dat (.sl (.int .i64)) a2 []] [.d .bool]
def innkeepref09_Others.l0 (n m0 : Nat) (t0 : (den tWorld)) (t1 : (den tWorld)) (t2 : (List Int)) (t6 : Bool) (t8 : Int) (o0 : (den tWorld)) (o1 : (den tWorld)) (o2 : (den tWorld)) (o3 : (List (den tPlace))) : Option innkeepref09_Others.R :=
  loopN (fun Kn K s h => run (gc n) n innkeepref09_Others.c5 Kn K s h) m0 (kBlk 0 (kSeq (run (gc n) n) innkeepref09_Others.c3 (retK innkeepref09_Others.fn innkeepref09_Others.res) (retK innkeepref09_Others.fn innkeepref09_Others.res)) (retK innkeepref09_Others.fn innkeepref09_Others.res))
    [(0, .dat tWorld t0 []), (1, .dat tWorld t1 []), (2, .dat (.sl (.int .i64)) t2 []), (3, .ptr 0 []), (4, .ptr 1 []), (6, .dat .bool t6 []), (7, .ptr 2 []), (8, .dat (.int .i64) t8 [])]
    [.box tWorld o0 [], .box tWorld o1 [], .box tWorld o2 [([3], some 3)], .arr tPlace o3]
theorem innkeepref09_Others.l0_eq (n m0 : Nat) (t0 : (den tWorld)) (t1 : (den tWorld)) (t2 : (List Int)) (t6 : Bool) (t8 : Int) (o0 : (den tWorld)) (o1 : (den tWorld)) (o2 : (den tWorld)) (o3 : (List (den tPlace))) : innkeepref09_Others.l0 n (m0 + 1) t0 t1 t2 t6 t8 o0 o1 o2 o3 =
  bif (decide (t8 < ((List.length t2) : Int))) then
    if (0 : Int) ≤ t8 ∧ t8 < (((List.length t2) : Nat) : Int) then
    bif (decide ((List.getD t2 (Int.toNat t8) (0 : Int) : Int) < 0)) then
      some ((false, ()), [])
    else
      if (0 : Int) ≤ t8 ∧ t8 < (((List.length t2) : Nat) : Int) then
      bif (decide (((List.length o3) : Int) ≤ (List.getD t2 (Int.toNat t8) (0 : Int) : Int))) then
        some ((false, ()), [])
      else
        bif (!(decide (((List.length o3) : Int) = ((List.length (o1.2.2.2.1 : (List (den tPlace)))) : Int)))) then
          some ((false, ()), [])
        else
          if (0 : Int) ≤ t8 ∧ t8 < (((List.length t2) : Nat) : Int) then
          if (0 : Int) ≤ t8 ∧ t8 < (((List.length t2) : Nat) : Int) then
          if (0 : Int) ≤ (List.getD t2 (Int.toNat t8) (0 : Int) : Int) ∧ (List.getD t2 (Int.toNat t8) (0 : Int) : Int) < (((List.length (o1.2.2.2.1 : (List (den tPlace)))) : Nat) : Int) then
          if (0 : Int) ≤ (List.getD t2 (Int.toNat t8) (0 : Int) : Int) ∧ (List.getD t2 (Int.toNat t8) (0 : Int) : Int) < (((List.length o3) : Nat) : Int) then
          innkeepref09_Others.l0 n m0 t0 t1 t2 t6 (IntKind.wrap .i64 (t8 + 1)) o0 o1 o2 (List.set o3 (Int.toNat (List.getD t2 (Int.toNat t8) (0 : Int) : Int)) (List.getD (o1.2.2.2.1 : (List (den tPlace))) (Int.toNat (List.getD t2 (Int.toNat t8) (0 : Int) : Int)) (dft tPlace) : (den tPlace)) : (List (den tPlace)))
          else none
          else none
          else none
          else none
      else none
    else none
  else
    Option.bind (innkeepref06_Same n (o2.1, (o2.2.1 : (List Int)), (o2.2.2.1 : (List Int)), o3, ()) o1) fun r2 =>
    some (((r2.1.1 : Bool), ()), []) := by kernel_rfl
theorem innkeepref09_Others.eq (n : Nat) (a0 : (den tWorld)) (a1 : (den tWorld)) (a2 : (List Int)) : innkeepref09_Others (n + 1) a0 a1 a2 =
  Option.bind (innkeepref06_Copied n a0) fun r1 =>
  bif (keepAll r1.2 [((0, [3]), 3)]) then
    innkeepref09_Others.l0 n n a0 a1 a2 false 0 a0 a1 (r1.1.1.1, (r1.1.1.2.1 : (List Int)), (r1.1.1.2.2.1 : (List Int)), ([] : List (den tPlace)), ()) (r1.1.1.2.2.2.1 : (List (den tPlace)))
  else
    none := by kernel_rfl
def innkeeplaw11_GiftsKeep.res : List Sh := [.d .bool]
@[reducible] def innkeeplaw11_GiftsKeep.R : Type := dShL [.d .bool] × Fresh
def innkeeplaw11_GiftsKeep (n : Nat) (a0 : (den tWorld)) (a1 : Int) (a2 : (den tCmd)) : Option innkeeplaw11_GiftsKeep.R := gc n 4 [.dat tWorld a0 [], .dat (.int .u8) a1 [], .dat tCmd a2 []] [.d .bool]
def innkeeplaw11_GiftsKeep.l0 (n m0 : Nat) (t0 : (den tWorld)) (t1 : Int) (t2 : (den tCmd)) (t6 : Bool) (t7 : Int) (t9 : Int) (t12 : Int) (o0 : (den tWorld)) (o1 : (den tCmd)) (o2 : (den tWorld)) (o5 : (List Int)) (o6 : (den tWorld)) (o8 : (List Int)) : Option innkeeplaw11_GiftsKeep.R :=
  loopN (fun Kn K s h => run (gc n) n innkeeplaw11_GiftsKeep.c39 Kn K s h) m0 (kBlk 0 (kSeq (run (gc n) n) innkeeplaw11_GiftsKeep.c37 (retK innkeeplaw11_GiftsKeep.fn innkeeplaw11_GiftsKeep.res) (retK innkeeplaw11_GiftsKeep.fn innkeeplaw11_GiftsKeep.res)) (retK innkeeplaw11_GiftsKeep.fn innkeeplaw11_GiftsKeep.res))
    [(0, .dat tWorld t0 []), (1, .dat (.int .u8) t1 []), (2, .dat tCmd t2 []), (3, .ptr 0 []), (5, .ptr 1 []), (6, .dat .bool t6 []), (7, .dat (.int .i64) t7 []), (8, .ptr 2 []), (9, .dat (.int .i64) t9 []), (10, .dat (.sl (.int .i64)) ([] : List Int) [([], some 5)]), (11, .ptr 6 []), (12, .dat (.int .i64) t12 [])]
    [.box tWorld o0 [], .box tCmd o1 [], .box tWorld o2 [], .dead, .dead, .arr (.int .i64) o5, .box tWorld o6 [([2], some 8)], .dead, .arr (.int .i64) o8]
theorem innkeeplaw11_GiftsKeep.l0_eq (n m0 : Nat) (t0 : (den tWorld)) (t1 : Int) (t2 : (den tCmd)) (t6 : Bool) (t7 : Int) (t9 : Int) (t12 : Int) (o0 : (den tWorld)) (o1 : (den tCmd)) (o2 : (den tWorld)) (o5 : (List Int)) (o6 : (den tWorld)) (o8 : (List Int)) : innkeeplaw11_GiftsKeep.l0 n (m0 + 1) t0 t1 t2 t6 t7 t9 t12 o0 o1 o2 o5 o6 o8 =
  bif (decide (t12 < ((List.length (o0.2.2.1 : (List Int))) : Int))) then
    bif (!(decide (t12 = t7))) then
      bif (!(decide (t12 = (o1.2.2.2.2.1 : Int)))) then
        if (0 : Int) ≤ t12 ∧ t12 < (((List.length (o2.2.2.1 : (List Int))) : Nat) : Int) then
        if (0 : Int) ≤ t12 ∧ t12 < (((List.length (o0.2.2.1 : (List Int))) : Nat) : Int) then
        bif (!(decide ((List.getD (o2.2.2.1 : (List Int)) (Int.toNat t12) (0 : Int) : Int) = (List.getD (o0.2.2.1 : (List Int)) (Int.toNat t12) (0 : Int) : Int)))) then
          some ((false, ()), [])
        else
          innkeeplaw11_GiftsKeep.l0 n m0 t0 t1 t2 t6 t7 t9 (IntKind.wrap .i64 (t12 + 1)) o0 o1 o2 o5 o6 o8
        else none
        else none
      else
        innkeeplaw11_GiftsKeep.l0 n m0 t0 t1 t2 t6 t7 t9 (IntKind.wrap .i64 (t12 + 1)) o0 o1 o2 o5 o6 o8
    else
      innkeeplaw11_GiftsKeep.l0 n m0 t0 t1 t2 t6 t7 t9 (IntKind.wrap .i64 (t12 + 1)) o0 o1 o2 o5 o6 o8
  else
    Option.bind (gifts_Trade n o2 (o1.2.2.2.2.1 : Int) (8, 0, 0, 0, t7, (o1.2.2.2.2.2.1 : (List Int)), (o1.2.2.2.2.2.2.1 : Int), (o1.2.2.2.2.2.2.2.1 : (List Int)), (o1.2.2.2.2.2.2.2.2.1 : Int), ())) fun r17 =>
    bif (decide ((r17.1.2.1 : Int) = 0)) then
      Option.bind (innkeepref06_Same n r17.1.1 o0) fun r18 =>
      bif (r18.1.1 : Bool) then
        if (0 : Int) ≤ t7 ∧ t7 < (((List.length (o2.2.2.1 : (List Int))) : Nat) : Int) then
        if (0 : Int) ≤ t7 ∧ t7 < (((List.length (o0.2.2.1 : (List Int))) : Nat) : Int) then
        some (((decide ((List.getD (o2.2.2.1 : (List Int)) (Int.toNat t7) (0 : Int) : Int) = (IntKind.wrap .i64 ((IntKind.wrap .i64 ((List.getD (o0.2.2.1 : (List Int)) (Int.toNat t7) (0 : Int) : Int) - (o1.2.2.2.2.2.2.1 : Int))) + (o1.2.2.2.2.2.2.2.2.1 : Int))))), ()), [])
        else none
        else none
      else
        some ((false, ()), [])
    else
      some ((false, ()), []) := by kernel_rfl
theorem innkeeplaw11_GiftsKeep.eq (n : Nat) (a0 : (den tWorld)) (a1 : Int) (a2 : (den tCmd)) : innkeeplaw11_GiftsKeep (n + 1) a0 a1 a2 =
  Option.bind (innkeeplaw11_awake n) fun r1 =>
  bif (!(r1.1.1 : Bool)) then
    Option.bind (innkeeplaw11_awake n) fun r2 =>
    some (((r2.1.1 : Bool), ()), [])
  else
    Option.bind (innkeeplaw11_fits n a0) fun r3 =>
    bif (!(r3.1.1 : Bool)) then
      Option.bind (innkeeplaw11_awake n) fun r4 =>
      some (((r4.1.1 : Bool), ()), [])
    else
      Option.bind (innkeepref03_Few n a2) fun r5 =>
      bif (!(r5.1.1 : Bool)) then
        Option.bind (innkeeplaw11_awake n) fun r6 =>
        some (((r6.1.1 : Bool), ()), [])
      else
        Option.bind (innkeepref03_May n a2) fun r7 =>
        bif (!(r7.1.1 : Bool)) then
          Option.bind (innkeeplaw11_awake n) fun r8 =>
          some (((r8.1.1 : Bool), ()), [])
        else
          bif (!(decide ((a2.1 : Int) = 8))) then
            Option.bind (innkeeplaw11_awake n) fun r9 =>
            some (((r9.1.1 : Bool), ()), [])
          else
            if ((List.length (a0.2.1 : (List Int))) : Int) = 0 then none else
            Option.bind (gifts_Trade n a0 (Int.tmod (IntKind.wrap .i64 (a1)) ((List.length (a0.2.1 : (List Int))) : Int)) a2) fun r10 =>
            bif (!(decide ((r10.1.2.1 : Int) = 0))) then
              Option.bind (innkeepref06_Same n r10.1.1 a0) fun r11 =>
              some (((r11.1.1 : Bool), ()), [])
            else
              Option.bind (innkeepref11_Sum n r10.1.1) fun r12 =>
              Option.bind (innkeepref11_Sum n a0) fun r13 =>
              bif (!(decide ((r12.1.1 : Int) = (r13.1.1 : Int)))) then
                some ((false, ()), [])
              else
                Option.bind (innkeepref06_Right n r10.1.1) fun r14 =>
                bif (!(r14.1.1 : Bool)) then
                  some ((false, ()), [])
                else
                  bif (decide ((a2.2.2.2.2.1 : Int) < 0)) then
                    some ((false, ()), [])
                  else
                    bif (decide (((List.length (a0.2.1 : (List Int))) : Int) ≤ (a2.2.2.2.2.1 : Int))) then
                      some ((false, ()), [])
                    else
                      if 0 + (List.length (a2.2.2.2.2.2.1 : (List Int))) ≤ 1048576 then
                      if (List.length (([] : List Int) ++ (a2.2.2.2.2.2.1 : (List Int)))) + (List.length (a2.2.2.2.2.2.2.2.1 : (List Int))) ≤ 1048576 then
                      Option.bind (innkeepref06_Copied n r10.1.1) fun r15 =>
                      if 0 + (List.length (a0.2.2.1 : (List Int))) ≤ 1048576 then
                      Option.bind (innkeepref09_Others n a0 (r15.1.1.1, (r15.1.1.2.1 : (List Int)), (([] : List Int) ++ (a0.2.2.1 : (List Int))), (r15.1.1.2.2.2.1 : (List (den tPlace))), ()) ((([] : List Int) ++ (a2.2.2.2.2.2.1 : (List Int))) ++ (a2.2.2.2.2.2.2.2.1 : (List Int)))) fun r16 =>
                      bif (!(r16.1.1 : Bool)) then
                        some ((false, ()), [])
                      else
                        innkeeplaw11_GiftsKeep.l0 n n a0 a1 a2 false (Int.tmod (IntKind.wrap .i64 (a1)) ((List.length (a0.2.1 : (List Int))) : Int)) (r10.1.2.1 : Int) 0 a0 a2 r10.1.1 ((([] : List Int) ++ (a2.2.2.2.2.2.1 : (List Int))) ++ (a2.2.2.2.2.2.2.2.1 : (List Int))) (r15.1.1.1, (r15.1.1.2.1 : (List Int)), ([] : List Int), (r15.1.1.2.2.2.1 : (List (den tPlace))), ()) (([] : List Int) ++ (a0.2.2.1 : (List Int)))
                      else none
                      else none
                      else none := by kernel_rfl
def innkeeplaw11_GiftsGive.res : List Sh := [.d .bool]
@[reducible] def innkeeplaw11_GiftsGive.R : Type := dShL [.d .bool] × Fresh
def innkeeplaw11_GiftsGive (n : Nat) (a0 : (den tWorld)) (a1 : Int) (a2 : Int) (a3 : Int) : Option innkeeplaw11_GiftsGive.R := gc n 5 [.dat tWorld a0 [], .dat (.int .u8) a1 [], .dat (.int .i64) a2 [], .dat (.int .i64) a3 []] [.d .bool]
theorem innkeeplaw11_GiftsGive.eq (n : Nat) (a0 : (den tWorld)) (a1 : Int) (a2 : Int) (a3 : Int) : innkeeplaw11_GiftsGive (n + 1) a0 a1 a2 a3 =
  Option.bind (innkeeplaw11_awake n) fun r1 =>
  bif (!(r1.1.1 : Bool)) then
    Option.bind (innkeeplaw11_awake n) fun r2 =>
    some (((r2.1.1 : Bool), ()), [])
  else
    Option.bind (innkeeplaw11_fits n a0) fun r3 =>
    bif (!(r3.1.1 : Bool)) then
      Option.bind (innkeeplaw11_awake n) fun r4 =>
      some (((r4.1.1 : Bool), ()), [])
    else
      bif (decide (a2 < 0)) then
        Option.bind (innkeeplaw11_awake n) fun r5 =>
        some (((r5.1.1 : Bool), ()), [])
      else
        bif (decide (1073741824 < a2)) then
          Option.bind (innkeeplaw11_awake n) fun r6 =>
          some (((r6.1.1 : Bool), ()), [])
        else
          bif (decide (a3 < 0)) then
            Option.bind (innkeeplaw11_awake n) fun r7 =>
            some (((r7.1.1 : Bool), ()), [])
          else
            bif (decide (1073741824 < a3)) then
              Option.bind (innkeeplaw11_awake n) fun r8 =>
              some (((r8.1.1 : Bool), ()), [])
            else
              if ((List.length (a0.2.1 : (List Int))) : Int) = 0 then none else
              Option.bind (gifts_Give n a0 (Int.tmod (IntKind.wrap .i64 (a1)) ((List.length (a0.2.1 : (List Int))) : Int)) a2 a3) fun r9 =>
              Option.bind (gifts_Trade n a0 (Int.tmod (IntKind.wrap .i64 (a1)) ((List.length (a0.2.1 : (List Int))) : Int)) (8, 0, 0, 0, a3, ([a2] : List Int), 0, ([] : List Int), 0, ())) fun r10 =>
              bif (!(decide ((r9.1.2.1 : Int) = (r10.1.2.1 : Int)))) then
                some ((false, ()), [])
              else
                Option.bind (innkeepref06_Same n r9.1.1 r10.1.1) fun r11 =>
                bif (!(r11.1.1 : Bool)) then
                  some ((false, ()), [])
                else
                  bif (!(decide ((r9.1.2.1 : Int) = 0))) then
                    Option.bind (innkeepref06_Same n r9.1.1 a0) fun r12 =>
                    some (((r12.1.1 : Bool), ()), [])
                  else
                    Option.bind (gifts_Give n r9.1.1 a3 a2 (Int.tmod (IntKind.wrap .i64 (a1)) ((List.length (a0.2.1 : (List Int))) : Int))) fun r13 =>
                    bif (decide ((r13.1.2.1 : Int) = 0)) then
                      Option.bind (innkeepref06_Same n r13.1.1 a0) fun r14 =>
                      bif (r14.1.1 : Bool) then
                        Option.bind (innkeepref06_Right n r9.1.1) fun r15 =>
                        bif (r15.1.1 : Bool) then
                          Option.bind (innkeepref09_Others n a0 r9.1.1 ([a2] : List Int)) fun r16 =>
                          some (((r16.1.1 : Bool), ()), [])
                        else
                          some ((false, ()), [])
                      else
                        some ((false, ()), [])
                    else
                      some ((false, ()), []) := by kernel_rfl
def innkeeplaw11_GiftsNone.res : List Sh := [.d .bool]
@[reducible] def innkeeplaw11_GiftsNone.R : Type := dShL [.d .bool] × Fresh
def innkeeplaw11_GiftsNone (n : Nat) (a0 : (den tWorld)) (a1 : Int) (a2 : Int) (a3 : Int) : Option innkeeplaw11_GiftsNone.R := gc n 6 [.dat tWorld a0 [], .dat (.int .u8) a1 [], .dat (.int .u8) a2 [], .dat (.int .u32) a3 []] [.d .bool]
theorem innkeeplaw11_GiftsNone.eq (n : Nat) (a0 : (den tWorld)) (a1 : Int) (a2 : Int) (a3 : Int) : innkeeplaw11_GiftsNone (n + 1) a0 a1 a2 a3 =
  Option.bind (innkeeplaw11_awake n) fun r1 =>
  bif (!(r1.1.1 : Bool)) then
    Option.bind (innkeeplaw11_awake n) fun r2 =>
    some (((r2.1.1 : Bool), ()), [])
  else
    Option.bind (innkeeplaw11_fits n a0) fun r3 =>
    bif (!(r3.1.1 : Bool)) then
      Option.bind (innkeeplaw11_awake n) fun r4 =>
      some (((r4.1.1 : Bool), ()), [])
    else
      bif (decide (1073741824 < a3)) then
        Option.bind (innkeeplaw11_awake n) fun r5 =>
        some (((r5.1.1 : Bool), ()), [])
      else
        if ((List.length (a0.2.1 : (List Int))) : Int) = 0 then none else
        if ((List.length (a0.2.1 : (List Int))) : Int) = 0 then none else
        Option.bind (gifts_Trade n a0 (Int.tmod (IntKind.wrap .i64 (a1)) ((List.length (a0.2.1 : (List Int))) : Int)) (8, 0, 0, 0, (Int.tmod (IntKind.wrap .i64 (a2)) ((List.length (a0.2.1 : (List Int))) : Int)), ([] : List Int), 0, ([] : List Int), 0, ())) fun r6 =>
        bif (!(decide ((Int.tmod (IntKind.wrap .i64 (a1)) ((List.length (a0.2.1 : (List Int))) : Int)) = (Int.tmod (IntKind.wrap .i64 (a2)) ((List.length (a0.2.1 : (List Int))) : Int))))) then
          if (0 : Int) ≤ (Int.tmod (IntKind.wrap .i64 (a1)) ((List.length (a0.2.1 : (List Int))) : Int)) ∧ (Int.tmod (IntKind.wrap .i64 (a1)) ((List.length (a0.2.1 : (List Int))) : Int)) < (((List.length (a0.2.1 : (List Int))) : Nat) : Int) then
          if (0 : Int) ≤ (Int.tmod (IntKind.wrap .i64 (a2)) ((List.length (a0.2.1 : (List Int))) : Int)) ∧ (Int.tmod (IntKind.wrap .i64 (a2)) ((List.length (a0.2.1 : (List Int))) : Int)) < (((List.length (a0.2.1 : (List Int))) : Nat) : Int) then
          bif (!(eqT .bool (decide ((r6.1.2.1 : Int) = 0)) (decide ((List.getD (a0.2.1 : (List Int)) (Int.toNat (Int.tmod (IntKind.wrap .i64 (a1)) ((List.length (a0.2.1 : (List Int))) : Int))) (0 : Int) : Int) = (List.getD (a0.2.1 : (List Int)) (Int.toNat (Int.tmod (IntKind.wrap .i64 (a2)) ((List.length (a0.2.1 : (List Int))) : Int))) (0 : Int) : Int))))) then
            some ((false, ()), [])
          else
            Option.bind (innkeepref06_Same n r6.1.1 a0) fun r7 =>
            bif (!(r7.1.1 : Bool)) then
              some ((false, ()), [])
            else
              bif (!(decide ((List.getD (a0.2.1 : (List Int)) (Int.toNat (Int.tmod (IntKind.wrap .i64 (a1)) ((List.length (a0.2.1 : (List Int))) : Int))) (0 : Int) : Int) = (List.getD (a0.2.1 : (List Int)) (Int.toNat (Int.tmod (IntKind.wrap .i64 (a2)) ((List.length (a0.2.1 : (List Int))) : Int))) (0 : Int) : Int)))) then
                some ((true, ()), [])
              else
                Option.bind (gifts_Trade n a0 (Int.tmod (IntKind.wrap .i64 (a1)) ((List.length (a0.2.1 : (List Int))) : Int)) (8, 0, 0, 0, (Int.tmod (IntKind.wrap .i64 (a2)) ((List.length (a0.2.1 : (List Int))) : Int)), ([] : List Int), (IntKind.wrap .i64 (a3)), ([] : List Int), 0, ())) fun r8 =>
                bif (decide ((r8.1.2.1 : Int) = 0)) then
                  if (0 : Int) ≤ (Int.tmod (IntKind.wrap .i64 (a1)) ((List.length (a0.2.1 : (List Int))) : Int)) ∧ (Int.tmod (IntKind.wrap .i64 (a1)) ((List.length (a0.2.1 : (List Int))) : Int)) < (((List.length (r8.1.1.2.2.1 : (List Int))) : Nat) : Int) then
                  if (0 : Int) ≤ (Int.tmod (IntKind.wrap .i64 (a1)) ((List.length (a0.2.1 : (List Int))) : Int)) ∧ (Int.tmod (IntKind.wrap .i64 (a1)) ((List.length (a0.2.1 : (List Int))) : Int)) < (((List.length (a0.2.2.1 : (List Int))) : Nat) : Int) then
                  bif (!(decide ((List.getD (r8.1.1.2.2.1 : (List Int)) (Int.toNat (Int.tmod (IntKind.wrap .i64 (a1)) ((List.length (a0.2.1 : (List Int))) : Int))) (0 : Int) : Int) = (IntKind.wrap .i64 ((List.getD (a0.2.2.1 : (List Int)) (Int.toNat (Int.tmod (IntKind.wrap .i64 (a1)) ((List.length (a0.2.1 : (List Int))) : Int))) (0 : Int) : Int) - (IntKind.wrap .i64 (a3))))))) then
                    some ((false, ()), [])
                  else
                    if (0 : Int) ≤ (Int.tmod (IntKind.wrap .i64 (a2)) ((List.length (a0.2.1 : (List Int))) : Int)) ∧ (Int.tmod (IntKind.wrap .i64 (a2)) ((List.length (a0.2.1 : (List Int))) : Int)) < (((List.length (r8.1.1.2.2.1 : (List Int))) : Nat) : Int) then
                    if (0 : Int) ≤ (Int.tmod (IntKind.wrap .i64 (a2)) ((List.length (a0.2.1 : (List Int))) : Int)) ∧ (Int.tmod (IntKind.wrap .i64 (a2)) ((List.length (a0.2.1 : (List Int))) : Int)) < (((List.length (a0.2.2.1 : (List Int))) : Nat) : Int) then
                    bif (!(decide ((List.getD (r8.1.1.2.2.1 : (List Int)) (Int.toNat (Int.tmod (IntKind.wrap .i64 (a2)) ((List.length (a0.2.1 : (List Int))) : Int))) (0 : Int) : Int) = (IntKind.wrap .i64 ((List.getD (a0.2.2.1 : (List Int)) (Int.toNat (Int.tmod (IntKind.wrap .i64 (a2)) ((List.length (a0.2.1 : (List Int))) : Int))) (0 : Int) : Int) + (IntKind.wrap .i64 (a3))))))) then
                      some ((false, ()), [])
                    else
                      Option.bind (innkeepref06_Places n (r8.1.1.2.2.2.1 : (List (den tPlace))) (a0.2.2.2.1 : (List (den tPlace)))) fun r9 =>
                      bif (!(r9.1.1 : Bool)) then
                        some ((false, ()), [])
                      else
                        bif (decide ((r8.1.2.1 : Int) = 0)) then
                          some ((true, ()), [])
                        else
                          bif (decide ((r8.1.2.1 : Int) = 10)) then
                            if (0 : Int) ≤ (Int.tmod (IntKind.wrap .i64 (a1)) ((List.length (a0.2.1 : (List Int))) : Int)) ∧ (Int.tmod (IntKind.wrap .i64 (a1)) ((List.length (a0.2.1 : (List Int))) : Int)) < (((List.length (a0.2.2.1 : (List Int))) : Nat) : Int) then
                            bif (decide ((List.getD (a0.2.2.1 : (List Int)) (Int.toNat (Int.tmod (IntKind.wrap .i64 (a1)) ((List.length (a0.2.1 : (List Int))) : Int))) (0 : Int) : Int) < (IntKind.wrap .i64 (a3)))) then
                              some ((true, ()), [])
                            else
                              bif (decide ((r8.1.2.1 : Int) = 11)) then
                                if (0 : Int) ≤ (Int.tmod (IntKind.wrap .i64 (a2)) ((List.length (a0.2.1 : (List Int))) : Int)) ∧ (Int.tmod (IntKind.wrap .i64 (a2)) ((List.length (a0.2.1 : (List Int))) : Int)) < (((List.length (a0.2.2.1 : (List Int))) : Nat) : Int) then
                                some (((decide (1073741824 < (IntKind.wrap .i64 ((List.getD (a0.2.2.1 : (List Int)) (Int.toNat (Int.tmod (IntKind.wrap .i64 (a2)) ((List.length (a0.2.1 : (List Int))) : Int))) (0 : Int) : Int) + (IntKind.wrap .i64 (a3)))))), ()), [])
                                else none
                              else
                                some ((false, ()), [])
                            else none
                          else
                            bif (decide ((r8.1.2.1 : Int) = 11)) then
                              if (0 : Int) ≤ (Int.tmod (IntKind.wrap .i64 (a2)) ((List.length (a0.2.1 : (List Int))) : Int)) ∧ (Int.tmod (IntKind.wrap .i64 (a2)) ((List.length (a0.2.1 : (List Int))) : Int)) < (((List.length (a0.2.2.1 : (List Int))) : Nat) : Int) then
                              some (((decide (1073741824 < (IntKind.wrap .i64 ((List.getD (a0.2.2.1 : (List Int)) (Int.toNat (Int.tmod (IntKind.wrap .i64 (a2)) ((List.length (a0.2.1 : (List Int))) : Int))) (0 : Int) : Int) + (IntKind.wrap .i64 (a3)))))), ()), [])
                              else none
                            else
                              some ((false, ()), [])
                    else none
                    else none
                  else none
                  else none
                else
                  bif (decide ((r8.1.2.1 : Int) = 0)) then
                    some ((true, ()), [])
                  else
                    bif (decide ((r8.1.2.1 : Int) = 10)) then
                      if (0 : Int) ≤ (Int.tmod (IntKind.wrap .i64 (a1)) ((List.length (a0.2.1 : (List Int))) : Int)) ∧ (Int.tmod (IntKind.wrap .i64 (a1)) ((List.length (a0.2.1 : (List Int))) : Int)) < (((List.length (a0.2.2.1 : (List Int))) : Nat) : Int) then
                      bif (decide ((List.getD (a0.2.2.1 : (List Int)) (Int.toNat (Int.tmod (IntKind.wrap .i64 (a1)) ((List.length (a0.2.1 : (List Int))) : Int))) (0 : Int) : Int) < (IntKind.wrap .i64 (a3)))) then
                        some ((true, ()), [])
                      else
                        bif (decide ((r8.1.2.1 : Int) = 11)) then
                          if (0 : Int) ≤ (Int.tmod (IntKind.wrap .i64 (a2)) ((List.length (a0.2.1 : (List Int))) : Int)) ∧ (Int.tmod (IntKind.wrap .i64 (a2)) ((List.length (a0.2.1 : (List Int))) : Int)) < (((List.length (a0.2.2.1 : (List Int))) : Nat) : Int) then
                          some (((decide (1073741824 < (IntKind.wrap .i64 ((List.getD (a0.2.2.1 : (List Int)) (Int.toNat (Int.tmod (IntKind.wrap .i64 (a2)) ((List.length (a0.2.1 : (List Int))) : Int))) (0 : Int) : Int) + (IntKind.wrap .i64 (a3)))))), ()), [])
                          else none
                        else
                          some ((false, ()), [])
                      else none
                    else
                      bif (decide ((r8.1.2.1 : Int) = 11)) then
                        if (0 : Int) ≤ (Int.tmod (IntKind.wrap .i64 (a2)) ((List.length (a0.2.1 : (List Int))) : Int)) ∧ (Int.tmod (IntKind.wrap .i64 (a2)) ((List.length (a0.2.1 : (List Int))) : Int)) < (((List.length (a0.2.2.1 : (List Int))) : Nat) : Int) then
                        some (((decide (1073741824 < (IntKind.wrap .i64 ((List.getD (a0.2.2.1 : (List Int)) (Int.toNat (Int.tmod (IntKind.wrap .i64 (a2)) ((List.length (a0.2.1 : (List Int))) : Int))) (0 : Int) : Int) + (IntKind.wrap .i64 (a3)))))), ()), [])
                        else none
                      else
                        some ((false, ()), [])
          else none
          else none
        else
          bif (!(eqT .bool (decide ((r6.1.2.1 : Int) = 0)) false)) then
            some ((false, ()), [])
          else
            Option.bind (innkeepref06_Same n r6.1.1 a0) fun r10 =>
            bif (!(r10.1.1 : Bool)) then
              some ((false, ()), [])
            else
              some ((true, ()), []) := by kernel_rfl
end Go.Proofs.Ytdbogcinhmfmpaa.Ghost
