/- What each function and each loop comes to, one step. Conditions: none. -/
import Derived.Test.YtcalkhkcokkhhaaGSp
import Derived.KernelRfl
namespace Go.Proofs.Ytcalkhkcokkhhaa.Ghost
open Go
abbrev gc (n : Nat) : Calls := gcall prog sp n
def innkeepref06_New.res : List Sh := [.d tWorld]
@[reducible] def innkeepref06_New.R : Type := dShL [.d tWorld] × Fresh
def innkeepref06_New (n : Nat) (a0 : (den tDesc)) : Option innkeepref06_New.R := gc n 18 [.dat tDesc a0 []] [.d tWorld]
def innkeepref06_New.l0 (n m0 : Nat) (t0 : (den tDesc)) (t4 : Int) (o0 : (den tDesc)) (o1 : (den tWorld)) (o2 : (den tWorld)) (o3 : (List Int)) (o4 : (List Int)) (o9 : (List (den tPlace))) : Option innkeepref06_New.R :=
  loopN (fun Kn K s h => run (gc n) n innkeepref06_New.c9 Kn K s h) m0 (kBlk 0 (kSeq (run (gc n) n) innkeepref06_New.c7 (retK innkeepref06_New.fn innkeepref06_New.res) (retK innkeepref06_New.fn innkeepref06_New.res)) (retK innkeepref06_New.fn innkeepref06_New.res))
    [(0, .dat tDesc t0 []), (1, .ptr 0 []), (2, .ptr 1 []), (3, .ptr 2 []), (4, .dat (.int .i64) t4 [])]
    [.box tDesc o0 [], .box tWorld o1 [], .box tWorld o2 [([1], some 3), ([2], some 4), ([3], some 9)], .arr (.int .i64) o3, .arr (.int .i64) o4, .none, .none, .dead, .dead, .arr tPlace o9]
theorem innkeepref06_New.l0_eq (n m0 : Nat) (t0 : (den tDesc)) (t4 : Int) (o0 : (den tDesc)) (o1 : (den tWorld)) (o2 : (den tWorld)) (o3 : (List Int)) (o4 : (List Int)) (o9 : (List (den tPlace))) : innkeepref06_New.l0 n (m0 + 1) t0 t4 o0 o1 o2 o3 o4 o9 =
  bif (decide (t4 < ((List.length (o0.2.2.2.1 : (List Int))) : Int))) then
    if (0 : Int) ≤ t4 ∧ t4 < (((List.length (o0.2.2.2.1 : (List Int))) : Nat) : Int) then
    if (List.length o9) + 1 ≤ 1048576 then
    innkeepref06_New.l0 n m0 t0 (IntKind.wrap .i64 (t4 + 1)) o0 o1 (o2.1, (o2.2.1 : (List Int)), (o2.2.2.1 : (List Int)), ([] : List (den tPlace)), ()) o3 o4 (o9 ++ ([(0, (List.getD (o0.2.2.2.1 : (List Int)) (Int.toNat t4) (0 : Int) : Int), ())] : List (den tPlace)))
    else none
    else none
  else
    some (((o2.1, o3, o4, o9, ()), ()), [(0, [1]), (0, [2]), (0, [3])]) := by kernel_rfl
theorem innkeepref06_New.eq (n : Nat) (a0 : (den tDesc)) : innkeepref06_New (n + 1) a0 =
  if 0 + (List.length (a0.2.1 : (List Int))) ≤ 1048576 then
  if 0 + (List.length (a0.2.2.1 : (List Int))) ≤ 1048576 then
  innkeepref06_New.l0 n n a0 0 a0 ((([] : List (List Int)), ([] : List Int), ([] : List Int), ([] : List Int), ([] : List Bool), 0, 0, 0, ()), ([] : List Int), ([] : List Int), ([] : List (den tPlace)), ()) (a0, ([] : List Int), ([] : List Int), ([] : List (den tPlace)), ()) (([] : List Int) ++ (a0.2.1 : (List Int))) (([] : List Int) ++ (a0.2.2.1 : (List Int))) ([] : List (den tPlace))
  else none
  else none := by kernel_rfl
def ways_going.res : List Sh := [.clo 30 [.refv (.clo 21 []), .ref tWorld, .ref (.int .i64)]]
@[reducible] def ways_going.R : Type := dShL [.clo 30 [.refv (.clo 21 []), .ref tWorld, .ref (.int .i64)]] × Fresh
def ways_going (n : Nat) (a0 : (den tWorld)) (a1 : Int) : Option ways_going.R := gc n 20 [.dat tWorld a0 [], .dat (.int .i64) a1 [], .clo 21 []] [.clo 30 [.refv (.clo 21 []), .ref tWorld, .ref (.int .i64)]]
theorem ways_going.eq (n : Nat) (a0 : (den tWorld)) (a1 : Int) : ways_going (n + 1) a0 a1 =
  some ((((()), a0, a1, ()), ()), []) := by kernel_rfl
def ways_Move_1.res : List Sh := [.d (.int .i64)]
@[reducible] def ways_Move_1.R : Type := dShL [.d (.int .i64)] × Fresh
def ways_Move_1 (n : Nat) : Option ways_Move_1.R := gc n 21 [] [.d (.int .i64)]
theorem ways_Move_1.eq (n : Nat) : ways_Move_1 (n + 1) =
  some ((0, ()), []) := by kernel_rfl
def ways_Exit.res : List Sh := [.d (.int .i64), .d .bool]
@[reducible] def ways_Exit.R : Type := dShL [.d (.int .i64), .d .bool] × Fresh
def ways_Exit (n : Nat) (a0 : (den tWorld)) (a1 : Int) (a2 : Int) : Option ways_Exit.R := gc n 13 [.dat tWorld a0 [], .dat (.int .i64) a1 [], .dat (.int .i64) a2 []] [.d (.int .i64), .d .bool]
theorem ways_Exit.eq (n : Nat) (a0 : (den tWorld)) (a1 : Int) (a2 : Int) : ways_Exit (n + 1) a0 a1 a2 =
  if (0 : Int) ≤ a1 ∧ a1 < (((List.length (a0.1.1 : (List (List Int)))) : Nat) : Int) then
  if (0 : Int) ≤ a2 ∧ a2 < ((4 : Nat) : Int) then
  some (((if (List.getD (List.getD (a0.1.1 : (List (List Int))) (Int.toNat a1) (dft (.arr 4 (.int .i64))) : (List Int)) (Int.toNat a2) (0 : Int) : Int) < 0 then 0 else (List.getD (List.getD (a0.1.1 : (List (List Int))) (Int.toNat a1) (dft (.arr 4 (.int .i64))) : (List Int)) (Int.toNat a2) (0 : Int) : Int)), (decide (0 ≤ (List.getD (List.getD (a0.1.1 : (List (List Int))) (Int.toNat a1) (dft (.arr 4 (.int .i64))) : (List Int)) (Int.toNat a2) (0 : Int) : Int))), ()), [])
  else none
  else none := by kernel_rfl
def slices_Clone_sint_int.res : List Sh := [.d (.sl (.int .i64))]
@[reducible] def slices_Clone_sint_int.R : Type := dShL [.d (.sl (.int .i64))] × Fresh
def slices_Clone_sint_int (n : Nat) (a0 : (List Int)) : Option slices_Clone_sint_int.R := gc n 33 [.dat (.sl (.int .i64)) a0 []] [.d (.sl (.int .i64))]
def slices_Clone_sapi_Place_api_Place.res : List Sh := [.d (.sl tPlace)]
@[reducible] def slices_Clone_sapi_Place_api_Place.R : Type := dShL [.d (.sl tPlace)] × Fresh
def slices_Clone_sapi_Place_api_Place (n : Nat) (a0 : (List (den tPlace))) : Option slices_Clone_sapi_Place_api_Place.R := gc n 34 [.dat (.sl tPlace) a0 []] [.d (.sl tPlace)]
def desc_Copy.res : List Sh := [.d tWorld]
@[reducible] def desc_Copy.R : Type := dShL [.d tWorld] × Fresh
def desc_Copy (n : Nat) (a0 : (den tWorld)) : Option desc_Copy.R := gc n 31 [.dat tWorld a0 []] [.d tWorld]
theorem desc_Copy.eq (n : Nat) (a0 : (den tWorld)) : desc_Copy (n + 1) a0 =
  Option.bind (slices_Clone_sint_int n (a0.2.1 : (List Int))) fun r1 =>
  bif (keepAll r1.2 [((0, []), 2)]) then
    Option.bind (slices_Clone_sint_int n (a0.2.2.1 : (List Int))) fun r2 =>
    bif (keepAll r2.2 [((0, []), 3)]) then
      Option.bind (slices_Clone_sapi_Place_api_Place n (a0.2.2.2.1 : (List (den tPlace)))) fun r3 =>
      bif (keepAll r3.2 [((0, []), 4)]) then
        some (((a0.1, (r1.1.1 : (List Int)), (r2.1.1 : (List Int)), (r3.1.1 : (List (den tPlace))), ()), ()), [(0, [1]), (0, [2]), (0, [3])])
      else
        none
    else
      none
  else
    none := by kernel_rfl
def ways_going_1.res : List Sh := [.d tWorld, .d (.int .i64), .d (.int .i64)]
@[reducible] def ways_going_1.R : Type := dShL [.d tWorld, .d (.int .i64), .d (.int .i64)] × Fresh
def ways_going_1 (n : Nat) (a0 : Int) (a1 : (den tWorld)) (a2 : Int) : Option ways_going_1.R := gc n 30 [.dat (.int .i64) a0 [], .refv (.clo 21 []), .ref tWorld a1, .ref (.int .i64) a2] [.d tWorld, .d (.int .i64), .d (.int .i64)]
theorem ways_going_1.eq (n : Nat) (a0 : Int) (a1 : (den tWorld)) (a2 : Int) : ways_going_1 (n + 1) a0 a1 a2 =
  Option.bind (ways_Move_1 n) fun r1 =>
  bif (!(decide ((r1.1.1 : Int) = 0))) then
    some ((a1, 0, (r1.1.1 : Int), ()), [])
  else
    if (0 : Int) ≤ a0 ∧ a0 < (((List.length (a1.2.1 : (List Int))) : Nat) : Int) then
    Option.bind (ways_Exit n a1 (List.getD (a1.2.1 : (List Int)) (Int.toNat a0) (0 : Int) : Int) a2) fun r2 =>
    bif (!(r2.1.2.1 : Bool)) then
      some ((a1, 0, 4, ()), [])
    else
      Option.bind (desc_Copy n a1) fun r3 =>
      bif (keepAll r3.2 [((0, [1]), 2)]) then
        if (0 : Int) ≤ a0 ∧ a0 < (((List.length (r3.1.1.2.1 : (List Int))) : Nat) : Int) then
        some (((r3.1.1.1, (List.set (r3.1.1.2.1 : (List Int)) (Int.toNat a0) (r2.1.1 : Int) : (List Int)), (r3.1.1.2.2.1 : (List Int)), (r3.1.1.2.2.2.1 : (List (den tPlace))), ()), (r2.1.1 : Int), 0, ()), [(0, [1])])
        else none
      else
        none
    else none := by kernel_rfl
def ways_Move.res : List Sh := [.d tWorld, .d (.int .i64), .d (.int .i64)]
@[reducible] def ways_Move.R : Type := dShL [.d tWorld, .d (.int .i64), .d (.int .i64)] × Fresh
def ways_Move (n : Nat) (a0 : (den tWorld)) (a1 : Int) (a2 : Int) : Option ways_Move.R := gc n 9 [.dat tWorld a0 [], .dat (.int .i64) a1 [], .dat (.int .i64) a2 []] [.d tWorld, .d (.int .i64), .d (.int .i64)]
theorem ways_Move.eq (n : Nat) (a0 : (den tWorld)) (a1 : Int) (a2 : Int) : ways_Move (n + 1) a0 a1 a2 =
  Option.bind (ways_going n a0 a2) fun r1 =>
  Option.bind (ways_going_1 n a1 r1.1.1.2.1 (r1.1.1.2.2.1 : Int)) fun r2 =>
  some ((r2.1.1, (r2.1.2.1 : Int), (r2.1.2.2.1 : Int), ()), []) := by kernel_rfl
def ways_going_v1.res : List Sh := [.clo 30 [.refv (.clo 23 [.ref (.int .i64), .ref tWorld, .ref (.int .i64)]), .ref tWorld, .ref (.int .i64)]]
@[reducible] def ways_going_v1.R : Type := dShL [.clo 30 [.refv (.clo 23 [.ref (.int .i64), .ref tWorld, .ref (.int .i64)]), .ref tWorld, .ref (.int .i64)]] × Fresh
def ways_going_v1 (n : Nat) (a0 : (den tWorld)) (a1 : Int) (a2 : Int) (a3 : (den tWorld)) (a4 : Int) : Option ways_going_v1.R := gc n 20 [.dat tWorld a0 [], .dat (.int .i64) a1 [], .clo 23 [.ref (.int .i64) a2, .ref tWorld a3, .ref (.int .i64) a4]] [.clo 30 [.refv (.clo 23 [.ref (.int .i64), .ref tWorld, .ref (.int .i64)]), .ref tWorld, .ref (.int .i64)]]
theorem ways_going_v1.eq (n : Nat) (a0 : (den tWorld)) (a1 : Int) (a2 : Int) (a3 : (den tWorld)) (a4 : Int) : ways_going_v1 (n + 1) a0 a1 a2 a3 a4 =
  some ((((a2, a3, a4, ()), a0, a1, ()), ()), []) := by kernel_rfl
def ways_Push_1.res : List Sh := [.d (.int .i64)]
@[reducible] def ways_Push_1.R : Type := dShL [.d (.int .i64)] × Fresh
def ways_Push_1 (n : Nat) (a0 : Int) (a1 : (den tWorld)) (a2 : Int) : Option ways_Push_1.R := gc n 23 [.ref (.int .i64) a0, .ref tWorld a1, .ref (.int .i64) a2] [.d (.int .i64)]
theorem ways_Push_1.eq (n : Nat) (a0 : Int) (a1 : (den tWorld)) (a2 : Int) : ways_Push_1 (n + 1) a0 a1 a2 =
  bif (decide (a0 < 0)) then
    some ((3, ()), [])
  else
    bif (decide (((List.length (a1.2.1 : (List Int))) : Int) ≤ a0)) then
      some ((3, ()), [])
    else
      bif (decide (a0 = a2)) then
        some ((12, ()), [])
      else
        if (0 : Int) ≤ a0 ∧ a0 < (((List.length (a1.2.1 : (List Int))) : Nat) : Int) then
        if (0 : Int) ≤ a2 ∧ a2 < (((List.length (a1.2.1 : (List Int))) : Nat) : Int) then
        bif (!(decide ((List.getD (a1.2.1 : (List Int)) (Int.toNat a0) (0 : Int) : Int) = (List.getD (a1.2.1 : (List Int)) (Int.toNat a2) (0 : Int) : Int)))) then
          some ((5, ()), [])
        else
          some ((0, ()), [])
        else none
        else none := by kernel_rfl
def ways_going_1_v1.res : List Sh := [.d tWorld, .d (.int .i64), .d (.int .i64)]
@[reducible] def ways_going_1_v1.R : Type := dShL [.d tWorld, .d (.int .i64), .d (.int .i64)] × Fresh
def ways_going_1_v1 (n : Nat) (a0 : Int) (a1 : Int) (a2 : (den tWorld)) (a3 : Int) (a4 : (den tWorld)) (a5 : Int) : Option ways_going_1_v1.R := gc n 30 [.dat (.int .i64) a0 [], .refv (.clo 23 [.ref (.int .i64) a1, .ref tWorld a2, .ref (.int .i64) a3]), .ref tWorld a4, .ref (.int .i64) a5] [.d tWorld, .d (.int .i64), .d (.int .i64)]
theorem ways_going_1_v1.eq (n : Nat) (a0 : Int) (a1 : Int) (a2 : (den tWorld)) (a3 : Int) (a4 : (den tWorld)) (a5 : Int) : ways_going_1_v1 (n + 1) a0 a1 a2 a3 a4 a5 =
  Option.bind (ways_Push_1 n a1 a2 a3) fun r1 =>
  bif (!(decide ((r1.1.1 : Int) = 0))) then
    some ((a4, 0, (r1.1.1 : Int), ()), [])
  else
    if (0 : Int) ≤ a0 ∧ a0 < (((List.length (a4.2.1 : (List Int))) : Nat) : Int) then
    Option.bind (ways_Exit n a4 (List.getD (a4.2.1 : (List Int)) (Int.toNat a0) (0 : Int) : Int) a5) fun r2 =>
    bif (!(r2.1.2.1 : Bool)) then
      some ((a4, 0, 4, ()), [])
    else
      Option.bind (desc_Copy n a4) fun r3 =>
      bif (keepAll r3.2 [((0, [1]), 2)]) then
        if (0 : Int) ≤ a0 ∧ a0 < (((List.length (r3.1.1.2.1 : (List Int))) : Nat) : Int) then
        some (((r3.1.1.1, (List.set (r3.1.1.2.1 : (List Int)) (Int.toNat a0) (r2.1.1 : Int) : (List Int)), (r3.1.1.2.2.1 : (List Int)), (r3.1.1.2.2.2.1 : (List (den tPlace))), ()), (r2.1.1 : Int), 0, ()), [(0, [1])])
        else none
      else
        none
    else none := by kernel_rfl
def ways_Push.res : List Sh := [.d tWorld, .d (.int .i64), .d (.int .i64)]
@[reducible] def ways_Push.R : Type := dShL [.d tWorld, .d (.int .i64), .d (.int .i64)] × Fresh
def ways_Push (n : Nat) (a0 : (den tWorld)) (a1 : Int) (a2 : Int) (a3 : Int) : Option ways_Push.R := gc n 11 [.dat tWorld a0 [], .dat (.int .i64) a1 [], .dat (.int .i64) a2 [], .dat (.int .i64) a3 []] [.d tWorld, .d (.int .i64), .d (.int .i64)]
theorem ways_Push.eq (n : Nat) (a0 : (den tWorld)) (a1 : Int) (a2 : Int) (a3 : Int) : ways_Push (n + 1) a0 a1 a2 a3 =
  Option.bind (ways_going_v1 n a0 a3 a2 a0 a1) fun r1 =>
  Option.bind (ways_going_1_v1 n a2 (r1.1.1.1.1 : Int) r1.1.1.1.2.1 (r1.1.1.1.2.2.1 : Int) r1.1.1.2.1 (r1.1.1.2.2.1 : Int)) fun r2 =>
  some ((r2.1.1, (r2.1.2.1 : Int), (r2.1.2.2.1 : Int), ()), []) := by kernel_rfl
def innkeepref03_Ints.res : List Sh := [.d .bool]
@[reducible] def innkeepref03_Ints.R : Type := dShL [.d .bool] × Fresh
def innkeepref03_Ints (n : Nat) (a0 : (List Int)) (a1 : (List Int)) : Option innkeepref03_Ints.R := gc n 17 [.dat (.sl (.int .i64)) a0 [], .dat (.sl (.int .i64)) a1 []] [.d .bool]
def innkeepref03_Ints.l0 (n m0 : Nat) (t0 : (List Int)) (t1 : (List Int)) (t4 : Bool) (t5 : Int) : Option innkeepref03_Ints.R :=
  loopN (fun Kn K s h => run (gc n) n innkeepref03_Ints.c9 Kn K s h) m0 (kBlk 0 (kSeq (run (gc n) n) innkeepref03_Ints.c7 (retK innkeepref03_Ints.fn innkeepref03_Ints.res) (retK innkeepref03_Ints.fn innkeepref03_Ints.res)) (retK innkeepref03_Ints.fn innkeepref03_Ints.res))
    [(0, .dat (.sl (.int .i64)) t0 []), (1, .dat (.sl (.int .i64)) t1 []), (4, .dat .bool t4 []), (5, .dat (.int .i64) t5 [])]
    []
theorem innkeepref03_Ints.l0_eq (n m0 : Nat) (t0 : (List Int)) (t1 : (List Int)) (t4 : Bool) (t5 : Int) : innkeepref03_Ints.l0 n (m0 + 1) t0 t1 t4 t5 =
  bif (decide (t5 < ((List.length t0) : Int))) then
    if (0 : Int) ≤ t5 ∧ t5 < (((List.length t0) : Nat) : Int) then
    if (0 : Int) ≤ t5 ∧ t5 < (((List.length t1) : Nat) : Int) then
    bif (!(decide ((List.getD t0 (Int.toNat t5) (0 : Int) : Int) = (List.getD t1 (Int.toNat t5) (0 : Int) : Int)))) then
      some ((false, ()), [])
    else
      innkeepref03_Ints.l0 n m0 t0 t1 t4 (IntKind.wrap .i64 (t5 + 1))
    else none
    else none
  else
    some ((true, ()), []) := by kernel_rfl
theorem innkeepref03_Ints.eq (n : Nat) (a0 : (List Int)) (a1 : (List Int)) : innkeepref03_Ints (n + 1) a0 a1 =
  bif (!(decide (((List.length a0) : Int) = ((List.length a1) : Int)))) then
    some ((false, ()), [])
  else
    innkeepref03_Ints.l0 n n a0 a1 false 0 := by kernel_rfl
def innkeeplaw08_awake.res : List Sh := [.d .bool]
@[reducible] def innkeeplaw08_awake.R : Type := dShL [.d .bool] × Fresh
def innkeeplaw08_awake (n : Nat) : Option innkeeplaw08_awake.R := gc n 7 [] [.d .bool]
theorem innkeeplaw08_awake.eq (n : Nat) : innkeeplaw08_awake (n + 1) =
  Option.bind (innkeepref06_New n (([([1, (-1), (-1), (-1)] : List Int), ([(-1), (-1), 0, 1] : List Int)] : List (List Int)), ([0, 0, 1] : List Int), ([5, 5, 5] : List Int), ([] : List Int), ([] : List Bool), 0, 0, 0, ())) fun r1 =>
  Option.bind (ways_Move n r1.1.1 0 0) fun r2 =>
  Option.bind (ways_Move n r1.1.1 0 1) fun r3 =>
  Option.bind (ways_Push n r1.1.1 0 1 0) fun r4 =>
  Option.bind (ways_Push n r1.1.1 0 2 0) fun r5 =>
  Option.bind (ways_Push n r1.1.1 0 0 0) fun r6 =>
  Option.bind (ways_Push n r1.1.1 0 3 0) fun r7 =>
  Option.bind (ways_Exit n r1.1.1 1 3) fun r8 =>
  Option.bind (ways_Exit n r1.1.1 0 3) fun r9 =>
  Option.bind (innkeepref03_Ints n (r2.1.1.2.1 : (List Int)) ([1, 0, 1] : List Int)) fun r10 =>
  bif (r10.1.1 : Bool) then
    bif (decide ((r2.1.2.1 : Int) = 1)) then
      bif (decide ((r2.1.2.2.1 : Int) = 0)) then
        bif (decide ((r3.1.2.2.1 : Int) = 4)) then
          Option.bind (innkeepref03_Ints n (r4.1.1.2.1 : (List Int)) ([0, 1, 1] : List Int)) fun r11 =>
          bif (r11.1.1 : Bool) then
            bif (decide ((r4.1.2.1 : Int) = 1)) then
              bif (decide ((r4.1.2.2.1 : Int) = 0)) then
                bif (decide ((r5.1.2.2.1 : Int) = 5)) then
                  bif (decide ((r6.1.2.2.1 : Int) = 12)) then
                    bif (decide ((r7.1.2.2.1 : Int) = 3)) then
                      bif (decide ((r8.1.1 : Int) = 1)) then
                        bif (r8.1.2.1 : Bool) then
                          some (((!(r9.1.2.1 : Bool)), ()), [])
                        else
                          some ((false, ()), [])
                      else
                        some ((false, ()), [])
                    else
                      some ((false, ()), [])
                  else
                    some ((false, ()), [])
                else
                  some ((false, ()), [])
              else
                some ((false, ()), [])
            else
              some ((false, ()), [])
          else
            some ((false, ()), [])
        else
          some ((false, ()), [])
      else
        some ((false, ()), [])
    else
      some ((false, ()), [])
  else
    some ((false, ()), []) := by kernel_rfl
def innkeepref06_Few.res : List Sh := [.d .bool]
@[reducible] def innkeepref06_Few.R : Type := dShL [.d .bool] × Fresh
def innkeepref06_Few (n : Nat) (a0 : (den tWorld)) : Option innkeepref06_Few.R := gc n 19 [.dat tWorld a0 []] [.d .bool]
theorem innkeepref06_Few.eq (n : Nat) (a0 : (den tWorld)) : innkeepref06_Few (n + 1) a0 =
  bif (decide (((List.length (a0.1.1 : (List (List Int)))) : Int) ≤ 20)) then
    bif (decide (((List.length (a0.1.2.1 : (List Int))) : Int) ≤ 20)) then
      bif (decide (((List.length (a0.1.2.2.1 : (List Int))) : Int) ≤ 20)) then
        bif (decide (((List.length (a0.1.2.2.2.1 : (List Int))) : Int) ≤ 40)) then
          bif (decide (((List.length (a0.1.2.2.2.2.1 : (List Bool))) : Int) ≤ 40)) then
            bif (decide (((List.length (a0.2.1 : (List Int))) : Int) ≤ 40)) then
              bif (decide (((List.length (a0.2.2.1 : (List Int))) : Int) ≤ 40)) then
                some (((decide (((List.length (a0.2.2.2.1 : (List (den tPlace)))) : Int) ≤ 40)), ()), [])
              else
                some ((false, ()), [])
            else
              some ((false, ()), [])
          else
            some ((false, ()), [])
        else
          some ((false, ()), [])
      else
        some ((false, ()), [])
    else
      some ((false, ()), [])
  else
    some ((false, ()), []) := by kernel_rfl
def innkeepref06_in.res : List Sh := [.d .bool]
@[reducible] def innkeepref06_in.R : Type := dShL [.d .bool] × Fresh
def innkeepref06_in (n : Nat) (a0 : Int) (a1 : Int) : Option innkeepref06_in.R := gc n 25 [.dat (.int .i64) a0 [], .dat (.int .i64) a1 []] [.d .bool]
theorem innkeepref06_in.eq (n : Nat) (a0 : Int) (a1 : Int) : innkeepref06_in (n + 1) a0 a1 =
  bif (decide (0 ≤ a0)) then
    some (((decide (a0 < a1)), ()), [])
  else
    some ((false, ()), []) := by kernel_rfl
def innkeepref01_Is.res : List Sh := [.d .bool]
@[reducible] def innkeepref01_Is.R : Type := dShL [.d .bool] × Fresh
def innkeepref01_Is (n : Nat) (a0 : Int) : Option innkeepref01_Is.R := gc n 26 [.dat (.int .i64) a0 []] [.d .bool]
theorem innkeepref01_Is.eq (n : Nat) (a0 : Int) : innkeepref01_Is (n + 1) a0 =
  bif (decide (0 ≤ a0)) then
    some (((decide (a0 ≤ 1073741824)), ()), [])
  else
    some ((false, ()), []) := by kernel_rfl
def innkeepref06_May.res : List Sh := [.d .bool]
@[reducible] def innkeepref06_May.R : Type := dShL [.d .bool] × Fresh
def innkeepref06_May (n : Nat) (a0 : (den tDesc)) : Option innkeepref06_May.R := gc n 24 [.dat tDesc a0 []] [.d .bool]
def innkeepref06_May.l0 (n m0 : Nat) (t0 : (den tDesc)) (t2 : Bool) (t3 : Int) (t4 : Int) (o0 : (den tDesc)) : Option innkeepref06_May.R :=
  loopN (fun Kn K s h => run (gc n) n innkeepref06_May.c17 Kn K s h) m0 (kBlk 0 (kSeq (run (gc n) n) innkeepref06_May.c15 (retK innkeepref06_May.fn innkeepref06_May.res) (retK innkeepref06_May.fn innkeepref06_May.res)) (retK innkeepref06_May.fn innkeepref06_May.res))
    [(0, .dat tDesc t0 []), (1, .ptr 0 []), (2, .dat .bool t2 []), (3, .dat (.int .i64) t3 []), (4, .dat (.int .i64) t4 [])]
    [.box tDesc o0 []]
def innkeepref06_May.l1 (n m0 m1 : Nat) (t0_1 : (den tDesc)) (t2_1 : Bool) (t3_1 : Int) (t4_1 : Int) (t5_1 : Int) (o0_1 : (den tDesc)) : Option innkeepref06_May.R :=
  loopN (fun Kn K s h => run (gc n) n innkeepref06_May.c26 Kn K s h) m1 (kBlk 2 (kSeq (run (gc n) n) innkeepref06_May.c24 (kSeq (run (gc n) n) innkeepref06_May.c23 (kSeq (run (gc n) n) innkeepref06_May.c18 (fun _ s h => loopN (fun Kn K s h => run (gc n) n innkeepref06_May.c17 Kn K s h) m0 (kBlk 0 (kSeq (run (gc n) n) innkeepref06_May.c15 (retK innkeepref06_May.fn innkeepref06_May.res) (retK innkeepref06_May.fn innkeepref06_May.res)) (retK innkeepref06_May.fn innkeepref06_May.res)) s h) (kBlk 0 (kSeq (run (gc n) n) innkeepref06_May.c15 (retK innkeepref06_May.fn innkeepref06_May.res) (retK innkeepref06_May.fn innkeepref06_May.res)) (retK innkeepref06_May.fn innkeepref06_May.res))) (kBlk 0 (kSeq (run (gc n) n) innkeepref06_May.c15 (retK innkeepref06_May.fn innkeepref06_May.res) (retK innkeepref06_May.fn innkeepref06_May.res)) (retK innkeepref06_May.fn innkeepref06_May.res))) (kBlk 1 (kSeq (run (gc n) n) innkeepref06_May.c23 (kSeq (run (gc n) n) innkeepref06_May.c18 (fun _ s h => loopN (fun Kn K s h => run (gc n) n innkeepref06_May.c17 Kn K s h) m0 (kBlk 0 (kSeq (run (gc n) n) innkeepref06_May.c15 (retK innkeepref06_May.fn innkeepref06_May.res) (retK innkeepref06_May.fn innkeepref06_May.res)) (retK innkeepref06_May.fn innkeepref06_May.res)) s h) (kBlk 0 (kSeq (run (gc n) n) innkeepref06_May.c15 (retK innkeepref06_May.fn innkeepref06_May.res) (retK innkeepref06_May.fn innkeepref06_May.res)) (retK innkeepref06_May.fn innkeepref06_May.res))) (kBlk 0 (kSeq (run (gc n) n) innkeepref06_May.c15 (retK innkeepref06_May.fn innkeepref06_May.res) (retK innkeepref06_May.fn innkeepref06_May.res)) (retK innkeepref06_May.fn innkeepref06_May.res))) (kBlk 0 (kSeq (run (gc n) n) innkeepref06_May.c15 (retK innkeepref06_May.fn innkeepref06_May.res) (retK innkeepref06_May.fn innkeepref06_May.res)) (retK innkeepref06_May.fn innkeepref06_May.res)))) (kBlk 1 (kSeq (run (gc n) n) innkeepref06_May.c23 (kSeq (run (gc n) n) innkeepref06_May.c18 (fun _ s h => loopN (fun Kn K s h => run (gc n) n innkeepref06_May.c17 Kn K s h) m0 (kBlk 0 (kSeq (run (gc n) n) innkeepref06_May.c15 (retK innkeepref06_May.fn innkeepref06_May.res) (retK innkeepref06_May.fn innkeepref06_May.res)) (retK innkeepref06_May.fn innkeepref06_May.res)) s h) (kBlk 0 (kSeq (run (gc n) n) innkeepref06_May.c15 (retK innkeepref06_May.fn innkeepref06_May.res) (retK innkeepref06_May.fn innkeepref06_May.res)) (retK innkeepref06_May.fn innkeepref06_May.res))) (kBlk 0 (kSeq (run (gc n) n) innkeepref06_May.c15 (retK innkeepref06_May.fn innkeepref06_May.res) (retK innkeepref06_May.fn innkeepref06_May.res)) (retK innkeepref06_May.fn innkeepref06_May.res))) (kBlk 0 (kSeq (run (gc n) n) innkeepref06_May.c15 (retK innkeepref06_May.fn innkeepref06_May.res) (retK innkeepref06_May.fn innkeepref06_May.res)) (retK innkeepref06_May.fn innkeepref06_May.res))))
    [(0, .dat tDesc t0_1 []), (1, .ptr 0 []), (2, .dat .bool t2_1 []), (3, .dat (.int .i64) t3_1 []), (4, .dat (.int .i64) t4_1 []), (5, .dat (.int .i64) t5_1 [])]
    [.box tDesc o0_1 []]
def innkeepref06_May.l2 (n m0 m1 : Nat) (t0_2 : (den tDesc)) (t2_2 : Bool) (t3_2 : Int) (t4_2 : Int) (t5_2 : Int) (t6_2 : Int) (t7_2 : Int) (o0_2 : (den tDesc)) : Option innkeepref06_May.R :=
  loopN (fun Kn K s h => run (gc n) n innkeepref06_May.c43 Kn K s h) m1 (kBlk 4 (kSeq (run (gc n) n) innkeepref06_May.c41 (kSeq (run (gc n) n) innkeepref06_May.c23 (kSeq (run (gc n) n) innkeepref06_May.c18 (fun _ s h => loopN (fun Kn K s h => run (gc n) n innkeepref06_May.c17 Kn K s h) m0 (kBlk 0 (kSeq (run (gc n) n) innkeepref06_May.c15 (retK innkeepref06_May.fn innkeepref06_May.res) (retK innkeepref06_May.fn innkeepref06_May.res)) (retK innkeepref06_May.fn innkeepref06_May.res)) s h) (kBlk 0 (kSeq (run (gc n) n) innkeepref06_May.c15 (retK innkeepref06_May.fn innkeepref06_May.res) (retK innkeepref06_May.fn innkeepref06_May.res)) (retK innkeepref06_May.fn innkeepref06_May.res))) (kBlk 0 (kSeq (run (gc n) n) innkeepref06_May.c15 (retK innkeepref06_May.fn innkeepref06_May.res) (retK innkeepref06_May.fn innkeepref06_May.res)) (retK innkeepref06_May.fn innkeepref06_May.res))) (kBlk 1 (kSeq (run (gc n) n) innkeepref06_May.c23 (kSeq (run (gc n) n) innkeepref06_May.c18 (fun _ s h => loopN (fun Kn K s h => run (gc n) n innkeepref06_May.c17 Kn K s h) m0 (kBlk 0 (kSeq (run (gc n) n) innkeepref06_May.c15 (retK innkeepref06_May.fn innkeepref06_May.res) (retK innkeepref06_May.fn innkeepref06_May.res)) (retK innkeepref06_May.fn innkeepref06_May.res)) s h) (kBlk 0 (kSeq (run (gc n) n) innkeepref06_May.c15 (retK innkeepref06_May.fn innkeepref06_May.res) (retK innkeepref06_May.fn innkeepref06_May.res)) (retK innkeepref06_May.fn innkeepref06_May.res))) (kBlk 0 (kSeq (run (gc n) n) innkeepref06_May.c15 (retK innkeepref06_May.fn innkeepref06_May.res) (retK innkeepref06_May.fn innkeepref06_May.res)) (retK innkeepref06_May.fn innkeepref06_May.res))) (kBlk 0 (kSeq (run (gc n) n) innkeepref06_May.c15 (retK innkeepref06_May.fn innkeepref06_May.res) (retK innkeepref06_May.fn innkeepref06_May.res)) (retK innkeepref06_May.fn innkeepref06_May.res)))) (kBlk 1 (kSeq (run (gc n) n) innkeepref06_May.c23 (kSeq (run (gc n) n) innkeepref06_May.c18 (fun _ s h => loopN (fun Kn K s h => run (gc n) n innkeepref06_May.c17 Kn K s h) m0 (kBlk 0 (kSeq (run (gc n) n) innkeepref06_May.c15 (retK innkeepref06_May.fn innkeepref06_May.res) (retK innkeepref06_May.fn innkeepref06_May.res)) (retK innkeepref06_May.fn innkeepref06_May.res)) s h) (kBlk 0 (kSeq (run (gc n) n) innkeepref06_May.c15 (retK innkeepref06_May.fn innkeepref06_May.res) (retK innkeepref06_May.fn innkeepref06_May.res)) (retK innkeepref06_May.fn innkeepref06_May.res))) (kBlk 0 (kSeq (run (gc n) n) innkeepref06_May.c15 (retK innkeepref06_May.fn innkeepref06_May.res) (retK innkeepref06_May.fn innkeepref06_May.res)) (retK innkeepref06_May.fn innkeepref06_May.res))) (kBlk 0 (kSeq (run (gc n) n) innkeepref06_May.c15 (retK innkeepref06_May.fn innkeepref06_May.res) (retK innkeepref06_May.fn innkeepref06_May.res)) (retK innkeepref06_May.fn innkeepref06_May.res))))
    [(0, .dat tDesc t0_2 []), (1, .ptr 0 []), (2, .dat .bool t2_2 []), (3, .dat (.int .i64) t3_2 []), (4, .dat (.int .i64) t4_2 []), (5, .dat (.int .i64) t5_2 []), (6, .dat (.int .i64) t6_2 []), (7, .dat (.int .i64) t7_2 [])]
    [.box tDesc o0_2 []]
def innkeepref06_May.l3 (n m0 : Nat) (t0_3 : (den tDesc)) (t2_3 : Bool) (t3_3 : Int) (t4_3 : Int) (t8_3 : Int) (o0_3 : (den tDesc)) : Option innkeepref06_May.R :=
  loopN (fun Kn K s h => run (gc n) n innkeepref06_May.c66 Kn K s h) m0 (kBlk 6 (kSeq (run (gc n) n) innkeepref06_May.c64 (retK innkeepref06_May.fn innkeepref06_May.res) (retK innkeepref06_May.fn innkeepref06_May.res)) (retK innkeepref06_May.fn innkeepref06_May.res))
    [(0, .dat tDesc t0_3 []), (1, .ptr 0 []), (2, .dat .bool t2_3 []), (3, .dat (.int .i64) t3_3 []), (4, .dat (.int .i64) t4_3 []), (8, .dat (.int .i64) t8_3 [])]
    [.box tDesc o0_3 []]
def innkeepref06_May.l4 (n m0 : Nat) (t0_4 : (den tDesc)) (t2_4 : Bool) (t3_4 : Int) (t4_4 : Int) (t8_4 : Int) (t9_4 : Int) (o0_4 : (den tDesc)) : Option innkeepref06_May.R :=
  loopN (fun Kn K s h => run (gc n) n innkeepref06_May.c82 Kn K s h) m0 (kBlk 8 (kSeq (run (gc n) n) innkeepref06_May.c80 (retK innkeepref06_May.fn innkeepref06_May.res) (retK innkeepref06_May.fn innkeepref06_May.res)) (retK innkeepref06_May.fn innkeepref06_May.res))
    [(0, .dat tDesc t0_4 []), (1, .ptr 0 []), (2, .dat .bool t2_4 []), (3, .dat (.int .i64) t3_4 []), (4, .dat (.int .i64) t4_4 []), (8, .dat (.int .i64) t8_4 []), (9, .dat (.int .i64) t9_4 [])]
    [.box tDesc o0_4 []]
theorem innkeepref06_May.l0_eq (n m0 : Nat) (t0 : (den tDesc)) (t2 : Bool) (t3 : Int) (t4 : Int) (o0 : (den tDesc)) : innkeepref06_May.l0 n (m0 + 1) t0 t2 t3 t4 o0 =
  bif (decide (t4 < t3)) then
    innkeepref06_May.l1 n m0 n t0 t2 t3 t4 0 o0
  else
    innkeepref06_May.l3 n n t0 t2 t3 t4 0 o0 := by kernel_rfl
theorem innkeepref06_May.l1_eq (n m0 m1 : Nat) (t0_1 : (den tDesc)) (t2_1 : Bool) (t3_1 : Int) (t4_1 : Int) (t5_1 : Int) (o0_1 : (den tDesc)) : innkeepref06_May.l1 n m0 (m1 + 1) t0_1 t2_1 t3_1 t4_1 t5_1 o0_1 =
  bif (decide (t5_1 < 4)) then
    if (0 : Int) ≤ t4_1 ∧ t4_1 < (((List.length (o0_1.1 : (List (List Int)))) : Nat) : Int) then
    if (0 : Int) ≤ t5_1 ∧ t5_1 < ((4 : Nat) : Int) then
    bif (!(decide ((List.getD (List.getD (o0_1.1 : (List (List Int))) (Int.toNat t4_1) (dft (.arr 4 (.int .i64))) : (List Int)) (Int.toNat t5_1) (0 : Int) : Int) = (-1)))) then
      if (0 : Int) ≤ t4_1 ∧ t4_1 < (((List.length (o0_1.1 : (List (List Int)))) : Nat) : Int) then
      if (0 : Int) ≤ t5_1 ∧ t5_1 < ((4 : Nat) : Int) then
      Option.bind (innkeepref06_in n (List.getD (List.getD (o0_1.1 : (List (List Int))) (Int.toNat t4_1) (dft (.arr 4 (.int .i64))) : (List Int)) (Int.toNat t5_1) (0 : Int) : Int) t3_1) fun r4 =>
      bif (!(r4.1.1 : Bool)) then
        some ((false, ()), [])
      else
        innkeepref06_May.l1 n m0 m1 t0_1 t2_1 t3_1 t4_1 (IntKind.wrap .i64 (t5_1 + 1)) o0_1
      else none
      else none
    else
      innkeepref06_May.l1 n m0 m1 t0_1 t2_1 t3_1 t4_1 (IntKind.wrap .i64 (t5_1 + 1)) o0_1
    else none
    else none
  else
    innkeepref06_May.l2 n m0 n t0_1 t2_1 t3_1 t4_1 t5_1 0 0 o0_1 := by kernel_rfl
theorem innkeepref06_May.l2_eq (n m0 m1 : Nat) (t0_2 : (den tDesc)) (t2_2 : Bool) (t3_2 : Int) (t4_2 : Int) (t5_2 : Int) (t6_2 : Int) (t7_2 : Int) (o0_2 : (den tDesc)) : innkeepref06_May.l2 n m0 (m1 + 1) t0_2 t2_2 t3_2 t4_2 t5_2 t6_2 t7_2 o0_2 =
  bif (decide (t7_2 < ((List.length (o0_2.2.2.2.1 : (List Int))) : Int))) then
    if (0 : Int) ≤ t7_2 ∧ t7_2 < (((List.length (o0_2.2.2.2.1 : (List Int))) : Nat) : Int) then
    bif (decide ((List.getD (o0_2.2.2.2.1 : (List Int)) (Int.toNat t7_2) (0 : Int) : Int) = t4_2)) then
      innkeepref06_May.l2 n m0 m1 t0_2 t2_2 t3_2 t4_2 t5_2 (IntKind.wrap .i64 (t6_2 + 1)) (IntKind.wrap .i64 (t7_2 + 1)) o0_2
    else
      innkeepref06_May.l2 n m0 m1 t0_2 t2_2 t3_2 t4_2 t5_2 t6_2 (IntKind.wrap .i64 (t7_2 + 1)) o0_2
    else none
  else
    bif (decide ((o0_2.2.2.2.2.2.1 : Int) < t6_2)) then
      some ((false, ()), [])
    else
      innkeepref06_May.l0 n m0 t0_2 t2_2 t3_2 (IntKind.wrap .i64 (t4_2 + 1)) o0_2 := by kernel_rfl
theorem innkeepref06_May.l3_eq (n m0 : Nat) (t0_3 : (den tDesc)) (t2_3 : Bool) (t3_3 : Int) (t4_3 : Int) (t8_3 : Int) (o0_3 : (den tDesc)) : innkeepref06_May.l3 n (m0 + 1) t0_3 t2_3 t3_3 t4_3 t8_3 o0_3 =
  bif (decide (t8_3 < ((List.length (o0_3.2.1 : (List Int))) : Int))) then
    if (0 : Int) ≤ t8_3 ∧ t8_3 < (((List.length (o0_3.2.1 : (List Int))) : Nat) : Int) then
    Option.bind (innkeepref06_in n (List.getD (o0_3.2.1 : (List Int)) (Int.toNat t8_3) (0 : Int) : Int) t3_3) fun r5 =>
    bif (!(r5.1.1 : Bool)) then
      some ((false, ()), [])
    else
      if (0 : Int) ≤ t8_3 ∧ t8_3 < (((List.length (o0_3.2.2.1 : (List Int))) : Nat) : Int) then
      Option.bind (innkeepref01_Is n (List.getD (o0_3.2.2.1 : (List Int)) (Int.toNat t8_3) (0 : Int) : Int)) fun r6 =>
      bif (!(r6.1.1 : Bool)) then
        some ((false, ()), [])
      else
        innkeepref06_May.l3 n m0 t0_3 t2_3 t3_3 t4_3 (IntKind.wrap .i64 (t8_3 + 1)) o0_3
      else none
    else none
  else
    innkeepref06_May.l4 n n t0_3 t2_3 t3_3 t4_3 t8_3 0 o0_3 := by kernel_rfl
theorem innkeepref06_May.l4_eq (n m0 : Nat) (t0_4 : (den tDesc)) (t2_4 : Bool) (t3_4 : Int) (t4_4 : Int) (t8_4 : Int) (t9_4 : Int) (o0_4 : (den tDesc)) : innkeepref06_May.l4 n (m0 + 1) t0_4 t2_4 t3_4 t4_4 t8_4 t9_4 o0_4 =
  bif (decide (t9_4 < ((List.length (o0_4.2.2.2.1 : (List Int))) : Int))) then
    if (0 : Int) ≤ t9_4 ∧ t9_4 < (((List.length (o0_4.2.2.2.1 : (List Int))) : Nat) : Int) then
    Option.bind (innkeepref06_in n (List.getD (o0_4.2.2.2.1 : (List Int)) (Int.toNat t9_4) (0 : Int) : Int) t3_4) fun r7 =>
    bif (!(r7.1.1 : Bool)) then
      some ((false, ()), [])
    else
      innkeepref06_May.l4 n m0 t0_4 t2_4 t3_4 t4_4 t8_4 (IntKind.wrap .i64 (t9_4 + 1)) o0_4
    else none
  else
    some ((true, ()), []) := by kernel_rfl
theorem innkeepref06_May.eq (n : Nat) (a0 : (den tDesc)) : innkeepref06_May (n + 1) a0 =
  bif (decide (((List.length (a0.1 : (List (List Int)))) : Int) < 1)) then
    some ((false, ()), [])
  else
    bif (decide (8 < ((List.length (a0.1 : (List (List Int)))) : Int))) then
      some ((false, ()), [])
    else
      bif (decide (((List.length (a0.2.1 : (List Int))) : Int) < 1)) then
        some ((false, ()), [])
      else
        bif (decide (6 < ((List.length (a0.2.1 : (List Int))) : Int))) then
          some ((false, ()), [])
        else
          bif (!(decide (((List.length (a0.2.2.1 : (List Int))) : Int) = ((List.length (a0.2.1 : (List Int))) : Int)))) then
            some ((false, ()), [])
          else
            bif (decide (16 < ((List.length (a0.2.2.2.1 : (List Int))) : Int))) then
              some ((false, ()), [])
            else
              bif (!(decide (((List.length (a0.2.2.2.2.1 : (List Bool))) : Int) = ((List.length (a0.2.2.2.1 : (List Int))) : Int)))) then
                some ((false, ()), [])
              else
                Option.bind (innkeepref06_in n (a0.2.2.2.2.2.1 : Int) 65) fun r1 =>
                bif (!(r1.1.1 : Bool)) then
                  some ((false, ()), [])
                else
                  Option.bind (innkeepref06_in n (a0.2.2.2.2.2.2.1 : Int) 65) fun r2 =>
                  bif (!(r2.1.1 : Bool)) then
                    some ((false, ()), [])
                  else
                    Option.bind (innkeepref06_in n (a0.2.2.2.2.2.2.2.1 : Int) 65) fun r3 =>
                    bif (!(r3.1.1 : Bool)) then
                      some ((false, ()), [])
                    else
                      innkeepref06_May.l0 n n a0 false ((List.length (a0.1 : (List (List Int)))) : Int) 0 a0 := by kernel_rfl
def innkeepref06_Depth.res : List Sh := [.d (.int .i64)]
@[reducible] def innkeepref06_Depth.R : Type := dShL [.d (.int .i64)] × Fresh
def innkeepref06_Depth (n : Nat) (a0 : (den tWorld)) (a1 : (den tPlace)) : Option innkeepref06_Depth.R := gc n 27 [.dat tWorld a0 [], .dat tPlace a1 []] [.d (.int .i64)]
def innkeepref06_Depth.l0 (n m0 : Nat) (t0 : (den tWorld)) (t1 : (den tPlace)) (t4 : Int) (t5 : Int) (o0 : (den tWorld)) (o1 : (den tPlace)) : Option innkeepref06_Depth.R :=
  loopN (fun Kn K s h => run (gc n) n innkeepref06_Depth.c3 Kn K s h) m0 (kBlk 0 (kSeq (run (gc n) n) innkeepref06_Depth.c2 (retK innkeepref06_Depth.fn innkeepref06_Depth.res) (retK innkeepref06_Depth.fn innkeepref06_Depth.res)) (retK innkeepref06_Depth.fn innkeepref06_Depth.res))
    [(0, .dat tWorld t0 []), (1, .dat tPlace t1 []), (2, .ptr 0 []), (3, .ptr 1 []), (4, .dat (.int .i64) t4 []), (5, .dat (.int .i64) t5 [])]
    [.box tWorld o0 [], .box tPlace o1 []]
theorem innkeepref06_Depth.l0_eq (n m0 : Nat) (t0 : (den tWorld)) (t1 : (den tPlace)) (t4 : Int) (t5 : Int) (o0 : (den tWorld)) (o1 : (den tPlace)) : innkeepref06_Depth.l0 n (m0 + 1) t0 t1 t4 t5 o0 o1 =
  bif (decide ((o1.1 : Int) = 2)) then
    bif (decide (50 < (IntKind.wrap .i64 (t5 + 1)))) then
      some ((99, ()), [])
    else
      if (0 : Int) ≤ (o1.2.1 : Int) ∧ (o1.2.1 : Int) < (((List.length (o0.2.2.2.1 : (List (den tPlace)))) : Nat) : Int) then
      innkeepref06_Depth.l0 n m0 t0 t1 t4 (IntKind.wrap .i64 (t5 + 1)) o0 (List.getD (o0.2.2.2.1 : (List (den tPlace))) (Int.toNat (o1.2.1 : Int)) (dft tPlace) : (den tPlace))
      else none
  else
    some ((t5, ()), []) := by kernel_rfl
theorem innkeepref06_Depth.eq (n : Nat) (a0 : (den tWorld)) (a1 : (den tPlace)) : innkeepref06_Depth (n + 1) a0 a1 =
  innkeepref06_Depth.l0 n n a0 a1 0 0 a0 a1 := by kernel_rfl
def innkeepref06_Many.res : List Sh := [.d (.int .i64)]
@[reducible] def innkeepref06_Many.R : Type := dShL [.d (.int .i64)] × Fresh
def innkeepref06_Many (n : Nat) (a0 : (den tWorld)) (a1 : (den tPlace)) : Option innkeepref06_Many.R := gc n 28 [.dat tWorld a0 [], .dat tPlace a1 []] [.d (.int .i64)]
def innkeepref06_Many.l0 (n m0 : Nat) (t0 : (den tWorld)) (t1 : (den tPlace)) (t4 : Int) (t5 : Int) (t6 : Int) (o0 : (den tWorld)) (o1 : (den tPlace)) : Option innkeepref06_Many.R :=
  loopN (fun Kn K s h => run (gc n) n innkeepref06_Many.c4 Kn K s h) m0 (kBlk 0 (kSeq (run (gc n) n) innkeepref06_Many.c2 (retK innkeepref06_Many.fn innkeepref06_Many.res) (retK innkeepref06_Many.fn innkeepref06_Many.res)) (retK innkeepref06_Many.fn innkeepref06_Many.res))
    [(0, .dat tWorld t0 []), (1, .dat tPlace t1 []), (2, .ptr 0 []), (3, .ptr 1 []), (4, .dat (.int .i64) t4 []), (5, .dat (.int .i64) t5 []), (6, .dat (.int .i64) t6 [])]
    [.box tWorld o0 [], .box tPlace o1 []]
theorem innkeepref06_Many.l0_eq (n m0 : Nat) (t0 : (den tWorld)) (t1 : (den tPlace)) (t4 : Int) (t5 : Int) (t6 : Int) (o0 : (den tWorld)) (o1 : (den tPlace)) : innkeepref06_Many.l0 n (m0 + 1) t0 t1 t4 t5 t6 o0 o1 =
  bif (decide (t6 < ((List.length (o0.2.2.2.1 : (List (den tPlace)))) : Int))) then
    if (0 : Int) ≤ t6 ∧ t6 < (((List.length (o0.2.2.2.1 : (List (den tPlace)))) : Nat) : Int) then
    bif (eqT tPlace (List.getD (o0.2.2.2.1 : (List (den tPlace))) (Int.toNat t6) (dft tPlace) : (den tPlace)) o1) then
      innkeepref06_Many.l0 n m0 t0 t1 t4 (IntKind.wrap .i64 (t5 + 1)) (IntKind.wrap .i64 (t6 + 1)) o0 o1
    else
      innkeepref06_Many.l0 n m0 t0 t1 t4 t5 (IntKind.wrap .i64 (t6 + 1)) o0 o1
    else none
  else
    some ((t5, ()), []) := by kernel_rfl
theorem innkeepref06_Many.eq (n : Nat) (a0 : (den tWorld)) (a1 : (den tPlace)) : innkeepref06_Many (n + 1) a0 a1 =
  innkeepref06_Many.l0 n n a0 a1 0 0 0 a0 a1 := by kernel_rfl
def innkeepref06_Cap.res : List Sh := [.d (.int .i64)]
@[reducible] def innkeepref06_Cap.R : Type := dShL [.d (.int .i64)] × Fresh
def innkeepref06_Cap (n : Nat) (a0 : (den tWorld)) (a1 : (den tPlace)) : Option innkeepref06_Cap.R := gc n 29 [.dat tWorld a0 [], .dat tPlace a1 []] [.d (.int .i64)]
theorem innkeepref06_Cap.eq (n : Nat) (a0 : (den tWorld)) (a1 : (den tPlace)) : innkeepref06_Cap (n + 1) a0 a1 =
  if (0 : Int) ≤ (a1.1 : Int) ∧ (a1.1 : Int) < ((3 : Nat) : Int) then
  some (((List.getD ([(a0.1.2.2.2.2.2.1 : Int), (a0.1.2.2.2.2.2.2.1 : Int), (a0.1.2.2.2.2.2.2.2.1 : Int)] : List Int) (Int.toNat (a1.1 : Int)) (0 : Int) : Int), ()), [])
  else none := by kernel_rfl
def innkeepref06_Right.res : List Sh := [.d .bool]
@[reducible] def innkeepref06_Right.R : Type := dShL [.d .bool] × Fresh
def innkeepref06_Right (n : Nat) (a0 : (den tWorld)) : Option innkeepref06_Right.R := gc n 15 [.dat tWorld a0 []] [.d .bool]
def innkeepref06_Right.l0 (n m0 : Nat) (t0 : (den tWorld)) (t2 : Bool) (t4 : Int) (o0 : (den tWorld)) (o1 : (den tDesc)) : Option innkeepref06_Right.R :=
  loopN (fun Kn K s h => run (gc n) n innkeepref06_Right.c11 Kn K s h) m0 (kBlk 0 (kSeq (run (gc n) n) innkeepref06_Right.c9 (retK innkeepref06_Right.fn innkeepref06_Right.res) (retK innkeepref06_Right.fn innkeepref06_Right.res)) (retK innkeepref06_Right.fn innkeepref06_Right.res))
    [(0, .dat tWorld t0 []), (1, .ptr 0 []), (2, .dat .bool t2 []), (3, .ptr 1 []), (4, .dat (.int .i64) t4 [])]
    [.box tWorld o0 [], .box tDesc o1 []]
def innkeepref06_Right.l1 (n m0 : Nat) (t0_1 : (den tWorld)) (t2_1 : Bool) (t4_1 : Int) (t5_1 : Int) (o0_1 : (den tWorld)) (o1_1 : (den tDesc)) : Option innkeepref06_Right.R :=
  loopN (fun Kn K s h => run (gc n) n innkeepref06_Right.c27 Kn K s h) m0 (kBlk 2 (kSeq (run (gc n) n) innkeepref06_Right.c25 (retK innkeepref06_Right.fn innkeepref06_Right.res) (retK innkeepref06_Right.fn innkeepref06_Right.res)) (retK innkeepref06_Right.fn innkeepref06_Right.res))
    [(0, .dat tWorld t0_1 []), (1, .ptr 0 []), (2, .dat .bool t2_1 []), (3, .ptr 1 []), (4, .dat (.int .i64) t4_1 []), (5, .dat (.int .i64) t5_1 [])]
    [.box tWorld o0_1 [], .box tDesc o1_1 []]
def innkeepref06_Right.l2 (n m0 : Nat) (t0_2 : (den tWorld)) (t2_2 : Bool) (t4_2 : Int) (t5_2 : Int) (t8_2 : Int) (o0_2 : (den tWorld)) (o1_2 : (den tDesc)) : Option innkeepref06_Right.R :=
  loopN (fun Kn K s h => run (gc n) n innkeepref06_Right.c47 Kn K s h) m0 (kBlk 4 (kSeq (run (gc n) n) innkeepref06_Right.c45 (retK innkeepref06_Right.fn innkeepref06_Right.res) (retK innkeepref06_Right.fn innkeepref06_Right.res)) (retK innkeepref06_Right.fn innkeepref06_Right.res))
    [(0, .dat tWorld t0_2 []), (1, .ptr 0 []), (2, .dat .bool t2_2 []), (3, .ptr 1 []), (4, .dat (.int .i64) t4_2 []), (5, .dat (.int .i64) t5_2 []), (8, .dat (.int .i64) t8_2 [])]
    [.box tWorld o0_2 [], .box tDesc o1_2 []]
theorem innkeepref06_Right.l0_eq (n m0 : Nat) (t0 : (den tWorld)) (t2 : Bool) (t4 : Int) (o0 : (den tWorld)) (o1 : (den tDesc)) : innkeepref06_Right.l0 n (m0 + 1) t0 t2 t4 o0 o1 =
  bif (decide (t4 < ((List.length (o0.2.1 : (List Int))) : Int))) then
    if (0 : Int) ≤ t4 ∧ t4 < (((List.length (o0.2.1 : (List Int))) : Nat) : Int) then
    Option.bind (innkeepref06_in n (List.getD (o0.2.1 : (List Int)) (Int.toNat t4) (0 : Int) : Int) ((List.length (o1.1 : (List (List Int)))) : Int)) fun r2 =>
    bif (!(r2.1.1 : Bool)) then
      some ((false, ()), [])
    else
      if (0 : Int) ≤ t4 ∧ t4 < (((List.length (o0.2.2.1 : (List Int))) : Nat) : Int) then
      Option.bind (innkeepref01_Is n (List.getD (o0.2.2.1 : (List Int)) (Int.toNat t4) (0 : Int) : Int)) fun r3 =>
      bif (!(r3.1.1 : Bool)) then
        some ((false, ()), [])
      else
        innkeepref06_Right.l0 n m0 t0 t2 (IntKind.wrap .i64 (t4 + 1)) o0 o1
      else none
    else none
  else
    innkeepref06_Right.l1 n n t0 t2 t4 0 o0 o1 := by kernel_rfl
theorem innkeepref06_Right.l1_eq (n m0 : Nat) (t0_1 : (den tWorld)) (t2_1 : Bool) (t4_1 : Int) (t5_1 : Int) (o0_1 : (den tWorld)) (o1_1 : (den tDesc)) : innkeepref06_Right.l1 n (m0 + 1) t0_1 t2_1 t4_1 t5_1 o0_1 o1_1 =
  bif (decide (t5_1 < ((List.length (o0_1.2.2.2.1 : (List (den tPlace)))) : Int))) then
    if (0 : Int) ≤ t5_1 ∧ t5_1 < (((List.length (o0_1.2.2.2.1 : (List (den tPlace)))) : Nat) : Int) then
    bif (decide (((List.getD (o0_1.2.2.2.1 : (List (den tPlace))) (Int.toNat t5_1) (dft tPlace) : (den tPlace)).1 : Int) = 0)) then
      Option.bind (innkeepref06_in n ((List.getD (o0_1.2.2.2.1 : (List (den tPlace))) (Int.toNat t5_1) (dft tPlace) : (den tPlace)).2.1 : Int) ((List.length (o1_1.1 : (List (List Int)))) : Int)) fun r4 =>
      bif (r4.1.1 : Bool) then
        innkeepref06_Right.l1 n m0 t0_1 t2_1 t4_1 (IntKind.wrap .i64 (t5_1 + 1)) o0_1 o1_1
      else
        bif (decide (((List.getD (o0_1.2.2.2.1 : (List (den tPlace))) (Int.toNat t5_1) (dft tPlace) : (den tPlace)).1 : Int) = 1)) then
          Option.bind (innkeepref06_in n ((List.getD (o0_1.2.2.2.1 : (List (den tPlace))) (Int.toNat t5_1) (dft tPlace) : (den tPlace)).2.1 : Int) ((List.length (o1_1.2.1 : (List Int))) : Int)) fun r5 =>
          bif (r5.1.1 : Bool) then
            innkeepref06_Right.l1 n m0 t0_1 t2_1 t4_1 (IntKind.wrap .i64 (t5_1 + 1)) o0_1 o1_1
          else
            bif (decide (((List.getD (o0_1.2.2.2.1 : (List (den tPlace))) (Int.toNat t5_1) (dft tPlace) : (den tPlace)).1 : Int) = 2)) then
              Option.bind (innkeepref06_in n ((List.getD (o0_1.2.2.2.1 : (List (den tPlace))) (Int.toNat t5_1) (dft tPlace) : (den tPlace)).2.1 : Int) ((List.length (o1_1.2.2.2.1 : (List Int))) : Int)) fun r6 =>
              bif (r6.1.1 : Bool) then
                if (0 : Int) ≤ ((List.getD (o0_1.2.2.2.1 : (List (den tPlace))) (Int.toNat t5_1) (dft tPlace) : (den tPlace)).2.1 : Int) ∧ ((List.getD (o0_1.2.2.2.1 : (List (den tPlace))) (Int.toNat t5_1) (dft tPlace) : (den tPlace)).2.1 : Int) < (((List.length (o1_1.2.2.2.2.1 : (List Bool))) : Nat) : Int) then
                bif (!(List.getD (o1_1.2.2.2.2.1 : (List Bool)) (Int.toNat ((List.getD (o0_1.2.2.2.1 : (List (den tPlace))) (Int.toNat t5_1) (dft tPlace) : (den tPlace)).2.1 : Int)) false : Bool)) then
                  some ((false, ()), [])
                else
                  innkeepref06_Right.l1 n m0 t0_1 t2_1 t4_1 (IntKind.wrap .i64 (t5_1 + 1)) o0_1 o1_1
                else none
              else
                some ((false, ()), [])
            else
              some ((false, ()), [])
        else
          bif (decide (((List.getD (o0_1.2.2.2.1 : (List (den tPlace))) (Int.toNat t5_1) (dft tPlace) : (den tPlace)).1 : Int) = 2)) then
            Option.bind (innkeepref06_in n ((List.getD (o0_1.2.2.2.1 : (List (den tPlace))) (Int.toNat t5_1) (dft tPlace) : (den tPlace)).2.1 : Int) ((List.length (o1_1.2.2.2.1 : (List Int))) : Int)) fun r7 =>
            bif (r7.1.1 : Bool) then
              if (0 : Int) ≤ ((List.getD (o0_1.2.2.2.1 : (List (den tPlace))) (Int.toNat t5_1) (dft tPlace) : (den tPlace)).2.1 : Int) ∧ ((List.getD (o0_1.2.2.2.1 : (List (den tPlace))) (Int.toNat t5_1) (dft tPlace) : (den tPlace)).2.1 : Int) < (((List.length (o1_1.2.2.2.2.1 : (List Bool))) : Nat) : Int) then
              bif (!(List.getD (o1_1.2.2.2.2.1 : (List Bool)) (Int.toNat ((List.getD (o0_1.2.2.2.1 : (List (den tPlace))) (Int.toNat t5_1) (dft tPlace) : (den tPlace)).2.1 : Int)) false : Bool)) then
                some ((false, ()), [])
              else
                innkeepref06_Right.l1 n m0 t0_1 t2_1 t4_1 (IntKind.wrap .i64 (t5_1 + 1)) o0_1 o1_1
              else none
            else
              some ((false, ()), [])
          else
            some ((false, ()), [])
    else
      bif (decide (((List.getD (o0_1.2.2.2.1 : (List (den tPlace))) (Int.toNat t5_1) (dft tPlace) : (den tPlace)).1 : Int) = 1)) then
        Option.bind (innkeepref06_in n ((List.getD (o0_1.2.2.2.1 : (List (den tPlace))) (Int.toNat t5_1) (dft tPlace) : (den tPlace)).2.1 : Int) ((List.length (o1_1.2.1 : (List Int))) : Int)) fun r8 =>
        bif (r8.1.1 : Bool) then
          innkeepref06_Right.l1 n m0 t0_1 t2_1 t4_1 (IntKind.wrap .i64 (t5_1 + 1)) o0_1 o1_1
        else
          bif (decide (((List.getD (o0_1.2.2.2.1 : (List (den tPlace))) (Int.toNat t5_1) (dft tPlace) : (den tPlace)).1 : Int) = 2)) then
            Option.bind (innkeepref06_in n ((List.getD (o0_1.2.2.2.1 : (List (den tPlace))) (Int.toNat t5_1) (dft tPlace) : (den tPlace)).2.1 : Int) ((List.length (o1_1.2.2.2.1 : (List Int))) : Int)) fun r9 =>
            bif (r9.1.1 : Bool) then
              if (0 : Int) ≤ ((List.getD (o0_1.2.2.2.1 : (List (den tPlace))) (Int.toNat t5_1) (dft tPlace) : (den tPlace)).2.1 : Int) ∧ ((List.getD (o0_1.2.2.2.1 : (List (den tPlace))) (Int.toNat t5_1) (dft tPlace) : (den tPlace)).2.1 : Int) < (((List.length (o1_1.2.2.2.2.1 : (List Bool))) : Nat) : Int) then
              bif (!(List.getD (o1_1.2.2.2.2.1 : (List Bool)) (Int.toNat ((List.getD (o0_1.2.2.2.1 : (List (den tPlace))) (Int.toNat t5_1) (dft tPlace) : (den tPlace)).2.1 : Int)) false : Bool)) then
                some ((false, ()), [])
              else
                innkeepref06_Right.l1 n m0 t0_1 t2_1 t4_1 (IntKind.wrap .i64 (t5_1 + 1)) o0_1 o1_1
              else none
            else
              some ((false, ()), [])
          else
            some ((false, ()), [])
      else
        bif (decide (((List.getD (o0_1.2.2.2.1 : (List (den tPlace))) (Int.toNat t5_1) (dft tPlace) : (den tPlace)).1 : Int) = 2)) then
          Option.bind (innkeepref06_in n ((List.getD (o0_1.2.2.2.1 : (List (den tPlace))) (Int.toNat t5_1) (dft tPlace) : (den tPlace)).2.1 : Int) ((List.length (o1_1.2.2.2.1 : (List Int))) : Int)) fun r10 =>
          bif (r10.1.1 : Bool) then
            if (0 : Int) ≤ ((List.getD (o0_1.2.2.2.1 : (List (den tPlace))) (Int.toNat t5_1) (dft tPlace) : (den tPlace)).2.1 : Int) ∧ ((List.getD (o0_1.2.2.2.1 : (List (den tPlace))) (Int.toNat t5_1) (dft tPlace) : (den tPlace)).2.1 : Int) < (((List.length (o1_1.2.2.2.2.1 : (List Bool))) : Nat) : Int) then
            bif (!(List.getD (o1_1.2.2.2.2.1 : (List Bool)) (Int.toNat ((List.getD (o0_1.2.2.2.1 : (List (den tPlace))) (Int.toNat t5_1) (dft tPlace) : (den tPlace)).2.1 : Int)) false : Bool)) then
              some ((false, ()), [])
            else
              innkeepref06_Right.l1 n m0 t0_1 t2_1 t4_1 (IntKind.wrap .i64 (t5_1 + 1)) o0_1 o1_1
            else none
          else
            some ((false, ()), [])
        else
          some ((false, ()), [])
    else none
  else
    innkeepref06_Right.l2 n n t0_1 t2_1 t4_1 t5_1 0 o0_1 o1_1 := by kernel_rfl
theorem innkeepref06_Right.l2_eq (n m0 : Nat) (t0_2 : (den tWorld)) (t2_2 : Bool) (t4_2 : Int) (t5_2 : Int) (t8_2 : Int) (o0_2 : (den tWorld)) (o1_2 : (den tDesc)) : innkeepref06_Right.l2 n (m0 + 1) t0_2 t2_2 t4_2 t5_2 t8_2 o0_2 o1_2 =
  bif (decide (t8_2 < ((List.length (o0_2.2.2.2.1 : (List (den tPlace)))) : Int))) then
    if (0 : Int) ≤ t8_2 ∧ t8_2 < (((List.length (o0_2.2.2.2.1 : (List (den tPlace)))) : Nat) : Int) then
    Option.bind (innkeepref06_Depth n o0_2 (List.getD (o0_2.2.2.2.1 : (List (den tPlace))) (Int.toNat t8_2) (dft tPlace) : (den tPlace))) fun r11 =>
    bif (decide (4 < (r11.1.1 : Int))) then
      some ((false, ()), [])
    else
      if (0 : Int) ≤ t8_2 ∧ t8_2 < (((List.length (o0_2.2.2.2.1 : (List (den tPlace)))) : Nat) : Int) then
      Option.bind (innkeepref06_Many n o0_2 (List.getD (o0_2.2.2.2.1 : (List (den tPlace))) (Int.toNat t8_2) (dft tPlace) : (den tPlace))) fun r12 =>
      if (0 : Int) ≤ t8_2 ∧ t8_2 < (((List.length (o0_2.2.2.2.1 : (List (den tPlace)))) : Nat) : Int) then
      Option.bind (innkeepref06_Cap n o0_2 (List.getD (o0_2.2.2.2.1 : (List (den tPlace))) (Int.toNat t8_2) (dft tPlace) : (den tPlace))) fun r13 =>
      bif (decide ((r13.1.1 : Int) < (r12.1.1 : Int))) then
        some ((false, ()), [])
      else
        innkeepref06_Right.l2 n m0 t0_2 t2_2 t4_2 t5_2 (IntKind.wrap .i64 (t8_2 + 1)) o0_2 o1_2
      else none
      else none
    else none
  else
    some ((true, ()), []) := by kernel_rfl
theorem innkeepref06_Right.eq (n : Nat) (a0 : (den tWorld)) : innkeepref06_Right (n + 1) a0 =
  Option.bind (innkeepref06_May n a0.1) fun r1 =>
  bif (!(r1.1.1 : Bool)) then
    some ((false, ()), [])
  else
    bif (!(decide (((List.length (a0.2.1 : (List Int))) : Int) = ((List.length (a0.1.2.1 : (List Int))) : Int)))) then
      some ((false, ()), [])
    else
      bif (!(decide (((List.length (a0.2.2.1 : (List Int))) : Int) = ((List.length (a0.1.2.1 : (List Int))) : Int)))) then
        some ((false, ()), [])
      else
        bif (!(decide (((List.length (a0.2.2.2.1 : (List (den tPlace)))) : Int) = ((List.length (a0.1.2.2.2.1 : (List Int))) : Int)))) then
          some ((false, ()), [])
        else
          innkeepref06_Right.l0 n n a0 false 0 a0 a0.1 := by kernel_rfl
def innkeeplaw08_fits.res : List Sh := [.d .bool]
@[reducible] def innkeeplaw08_fits.R : Type := dShL [.d .bool] × Fresh
def innkeeplaw08_fits (n : Nat) (a0 : (den tWorld)) : Option innkeeplaw08_fits.R := gc n 8 [.dat tWorld a0 []] [.d .bool]
theorem innkeeplaw08_fits.eq (n : Nat) (a0 : (den tWorld)) : innkeeplaw08_fits (n + 1) a0 =
  Option.bind (innkeepref06_Few n a0) fun r1 =>
  bif (r1.1.1 : Bool) then
    Option.bind (innkeepref06_Right n a0) fun r2 =>
    some (((r2.1.1 : Bool), ()), [])
  else
    some ((false, ()), []) := by kernel_rfl
def innkeepref06_Copied.res : List Sh := [.d tWorld]
@[reducible] def innkeepref06_Copied.R : Type := dShL [.d tWorld] × Fresh
def innkeepref06_Copied (n : Nat) (a0 : (den tWorld)) : Option innkeepref06_Copied.R := gc n 32 [.dat tWorld a0 []] [.d tWorld]
theorem innkeepref06_Copied.eq (n : Nat) (a0 : (den tWorld)) : innkeepref06_Copied (n + 1) a0 =
  if 0 + (List.length (a0.2.1 : (List Int))) ≤ 1048576 then
  if 0 + (List.length (a0.2.2.1 : (List Int))) ≤ 1048576 then
  if 0 + (List.length (a0.2.2.2.1 : (List (den tPlace)))) ≤ 1048576 then
  some (((a0.1, (([] : List Int) ++ (a0.2.1 : (List Int))), (([] : List Int) ++ (a0.2.2.1 : (List Int))), (([] : List (den tPlace)) ++ (a0.2.2.2.1 : (List (den tPlace)))), ()), ()), [(0, [1]), (0, [2]), (0, [3])])
  else none
  else none
  else none := by kernel_rfl
def innkeepref08_pass.res : List Sh := [.d tWorld, .d (.int .i64), .d (.int .i64)]
@[reducible] def innkeepref08_pass.R : Type := dShL [.d tWorld, .d (.int .i64), .d (.int .i64)] × Fresh
def innkeepref08_pass (n : Nat) (a0 : (den tWorld)) (a1 : Int) (a2 : Int) : Option innkeepref08_pass.R := gc n 22 [.dat tWorld a0 [], .dat (.int .i64) a1 [], .dat (.int .i64) a2 []] [.d tWorld, .d (.int .i64), .d (.int .i64)]
theorem innkeepref08_pass.eq (n : Nat) (a0 : (den tWorld)) (a1 : Int) (a2 : Int) : innkeepref08_pass (n + 1) a0 a1 a2 =
  if (0 : Int) ≤ a1 ∧ a1 < (((List.length (a0.2.1 : (List Int))) : Nat) : Int) then
  if (0 : Int) ≤ (List.getD (a0.2.1 : (List Int)) (Int.toNat a1) (0 : Int) : Int) ∧ (List.getD (a0.2.1 : (List Int)) (Int.toNat a1) (0 : Int) : Int) < (((List.length (a0.1.1 : (List (List Int)))) : Nat) : Int) then
  if (0 : Int) ≤ a2 ∧ a2 < ((4 : Nat) : Int) then
  bif (decide ((List.getD (List.getD (a0.1.1 : (List (List Int))) (Int.toNat (List.getD (a0.2.1 : (List Int)) (Int.toNat a1) (0 : Int) : Int)) (dft (.arr 4 (.int .i64))) : (List Int)) (Int.toNat a2) (0 : Int) : Int) = (-1))) then
    some ((a0, 0, 4, ()), [])
  else
    Option.bind (innkeepref06_Copied n a0) fun r1 =>
    bif (keepAll r1.2 [((0, [1]), 3)]) then
      if (0 : Int) ≤ a1 ∧ a1 < (((List.length (r1.1.1.2.1 : (List Int))) : Nat) : Int) then
      some (((r1.1.1.1, (List.set (r1.1.1.2.1 : (List Int)) (Int.toNat a1) (List.getD (List.getD (a0.1.1 : (List (List Int))) (Int.toNat (List.getD (a0.2.1 : (List Int)) (Int.toNat a1) (0 : Int) : Int)) (dft (.arr 4 (.int .i64))) : (List Int)) (Int.toNat a2) (0 : Int) : Int) : (List Int)), (r1.1.1.2.2.1 : (List Int)), (r1.1.1.2.2.2.1 : (List (den tPlace))), ()), (List.getD (List.getD (a0.1.1 : (List (List Int))) (Int.toNat (List.getD (a0.2.1 : (List Int)) (Int.toNat a1) (0 : Int) : Int)) (dft (.arr 4 (.int .i64))) : (List Int)) (Int.toNat a2) (0 : Int) : Int), 0, ()), [(0, [1])])
      else none
    else
      none
  else none
  else none
  else none := by kernel_rfl
def innkeepref08_Move.res : List Sh := [.d tWorld, .d (.int .i64), .d (.int .i64)]
@[reducible] def innkeepref08_Move.R : Type := dShL [.d tWorld, .d (.int .i64), .d (.int .i64)] × Fresh
def innkeepref08_Move (n : Nat) (a0 : (den tWorld)) (a1 : Int) (a2 : Int) : Option innkeepref08_Move.R := gc n 10 [.dat tWorld a0 [], .dat (.int .i64) a1 [], .dat (.int .i64) a2 []] [.d tWorld, .d (.int .i64), .d (.int .i64)]
theorem innkeepref08_Move.eq (n : Nat) (a0 : (den tWorld)) (a1 : Int) (a2 : Int) : innkeepref08_Move (n + 1) a0 a1 a2 =
  Option.bind (innkeepref08_pass n a0 a1 a2) fun r1 =>
  some ((r1.1.1, (r1.1.2.1 : Int), (r1.1.2.2.1 : Int), ()), []) := by kernel_rfl
def innkeepref08_Push.res : List Sh := [.d tWorld, .d (.int .i64), .d (.int .i64)]
@[reducible] def innkeepref08_Push.R : Type := dShL [.d tWorld, .d (.int .i64), .d (.int .i64)] × Fresh
def innkeepref08_Push (n : Nat) (a0 : (den tWorld)) (a1 : Int) (a2 : Int) (a3 : Int) : Option innkeepref08_Push.R := gc n 12 [.dat tWorld a0 [], .dat (.int .i64) a1 [], .dat (.int .i64) a2 [], .dat (.int .i64) a3 []] [.d tWorld, .d (.int .i64), .d (.int .i64)]
theorem innkeepref08_Push.eq (n : Nat) (a0 : (den tWorld)) (a1 : Int) (a2 : Int) (a3 : Int) : innkeepref08_Push (n + 1) a0 a1 a2 a3 =
  bif (decide (a2 < 0)) then
    some ((a0, 0, 3, ()), [])
  else
    bif (decide (((List.length (a0.2.1 : (List Int))) : Int) ≤ a2)) then
      some ((a0, 0, 3, ()), [])
    else
      bif (decide (a2 = a1)) then
        some ((a0, 0, 12, ()), [])
      else
        if (0 : Int) ≤ a1 ∧ a1 < (((List.length (a0.2.1 : (List Int))) : Nat) : Int) then
        if (0 : Int) ≤ a2 ∧ a2 < (((List.length (a0.2.1 : (List Int))) : Nat) : Int) then
        bif (!(decide ((List.getD (a0.2.1 : (List Int)) (Int.toNat a1) (0 : Int) : Int) = (List.getD (a0.2.1 : (List Int)) (Int.toNat a2) (0 : Int) : Int)))) then
          some ((a0, 0, 5, ()), [])
        else
          Option.bind (innkeepref08_pass n a0 a2 a3) fun r1 =>
          some ((r1.1.1, (r1.1.2.1 : Int), (r1.1.2.2.1 : Int), ()), [])
        else none
        else none := by kernel_rfl
def innkeepref06_Places.res : List Sh := [.d .bool]
@[reducible] def innkeepref06_Places.R : Type := dShL [.d .bool] × Fresh
def innkeepref06_Places (n : Nat) (a0 : (List (den tPlace))) (a1 : (List (den tPlace))) : Option innkeepref06_Places.R := gc n 16 [.dat (.sl tPlace) a0 [], .dat (.sl tPlace) a1 []] [.d .bool]
def innkeepref06_Places.l0 (n m0 : Nat) (t0 : (List (den tPlace))) (t1 : (List (den tPlace))) (t4 : Bool) (t5 : Int) : Option innkeepref06_Places.R :=
  loopN (fun Kn K s h => run (gc n) n innkeepref06_Places.c9 Kn K s h) m0 (kBlk 0 (kSeq (run (gc n) n) innkeepref06_Places.c7 (retK innkeepref06_Places.fn innkeepref06_Places.res) (retK innkeepref06_Places.fn innkeepref06_Places.res)) (retK innkeepref06_Places.fn innkeepref06_Places.res))
    [(0, .dat (.sl tPlace) t0 []), (1, .dat (.sl tPlace) t1 []), (4, .dat .bool t4 []), (5, .dat (.int .i64) t5 [])]
    []
theorem innkeepref06_Places.l0_eq (n m0 : Nat) (t0 : (List (den tPlace))) (t1 : (List (den tPlace))) (t4 : Bool) (t5 : Int) : innkeepref06_Places.l0 n (m0 + 1) t0 t1 t4 t5 =
  bif (decide (t5 < ((List.length t0) : Int))) then
    if (0 : Int) ≤ t5 ∧ t5 < (((List.length t0) : Nat) : Int) then
    if (0 : Int) ≤ t5 ∧ t5 < (((List.length t1) : Nat) : Int) then
    bif (!(eqT tPlace (List.getD t0 (Int.toNat t5) (dft tPlace) : (den tPlace)) (List.getD t1 (Int.toNat t5) (dft tPlace) : (den tPlace)))) then
      some ((false, ()), [])
    else
      innkeepref06_Places.l0 n m0 t0 t1 t4 (IntKind.wrap .i64 (t5 + 1))
    else none
    else none
  else
    some ((true, ()), []) := by kernel_rfl
theorem innkeepref06_Places.eq (n : Nat) (a0 : (List (den tPlace))) (a1 : (List (den tPlace))) : innkeepref06_Places (n + 1) a0 a1 =
  bif (!(decide (((List.length a0) : Int) = ((List.length a1) : Int)))) then
    some ((false, ()), [])
  else
    innkeepref06_Places.l0 n n a0 a1 false 0 := by kernel_rfl
def innkeepref06_Same.res : List Sh := [.d .bool]
@[reducible] def innkeepref06_Same.R : Type := dShL [.d .bool] × Fresh
def innkeepref06_Same (n : Nat) (a0 : (den tWorld)) (a1 : (den tWorld)) : Option innkeepref06_Same.R := gc n 14 [.dat tWorld a0 [], .dat tWorld a1 []] [.d .bool]
def innkeepref06_Same.l0 (n m0 : Nat) (t0 : (den tWorld)) (t1 : (den tWorld)) (t4 : Bool) (t7 : Int) (o0 : (den tWorld)) (o1 : (den tWorld)) (o2 : (den tDesc)) (o3 : (den tDesc)) : Option innkeepref06_Same.R :=
  loopN (fun Kn K s h => run (gc n) n innkeepref06_Same.c13 Kn K s h) m0 (kBlk 0 (kSeq (run (gc n) n) innkeepref06_Same.c11 (retK innkeepref06_Same.fn innkeepref06_Same.res) (retK innkeepref06_Same.fn innkeepref06_Same.res)) (retK innkeepref06_Same.fn innkeepref06_Same.res))
    [(0, .dat tWorld t0 []), (1, .dat tWorld t1 []), (2, .ptr 0 []), (3, .ptr 1 []), (4, .dat .bool t4 []), (5, .ptr 2 []), (6, .ptr 3 []), (7, .dat (.int .i64) t7 [])]
    [.box tWorld o0 [], .box tWorld o1 [], .box tDesc o2 [], .box tDesc o3 []]
def innkeepref06_Same.l1 (n m0 : Nat) (t0_1 : (den tWorld)) (t1_1 : (den tWorld)) (t4_1 : Bool) (t7_1 : Int) (t8_1 : Int) (o0_1 : (den tWorld)) (o1_1 : (den tWorld)) (o2_1 : (den tDesc)) (o3_1 : (den tDesc)) : Option innkeepref06_Same.R :=
  loopN (fun Kn K s h => run (gc n) n innkeepref06_Same.c29 Kn K s h) m0 (kBlk 2 (kSeq (run (gc n) n) innkeepref06_Same.c27 (retK innkeepref06_Same.fn innkeepref06_Same.res) (retK innkeepref06_Same.fn innkeepref06_Same.res)) (retK innkeepref06_Same.fn innkeepref06_Same.res))
    [(0, .dat tWorld t0_1 []), (1, .dat tWorld t1_1 []), (2, .ptr 0 []), (3, .ptr 1 []), (4, .dat .bool t4_1 []), (5, .ptr 2 []), (6, .ptr 3 []), (7, .dat (.int .i64) t7_1 []), (8, .dat (.int .i64) t8_1 [])]
    [.box tWorld o0_1 [], .box tWorld o1_1 [], .box tDesc o2_1 [], .box tDesc o3_1 []]
theorem innkeepref06_Same.l0_eq (n m0 : Nat) (t0 : (den tWorld)) (t1 : (den tWorld)) (t4 : Bool) (t7 : Int) (o0 : (den tWorld)) (o1 : (den tWorld)) (o2 : (den tDesc)) (o3 : (den tDesc)) : innkeepref06_Same.l0 n (m0 + 1) t0 t1 t4 t7 o0 o1 o2 o3 =
  bif (decide (t7 < ((List.length (o2.1 : (List (List Int)))) : Int))) then
    if (0 : Int) ≤ t7 ∧ t7 < (((List.length (o2.1 : (List (List Int)))) : Nat) : Int) then
    if (0 : Int) ≤ t7 ∧ t7 < (((List.length (o3.1 : (List (List Int)))) : Nat) : Int) then
    bif (!(eqT (.arr 4 (.int .i64)) (List.getD (o2.1 : (List (List Int))) (Int.toNat t7) (dft (.arr 4 (.int .i64))) : (List Int)) (List.getD (o3.1 : (List (List Int))) (Int.toNat t7) (dft (.arr 4 (.int .i64))) : (List Int)))) then
      some ((false, ()), [])
    else
      innkeepref06_Same.l0 n m0 t0 t1 t4 (IntKind.wrap .i64 (t7 + 1)) o0 o1 o2 o3
    else none
    else none
  else
    innkeepref06_Same.l1 n n t0 t1 t4 t7 0 o0 o1 o2 o3 := by kernel_rfl
theorem innkeepref06_Same.l1_eq (n m0 : Nat) (t0_1 : (den tWorld)) (t1_1 : (den tWorld)) (t4_1 : Bool) (t7_1 : Int) (t8_1 : Int) (o0_1 : (den tWorld)) (o1_1 : (den tWorld)) (o2_1 : (den tDesc)) (o3_1 : (den tDesc)) : innkeepref06_Same.l1 n (m0 + 1) t0_1 t1_1 t4_1 t7_1 t8_1 o0_1 o1_1 o2_1 o3_1 =
  bif (decide (t8_1 < ((List.length (o2_1.2.2.2.2.1 : (List Bool))) : Int))) then
    if (0 : Int) ≤ t8_1 ∧ t8_1 < (((List.length (o2_1.2.2.2.2.1 : (List Bool))) : Nat) : Int) then
    if (0 : Int) ≤ t8_1 ∧ t8_1 < (((List.length (o3_1.2.2.2.2.1 : (List Bool))) : Nat) : Int) then
    bif (!(eqT .bool (List.getD (o2_1.2.2.2.2.1 : (List Bool)) (Int.toNat t8_1) false : Bool) (List.getD (o3_1.2.2.2.2.1 : (List Bool)) (Int.toNat t8_1) false : Bool))) then
      some ((false, ()), [])
    else
      innkeepref06_Same.l1 n m0 t0_1 t1_1 t4_1 t7_1 (IntKind.wrap .i64 (t8_1 + 1)) o0_1 o1_1 o2_1 o3_1
    else none
    else none
  else
    Option.bind (innkeepref03_Ints n (o2_1.2.1 : (List Int)) (o3_1.2.1 : (List Int))) fun r1 =>
    bif (r1.1.1 : Bool) then
      Option.bind (innkeepref03_Ints n (o2_1.2.2.1 : (List Int)) (o3_1.2.2.1 : (List Int))) fun r2 =>
      bif (r2.1.1 : Bool) then
        Option.bind (innkeepref03_Ints n (o2_1.2.2.2.1 : (List Int)) (o3_1.2.2.2.1 : (List Int))) fun r3 =>
        bif (r3.1.1 : Bool) then
          Option.bind (innkeepref03_Ints n (o0_1.2.1 : (List Int)) (o1_1.2.1 : (List Int))) fun r4 =>
          bif (r4.1.1 : Bool) then
            Option.bind (innkeepref03_Ints n (o0_1.2.2.1 : (List Int)) (o1_1.2.2.1 : (List Int))) fun r5 =>
            bif (r5.1.1 : Bool) then
              Option.bind (innkeepref06_Places n (o0_1.2.2.2.1 : (List (den tPlace))) (o1_1.2.2.2.1 : (List (den tPlace)))) fun r6 =>
              some (((r6.1.1 : Bool), ()), [])
            else
              some ((false, ()), [])
          else
            some ((false, ()), [])
        else
          some ((false, ()), [])
      else
        some ((false, ()), [])
    else
      some ((false, ()), []) := by kernel_rfl
theorem innkeepref06_Same.eq (n : Nat) (a0 : (den tWorld)) (a1 : (den tWorld)) : innkeepref06_Same (n + 1) a0 a1 =
  bif (!(decide ((a0.1.2.2.2.2.2.1 : Int) = (a1.1.2.2.2.2.2.1 : Int)))) then
    some ((false, ()), [])
  else
    bif (!(decide ((a0.1.2.2.2.2.2.2.1 : Int) = (a1.1.2.2.2.2.2.2.1 : Int)))) then
      some ((false, ()), [])
    else
      bif (!(decide ((a0.1.2.2.2.2.2.2.2.1 : Int) = (a1.1.2.2.2.2.2.2.2.1 : Int)))) then
        some ((false, ()), [])
      else
        bif (!(decide (((List.length (a0.1.1 : (List (List Int)))) : Int) = ((List.length (a1.1.1 : (List (List Int)))) : Int)))) then
          some ((false, ()), [])
        else
          bif (!(decide (((List.length (a0.1.2.2.2.2.1 : (List Bool))) : Int) = ((List.length (a1.1.2.2.2.2.1 : (List Bool))) : Int)))) then
            some ((false, ()), [])
          else
            innkeepref06_Same.l0 n n a0 a1 false 0 a0 a1 a0.1 a1.1 := by kernel_rfl
def innkeeplaw08_WaysMove.res : List Sh := [.d .bool]
@[reducible] def innkeeplaw08_WaysMove.R : Type := dShL [.d .bool] × Fresh
def innkeeplaw08_WaysMove (n : Nat) (a0 : (den tWorld)) (a1 : Int) (a2 : Int) (a3 : Int) : Option innkeeplaw08_WaysMove.R := gc n 3 [.dat tWorld a0 [], .dat (.int .u8) a1 [], .dat (.int .i64) a2 [], .dat (.int .u8) a3 []] [.d .bool]
theorem innkeeplaw08_WaysMove.eq (n : Nat) (a0 : (den tWorld)) (a1 : Int) (a2 : Int) (a3 : Int) : innkeeplaw08_WaysMove (n + 1) a0 a1 a2 a3 =
  Option.bind (innkeeplaw08_awake n) fun r1 =>
  bif (!(r1.1.1 : Bool)) then
    Option.bind (innkeeplaw08_awake n) fun r2 =>
    some (((r2.1.1 : Bool), ()), [])
  else
    Option.bind (innkeeplaw08_fits n a0) fun r3 =>
    bif (!(r3.1.1 : Bool)) then
      Option.bind (innkeeplaw08_awake n) fun r4 =>
      some (((r4.1.1 : Bool), ()), [])
    else
      if ((List.length (a0.2.1 : (List Int))) : Int) = 0 then none else
      Option.bind (ways_Move n a0 (Int.tmod (IntKind.wrap .i64 (a1)) ((List.length (a0.2.1 : (List Int))) : Int)) (IntKind.wrap .i64 ((Int.tmod a3 4)))) fun r5 =>
      Option.bind (innkeepref08_Move n a0 (Int.tmod (IntKind.wrap .i64 (a1)) ((List.length (a0.2.1 : (List Int))) : Int)) (IntKind.wrap .i64 ((Int.tmod a3 4)))) fun r6 =>
      Option.bind (ways_Push n a0 (Int.tmod (IntKind.wrap .i64 (a1)) ((List.length (a0.2.1 : (List Int))) : Int)) a2 (IntKind.wrap .i64 ((Int.tmod a3 4)))) fun r7 =>
      Option.bind (innkeepref08_Push n a0 (Int.tmod (IntKind.wrap .i64 (a1)) ((List.length (a0.2.1 : (List Int))) : Int)) a2 (IntKind.wrap .i64 ((Int.tmod a3 4)))) fun r8 =>
      if (0 : Int) ≤ (Int.tmod (IntKind.wrap .i64 (a1)) ((List.length (a0.2.1 : (List Int))) : Int)) ∧ (Int.tmod (IntKind.wrap .i64 (a1)) ((List.length (a0.2.1 : (List Int))) : Int)) < (((List.length (a0.2.1 : (List Int))) : Nat) : Int) then
      Option.bind (ways_Exit n a0 (List.getD (a0.2.1 : (List Int)) (Int.toNat (Int.tmod (IntKind.wrap .i64 (a1)) ((List.length (a0.2.1 : (List Int))) : Int))) (0 : Int) : Int) (IntKind.wrap .i64 ((Int.tmod a3 4)))) fun r9 =>
      if (0 : Int) ≤ (Int.tmod (IntKind.wrap .i64 (a1)) ((List.length (a0.2.1 : (List Int))) : Int)) ∧ (Int.tmod (IntKind.wrap .i64 (a1)) ((List.length (a0.2.1 : (List Int))) : Int)) < (((List.length (a0.2.1 : (List Int))) : Nat) : Int) then
      if (0 : Int) ≤ (List.getD (a0.2.1 : (List Int)) (Int.toNat (Int.tmod (IntKind.wrap .i64 (a1)) ((List.length (a0.2.1 : (List Int))) : Int))) (0 : Int) : Int) ∧ (List.getD (a0.2.1 : (List Int)) (Int.toNat (Int.tmod (IntKind.wrap .i64 (a1)) ((List.length (a0.2.1 : (List Int))) : Int))) (0 : Int) : Int) < (((List.length (a0.1.1 : (List (List Int)))) : Nat) : Int) then
      if (0 : Int) ≤ (IntKind.wrap .i64 ((Int.tmod a3 4))) ∧ (IntKind.wrap .i64 ((Int.tmod a3 4))) < ((4 : Nat) : Int) then
      Option.bind (innkeepref06_Same n r5.1.1 r6.1.1) fun r10 =>
      bif (r10.1.1 : Bool) then
        bif (decide ((r5.1.2.1 : Int) = (r6.1.2.1 : Int))) then
          bif (decide ((r5.1.2.2.1 : Int) = (r6.1.2.2.1 : Int))) then
            Option.bind (innkeepref06_Same n r7.1.1 r8.1.1) fun r11 =>
            bif (r11.1.1 : Bool) then
              bif (decide ((r7.1.2.1 : Int) = (r8.1.2.1 : Int))) then
                bif (decide ((r7.1.2.2.1 : Int) = (r8.1.2.2.1 : Int))) then
                  bif (eqT .bool (r9.1.2.1 : Bool) (!(decide ((List.getD (List.getD (a0.1.1 : (List (List Int))) (Int.toNat (List.getD (a0.2.1 : (List Int)) (Int.toNat (Int.tmod (IntKind.wrap .i64 (a1)) ((List.length (a0.2.1 : (List Int))) : Int))) (0 : Int) : Int)) (dft (.arr 4 (.int .i64))) : (List Int)) (Int.toNat (IntKind.wrap .i64 ((Int.tmod a3 4)))) (0 : Int) : Int) = (-1))))) then
                    some (((decide ((r9.1.1 : Int) = (if (List.getD (List.getD (a0.1.1 : (List (List Int))) (Int.toNat (List.getD (a0.2.1 : (List Int)) (Int.toNat (Int.tmod (IntKind.wrap .i64 (a1)) ((List.length (a0.2.1 : (List Int))) : Int))) (0 : Int) : Int)) (dft (.arr 4 (.int .i64))) : (List Int)) (Int.toNat (IntKind.wrap .i64 ((Int.tmod a3 4)))) (0 : Int) : Int) < 0 then 0 else (List.getD (List.getD (a0.1.1 : (List (List Int))) (Int.toNat (List.getD (a0.2.1 : (List Int)) (Int.toNat (Int.tmod (IntKind.wrap .i64 (a1)) ((List.length (a0.2.1 : (List Int))) : Int))) (0 : Int) : Int)) (dft (.arr 4 (.int .i64))) : (List Int)) (Int.toNat (IntKind.wrap .i64 ((Int.tmod a3 4)))) (0 : Int) : Int)))), ()), [])
                  else
                    some ((false, ()), [])
                else
                  some ((false, ()), [])
              else
                some ((false, ()), [])
            else
              some ((false, ()), [])
          else
            some ((false, ()), [])
        else
          some ((false, ()), [])
      else
        some ((false, ()), [])
      else none
      else none
      else none
      else none := by kernel_rfl
def innkeeplaw08_WaysGo.res : List Sh := [.d .bool]
@[reducible] def innkeeplaw08_WaysGo.R : Type := dShL [.d .bool] × Fresh
def innkeeplaw08_WaysGo (n : Nat) (a0 : (den tWorld)) (a1 : Int) (a2 : Int) (a3 : Int) : Option innkeeplaw08_WaysGo.R := gc n 4 [.dat tWorld a0 [], .dat (.int .u8) a1 [], .dat (.int .u8) a2 [], .dat (.int .u8) a3 []] [.d .bool]
def innkeeplaw08_WaysGo.l0 (n m0 : Nat) (t0 : (den tWorld)) (t1 : Int) (t2 : Int) (t3 : Int) (t8 : Bool) (t9 : Int) (t10 : Int) (t11 : Int) (t13 : Int) (t14 : Int) (t16 : Int) (t17 : Int) (t18 : Int) (o0 : (den tWorld)) (o1 : (den tWorld)) (o2 : (den tWorld)) : Option innkeeplaw08_WaysGo.R :=
  loopN (fun Kn K s h => run (gc n) n innkeeplaw08_WaysGo.c33 Kn K s h) m0 (kBlk 0 (kSeq (run (gc n) n) innkeeplaw08_WaysGo.c31 (retK innkeeplaw08_WaysGo.fn innkeeplaw08_WaysGo.res) (retK innkeeplaw08_WaysGo.fn innkeeplaw08_WaysGo.res)) (retK innkeeplaw08_WaysGo.fn innkeeplaw08_WaysGo.res))
    [(0, .dat tWorld t0 []), (1, .dat (.int .u8) t1 []), (2, .dat (.int .u8) t2 []), (3, .dat (.int .u8) t3 []), (4, .ptr 0 []), (8, .dat .bool t8 []), (9, .dat (.int .i64) t9 []), (10, .dat (.int .i64) t10 []), (11, .dat (.int .i64) t11 []), (12, .ptr 1 []), (13, .dat (.int .i64) t13 []), (14, .dat (.int .i64) t14 []), (15, .ptr 2 []), (16, .dat (.int .i64) t16 []), (17, .dat (.int .i64) t17 []), (18, .dat (.int .i64) t18 [])]
    [.box tWorld o0 [], .box tWorld o1 [], .box tWorld o2 []]
theorem innkeeplaw08_WaysGo.l0_eq (n m0 : Nat) (t0 : (den tWorld)) (t1 : Int) (t2 : Int) (t3 : Int) (t8 : Bool) (t9 : Int) (t10 : Int) (t11 : Int) (t13 : Int) (t14 : Int) (t16 : Int) (t17 : Int) (t18 : Int) (o0 : (den tWorld)) (o1 : (den tWorld)) (o2 : (den tWorld)) : innkeeplaw08_WaysGo.l0 n (m0 + 1) t0 t1 t2 t3 t8 t9 t10 t11 t13 t14 t16 t17 t18 o0 o1 o2 =
  bif (decide (t18 < ((List.length (o0.2.1 : (List Int))) : Int))) then
    bif (!(decide (t18 = t10))) then
      if (0 : Int) ≤ t18 ∧ t18 < (((List.length (o1.2.1 : (List Int))) : Nat) : Int) then
      if (0 : Int) ≤ t18 ∧ t18 < (((List.length (o0.2.1 : (List Int))) : Nat) : Int) then
      bif (!(decide ((List.getD (o1.2.1 : (List Int)) (Int.toNat t18) (0 : Int) : Int) = (List.getD (o0.2.1 : (List Int)) (Int.toNat t18) (0 : Int) : Int)))) then
        some ((false, ()), [])
      else
        innkeeplaw08_WaysGo.l0 n m0 t0 t1 t2 t3 t8 t9 t10 t11 t13 t14 t16 t17 (IntKind.wrap .i64 (t18 + 1)) o0 o1 o2
      else none
      else none
    else
      innkeeplaw08_WaysGo.l0 n m0 t0 t1 t2 t3 t8 t9 t10 t11 t13 t14 t16 t17 (IntKind.wrap .i64 (t18 + 1)) o0 o1 o2
  else
    Option.bind (innkeepref06_Places n (o1.2.2.2.1 : (List (den tPlace))) (o0.2.2.2.1 : (List (den tPlace)))) fun r10 =>
    bif (r10.1.1 : Bool) then
      Option.bind (innkeepref03_Ints n (o1.2.2.1 : (List Int)) (o0.2.2.1 : (List Int))) fun r11 =>
      some (((r11.1.1 : Bool), ()), [])
    else
      some ((false, ()), []) := by kernel_rfl
theorem innkeeplaw08_WaysGo.eq (n : Nat) (a0 : (den tWorld)) (a1 : Int) (a2 : Int) (a3 : Int) : innkeeplaw08_WaysGo (n + 1) a0 a1 a2 a3 =
  Option.bind (innkeeplaw08_awake n) fun r1 =>
  bif (!(r1.1.1 : Bool)) then
    Option.bind (innkeeplaw08_awake n) fun r2 =>
    some (((r2.1.1 : Bool), ()), [])
  else
    Option.bind (innkeeplaw08_fits n a0) fun r3 =>
    bif (!(r3.1.1 : Bool)) then
      Option.bind (innkeeplaw08_awake n) fun r4 =>
      some (((r4.1.1 : Bool), ()), [])
    else
      if ((List.length (a0.2.1 : (List Int))) : Int) = 0 then none else
      if ((List.length (a0.2.1 : (List Int))) : Int) = 0 then none else
      Option.bind (ways_Push n a0 (Int.tmod (IntKind.wrap .i64 (a1)) ((List.length (a0.2.1 : (List Int))) : Int)) (Int.tmod (IntKind.wrap .i64 (a2)) ((List.length (a0.2.1 : (List Int))) : Int)) (IntKind.wrap .i64 ((Int.tmod a3 4)))) fun r5 =>
      Option.bind (ways_Move n a0 (Int.tmod (IntKind.wrap .i64 (a2)) ((List.length (a0.2.1 : (List Int))) : Int)) (IntKind.wrap .i64 ((Int.tmod a3 4)))) fun r6 =>
      bif (!(decide ((r5.1.2.2.1 : Int) = 0))) then
        Option.bind (innkeepref06_Same n r5.1.1 a0) fun r7 =>
        bif (r7.1.1 : Bool) then
          bif (decide ((r5.1.2.1 : Int) = 0)) then
            bif (eqT .bool (!(decide ((r5.1.2.2.1 : Int) = 12))) (!(decide ((Int.tmod (IntKind.wrap .i64 (a1)) ((List.length (a0.2.1 : (List Int))) : Int)) = (Int.tmod (IntKind.wrap .i64 (a2)) ((List.length (a0.2.1 : (List Int))) : Int)))))) then
              bif (!(decide ((r5.1.2.2.1 : Int) = 4))) then
                some ((true, ()), [])
              else
                some (((decide ((r6.1.2.2.1 : Int) = 4)), ()), [])
            else
              some ((false, ()), [])
          else
            some ((false, ()), [])
        else
          some ((false, ()), [])
      else
        bif (decide ((Int.tmod (IntKind.wrap .i64 (a1)) ((List.length (a0.2.1 : (List Int))) : Int)) = (Int.tmod (IntKind.wrap .i64 (a2)) ((List.length (a0.2.1 : (List Int))) : Int)))) then
          some ((false, ()), [])
        else
          if (0 : Int) ≤ (Int.tmod (IntKind.wrap .i64 (a1)) ((List.length (a0.2.1 : (List Int))) : Int)) ∧ (Int.tmod (IntKind.wrap .i64 (a1)) ((List.length (a0.2.1 : (List Int))) : Int)) < (((List.length (a0.2.1 : (List Int))) : Nat) : Int) then
          if (0 : Int) ≤ (Int.tmod (IntKind.wrap .i64 (a2)) ((List.length (a0.2.1 : (List Int))) : Int)) ∧ (Int.tmod (IntKind.wrap .i64 (a2)) ((List.length (a0.2.1 : (List Int))) : Int)) < (((List.length (a0.2.1 : (List Int))) : Nat) : Int) then
          bif (!(decide ((List.getD (a0.2.1 : (List Int)) (Int.toNat (Int.tmod (IntKind.wrap .i64 (a1)) ((List.length (a0.2.1 : (List Int))) : Int))) (0 : Int) : Int) = (List.getD (a0.2.1 : (List Int)) (Int.toNat (Int.tmod (IntKind.wrap .i64 (a2)) ((List.length (a0.2.1 : (List Int))) : Int))) (0 : Int) : Int)))) then
            some ((false, ()), [])
          else
            bif (!(decide ((r6.1.2.2.1 : Int) = 0))) then
              some ((false, ()), [])
            else
              bif (!(decide ((r5.1.2.1 : Int) = (r6.1.2.1 : Int)))) then
                some ((false, ()), [])
              else
                Option.bind (innkeepref06_Same n r5.1.1 r6.1.1) fun r8 =>
                bif (!(r8.1.1 : Bool)) then
                  some ((false, ()), [])
                else
                  Option.bind (innkeepref06_Right n r5.1.1) fun r9 =>
                  bif (!(r9.1.1 : Bool)) then
                    some ((false, ()), [])
                  else
                    if (0 : Int) ≤ (Int.tmod (IntKind.wrap .i64 (a2)) ((List.length (a0.2.1 : (List Int))) : Int)) ∧ (Int.tmod (IntKind.wrap .i64 (a2)) ((List.length (a0.2.1 : (List Int))) : Int)) < (((List.length (r5.1.1.2.1 : (List Int))) : Nat) : Int) then
                    bif (!(decide ((List.getD (r5.1.1.2.1 : (List Int)) (Int.toNat (Int.tmod (IntKind.wrap .i64 (a2)) ((List.length (a0.2.1 : (List Int))) : Int))) (0 : Int) : Int) = (r5.1.2.1 : Int)))) then
                      some ((false, ()), [])
                    else
                      innkeeplaw08_WaysGo.l0 n n a0 a1 a2 a3 false (Int.tmod (IntKind.wrap .i64 (a1)) ((List.length (a0.2.1 : (List Int))) : Int)) (Int.tmod (IntKind.wrap .i64 (a2)) ((List.length (a0.2.1 : (List Int))) : Int)) (IntKind.wrap .i64 ((Int.tmod a3 4))) (r5.1.2.1 : Int) (r5.1.2.2.1 : Int) (r6.1.2.1 : Int) (r6.1.2.2.1 : Int) 0 a0 r5.1.1 r6.1.1
                    else none
          else none
          else none := by kernel_rfl
def innkeeplaw08_WaysBack.res : List Sh := [.d .bool]
@[reducible] def innkeeplaw08_WaysBack.R : Type := dShL [.d .bool] × Fresh
def innkeeplaw08_WaysBack (n : Nat) (a0 : (den tWorld)) (a1 : Int) (a2 : Int) (a3 : Int) : Option innkeeplaw08_WaysBack.R := gc n 5 [.dat tWorld a0 [], .dat (.int .u8) a1 [], .dat (.int .u8) a2 [], .dat (.int .u8) a3 []] [.d .bool]
theorem innkeeplaw08_WaysBack.eq (n : Nat) (a0 : (den tWorld)) (a1 : Int) (a2 : Int) (a3 : Int) : innkeeplaw08_WaysBack (n + 1) a0 a1 a2 a3 =
  Option.bind (innkeeplaw08_awake n) fun r1 =>
  bif (!(r1.1.1 : Bool)) then
    Option.bind (innkeeplaw08_awake n) fun r2 =>
    some (((r2.1.1 : Bool), ()), [])
  else
    Option.bind (innkeeplaw08_fits n a0) fun r3 =>
    bif (!(r3.1.1 : Bool)) then
      Option.bind (innkeeplaw08_awake n) fun r4 =>
      some (((r4.1.1 : Bool), ()), [])
    else
      if ((List.length (a0.2.1 : (List Int))) : Int) = 0 then none else
      Option.bind (ways_Move n a0 (Int.tmod (IntKind.wrap .i64 (a1)) ((List.length (a0.2.1 : (List Int))) : Int)) (IntKind.wrap .i64 ((Int.tmod a2 4)))) fun r5 =>
      bif (!(decide ((r5.1.2.2.1 : Int) = 0))) then
        some ((true, ()), [])
      else
        Option.bind (ways_Exit n a0 (r5.1.2.1 : Int) (IntKind.wrap .i64 ((Int.tmod a3 4)))) fun r6 =>
        Option.bind (ways_Move n r5.1.1 (Int.tmod (IntKind.wrap .i64 (a1)) ((List.length (a0.2.1 : (List Int))) : Int)) (IntKind.wrap .i64 ((Int.tmod a3 4)))) fun r7 =>
        bif (!(eqT .bool (r6.1.2.1 : Bool) (decide ((r7.1.2.2.1 : Int) = 0)))) then
          some ((false, ()), [])
        else
          bif (r6.1.2.1 : Bool) then
            bif (!(decide ((r7.1.2.1 : Int) = (r6.1.1 : Int)))) then
              some ((false, ()), [])
            else
              if (0 : Int) ≤ (Int.tmod (IntKind.wrap .i64 (a1)) ((List.length (a0.2.1 : (List Int))) : Int)) ∧ (Int.tmod (IntKind.wrap .i64 (a1)) ((List.length (a0.2.1 : (List Int))) : Int)) < (((List.length (r7.1.1.2.1 : (List Int))) : Nat) : Int) then
              bif (!(decide ((List.getD (r7.1.1.2.1 : (List Int)) (Int.toNat (Int.tmod (IntKind.wrap .i64 (a1)) ((List.length (a0.2.1 : (List Int))) : Int))) (0 : Int) : Int) = (r6.1.1 : Int)))) then
                some ((false, ()), [])
              else
                bif (!(r6.1.2.1 : Bool)) then
                  some ((true, ()), [])
                else
                  if (0 : Int) ≤ (Int.tmod (IntKind.wrap .i64 (a1)) ((List.length (a0.2.1 : (List Int))) : Int)) ∧ (Int.tmod (IntKind.wrap .i64 (a1)) ((List.length (a0.2.1 : (List Int))) : Int)) < (((List.length (a0.2.1 : (List Int))) : Nat) : Int) then
                  Option.bind (innkeepref06_Same n r7.1.1 a0) fun r8 =>
                  some (((eqT .bool (decide ((r6.1.1 : Int) = (List.getD (a0.2.1 : (List Int)) (Int.toNat (Int.tmod (IntKind.wrap .i64 (a1)) ((List.length (a0.2.1 : (List Int))) : Int))) (0 : Int) : Int))) (r8.1.1 : Bool)), ()), [])
                  else none
              else none
          else
            bif (!(r6.1.2.1 : Bool)) then
              some ((true, ()), [])
            else
              if (0 : Int) ≤ (Int.tmod (IntKind.wrap .i64 (a1)) ((List.length (a0.2.1 : (List Int))) : Int)) ∧ (Int.tmod (IntKind.wrap .i64 (a1)) ((List.length (a0.2.1 : (List Int))) : Int)) < (((List.length (a0.2.1 : (List Int))) : Nat) : Int) then
              Option.bind (innkeepref06_Same n r7.1.1 a0) fun r9 =>
              some (((eqT .bool (decide ((r6.1.1 : Int) = (List.getD (a0.2.1 : (List Int)) (Int.toNat (Int.tmod (IntKind.wrap .i64 (a1)) ((List.length (a0.2.1 : (List Int))) : Int))) (0 : Int) : Int))) (r9.1.1 : Bool)), ()), [])
              else none := by kernel_rfl
def innkeeplaw08_WaysWander.res : List Sh := [.d .bool]
@[reducible] def innkeeplaw08_WaysWander.R : Type := dShL [.d .bool] × Fresh
def innkeeplaw08_WaysWander (n : Nat) (a0 : (den tWorld)) (a1 : Int) (a2 : (List Int)) : Option innkeeplaw08_WaysWander.R := gc n 6 [.dat tWorld a0 [], .dat (.int .u8) a1 [], .dat (.sl (.int .u8)) a2 []] [.d .bool]
def innkeeplaw08_WaysWander.l0 (n m0 : Nat) (t0 : (den tWorld)) (t1 : Int) (t2 : (List Int)) (t6 : Bool) (t7 : Int) (t9 : Int) (o0 : (den tWorld)) (o1 : (den tWorld)) : Option innkeeplaw08_WaysWander.R :=
  loopN (fun Kn K s h => run (gc n) n innkeeplaw08_WaysWander.c14 Kn K s h) m0 (kBlk 0 (kSeq (run (gc n) n) innkeeplaw08_WaysWander.c12 (retK innkeeplaw08_WaysWander.fn innkeeplaw08_WaysWander.res) (retK innkeeplaw08_WaysWander.fn innkeeplaw08_WaysWander.res)) (retK innkeeplaw08_WaysWander.fn innkeeplaw08_WaysWander.res))
    [(0, .dat tWorld t0 []), (1, .dat (.int .u8) t1 []), (2, .dat (.sl (.int .u8)) t2 []), (3, .ptr 0 []), (6, .dat .bool t6 []), (7, .dat (.int .i64) t7 []), (8, .ptr 1 []), (9, .dat (.int .i64) t9 [])]
    [.box tWorld o0 [], .box tWorld o1 []]
def innkeeplaw08_WaysWander.l1 (n m0 : Nat) (t0_1 : (den tWorld)) (t1_1 : Int) (t2_1 : (List Int)) (t6_1 : Bool) (t7_1 : Int) (t9_1 : Int) (t13_1 : Int) (o0_1 : (den tWorld)) (o1_1 : (den tWorld)) : Option innkeeplaw08_WaysWander.R :=
  loopN (fun Kn K s h => run (gc n) n innkeeplaw08_WaysWander.c34 Kn K s h) m0 (kBlk 2 (kSeq (run (gc n) n) innkeeplaw08_WaysWander.c32 (retK innkeeplaw08_WaysWander.fn innkeeplaw08_WaysWander.res) (retK innkeeplaw08_WaysWander.fn innkeeplaw08_WaysWander.res)) (retK innkeeplaw08_WaysWander.fn innkeeplaw08_WaysWander.res))
    [(0, .dat tWorld t0_1 []), (1, .dat (.int .u8) t1_1 []), (2, .dat (.sl (.int .u8)) t2_1 []), (3, .ptr 0 []), (6, .dat .bool t6_1 []), (7, .dat (.int .i64) t7_1 []), (8, .ptr 1 []), (9, .dat (.int .i64) t9_1 []), (13, .dat (.int .i64) t13_1 [])]
    [.box tWorld o0_1 [], .box tWorld o1_1 []]
theorem innkeeplaw08_WaysWander.l0_eq (n m0 : Nat) (t0 : (den tWorld)) (t1 : Int) (t2 : (List Int)) (t6 : Bool) (t7 : Int) (t9 : Int) (o0 : (den tWorld)) (o1 : (den tWorld)) : innkeeplaw08_WaysWander.l0 n (m0 + 1) t0 t1 t2 t6 t7 t9 o0 o1 =
  bif (decide (t9 < ((List.length t2) : Int))) then
    if (0 : Int) ≤ t9 ∧ t9 < (((List.length t2) : Nat) : Int) then
    Option.bind (ways_Move n o1 t7 (IntKind.wrap .i64 ((Int.tmod (List.getD t2 (Int.toNat t9) (0 : Int) : Int) 4)))) fun r6 =>
    bif (decide ((r6.1.2.2.1 : Int) = 0)) then
      if (0 : Int) ≤ t7 ∧ t7 < (((List.length (r6.1.1.2.1 : (List Int))) : Nat) : Int) then
      bif (!(decide ((List.getD (r6.1.1.2.1 : (List Int)) (Int.toNat t7) (0 : Int) : Int) = (r6.1.2.1 : Int)))) then
        some ((false, ()), [])
      else
        bif (!(decide ((r6.1.2.2.1 : Int) = 0))) then
          Option.bind (innkeepref06_Same n r6.1.1 o1) fun r7 =>
          bif (!(r7.1.1 : Bool)) then
            some ((false, ()), [])
          else
            Option.bind (innkeepref06_Right n r6.1.1) fun r8 =>
            bif (!(r8.1.1 : Bool)) then
              some ((false, ()), [])
            else
              innkeeplaw08_WaysWander.l0 n m0 t0 t1 t2 t6 t7 (IntKind.wrap .i64 (t9 + 1)) o0 r6.1.1
        else
          Option.bind (innkeepref06_Right n r6.1.1) fun r9 =>
          bif (!(r9.1.1 : Bool)) then
            some ((false, ()), [])
          else
            innkeeplaw08_WaysWander.l0 n m0 t0 t1 t2 t6 t7 (IntKind.wrap .i64 (t9 + 1)) o0 r6.1.1
      else none
    else
      bif (!(decide ((r6.1.2.2.1 : Int) = 0))) then
        Option.bind (innkeepref06_Same n r6.1.1 o1) fun r10 =>
        bif (!(r10.1.1 : Bool)) then
          some ((false, ()), [])
        else
          Option.bind (innkeepref06_Right n r6.1.1) fun r11 =>
          bif (!(r11.1.1 : Bool)) then
            some ((false, ()), [])
          else
            innkeeplaw08_WaysWander.l0 n m0 t0 t1 t2 t6 t7 (IntKind.wrap .i64 (t9 + 1)) o0 r6.1.1
      else
        Option.bind (innkeepref06_Right n r6.1.1) fun r12 =>
        bif (!(r12.1.1 : Bool)) then
          some ((false, ()), [])
        else
          innkeeplaw08_WaysWander.l0 n m0 t0 t1 t2 t6 t7 (IntKind.wrap .i64 (t9 + 1)) o0 r6.1.1
    else none
  else
    innkeeplaw08_WaysWander.l1 n n t0 t1 t2 t6 t7 t9 0 o0 o1 := by kernel_rfl
theorem innkeeplaw08_WaysWander.l1_eq (n m0 : Nat) (t0_1 : (den tWorld)) (t1_1 : Int) (t2_1 : (List Int)) (t6_1 : Bool) (t7_1 : Int) (t9_1 : Int) (t13_1 : Int) (o0_1 : (den tWorld)) (o1_1 : (den tWorld)) : innkeeplaw08_WaysWander.l1 n (m0 + 1) t0_1 t1_1 t2_1 t6_1 t7_1 t9_1 t13_1 o0_1 o1_1 =
  bif (decide (t13_1 < ((List.length (o0_1.2.1 : (List Int))) : Int))) then
    bif (!(decide (t13_1 = t7_1))) then
      if (0 : Int) ≤ t13_1 ∧ t13_1 < (((List.length (o1_1.2.1 : (List Int))) : Nat) : Int) then
      if (0 : Int) ≤ t13_1 ∧ t13_1 < (((List.length (o0_1.2.1 : (List Int))) : Nat) : Int) then
      bif (!(decide ((List.getD (o1_1.2.1 : (List Int)) (Int.toNat t13_1) (0 : Int) : Int) = (List.getD (o0_1.2.1 : (List Int)) (Int.toNat t13_1) (0 : Int) : Int)))) then
        some ((false, ()), [])
      else
        innkeeplaw08_WaysWander.l1 n m0 t0_1 t1_1 t2_1 t6_1 t7_1 t9_1 (IntKind.wrap .i64 (t13_1 + 1)) o0_1 o1_1
      else none
      else none
    else
      innkeeplaw08_WaysWander.l1 n m0 t0_1 t1_1 t2_1 t6_1 t7_1 t9_1 (IntKind.wrap .i64 (t13_1 + 1)) o0_1 o1_1
  else
    Option.bind (innkeepref06_Places n (o1_1.2.2.2.1 : (List (den tPlace))) (o0_1.2.2.2.1 : (List (den tPlace)))) fun r13 =>
    some (((r13.1.1 : Bool), ()), []) := by kernel_rfl
theorem innkeeplaw08_WaysWander.eq (n : Nat) (a0 : (den tWorld)) (a1 : Int) (a2 : (List Int)) : innkeeplaw08_WaysWander (n + 1) a0 a1 a2 =
  Option.bind (innkeeplaw08_awake n) fun r1 =>
  bif (!(r1.1.1 : Bool)) then
    Option.bind (innkeeplaw08_awake n) fun r2 =>
    some (((r2.1.1 : Bool), ()), [])
  else
    Option.bind (innkeeplaw08_fits n a0) fun r3 =>
    bif (!(r3.1.1 : Bool)) then
      Option.bind (innkeeplaw08_awake n) fun r4 =>
      some (((r4.1.1 : Bool), ()), [])
    else
      bif (decide (60 < ((List.length a2) : Int))) then
        Option.bind (innkeeplaw08_awake n) fun r5 =>
        some (((r5.1.1 : Bool), ()), [])
      else
        if ((List.length (a0.2.1 : (List Int))) : Int) = 0 then none else
        innkeeplaw08_WaysWander.l0 n n a0 a1 a2 false (Int.tmod (IntKind.wrap .i64 (a1)) ((List.length (a0.2.1 : (List Int))) : Int)) 0 a0 a0 := by kernel_rfl
end Go.Proofs.Ytcalkhkcokkhhaa.Ghost
