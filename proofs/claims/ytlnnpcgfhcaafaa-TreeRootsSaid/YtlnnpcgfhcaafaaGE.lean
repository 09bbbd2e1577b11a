/- What each function and each loop comes to, one step. Conditions: none. -/
import Derived.Test.YtlnnpcgfhcaafaaGSp
import Derived.KernelRfl
set_option linter.unusedVariables false
set_option linter.unusedSimpArgs false
set_option linter.unusedSectionVars false
set_option linter.unnecessarySimpa false
namespace Go.Proofs.Ytlnnpcgfhcaafaa.Ghost
open Go
abbrev gc (n : Nat) : Calls := gcall prog sp n
def innkeepref06_New.res : List Sh := [.d tWorld]
@[reducible] def innkeepref06_New.R : Type := dShL [.d tWorld] × Fresh
def innkeepref06_New (n : Nat) (a0 : (den tDesc)) : Option innkeepref06_New.R := gc n 30 [.dat tDesc a0 []] [.d tWorld]
def innkeepref06_New.l0 (n m0 : Nat) (t0 : (den tDesc)) (t4 : Int) (o0 : (den tDesc)) (o1 : (den tWorld)) (o2 : (den tWorld)) (o3 : (List Int)) (o4 : (List Int)) (o9 : (List (den tPlace))) : Option innkeepref06_New.R :=
  loopN (fun Kn K s h => run (gc n) n innkeepref06_New.c9 Kn K s h) m0 (kBlk 0 (kSeq (run (gc n) n) innkeepref06_New.c7 (retK innkeepref06_New.fn innkeepref06_New.res) (retK innkeepref06_New.fn innkeepref06_New.res)) (retK innkeepref06_New.fn innkeepref06_New.res))
    [(0, .dat tDesc t0 []), (1, .ptr 0 []), (2, .ptr 1 []), (3, .ptr 2 []), (4, .dat (.int .i64) t4 [])]
    [.box tDesc o0 [], .box tWorld o1 [], .box tWorld o2 [([1], some 3), ([2], some 4), ([3], some 9)], .arr (.int .i64) o3, .arr (.int .i64) o4, .none, .none, .dead, .dead, .arr tPlace o9]
theorem innkeepref06_New.l0_eq (n m0 : Nat) (t0 : (den tDesc)) (t4 : Int) (o0 : (den tDesc)) (o1 : (den tWorld)) (o2 : (den tWorld)) (o3 : (List Int)) (o4 : (List Int)) (o9 : (List (den tPlace))) : innkeepref06_New.l0 n (m0 + 1) t0 t4 o0 o1 o2 o3 o4 o9 =
  bif (decide (t4 < ((List.length (o0.2.2.2.1 : (List Int))) : Int))) then
    if (0 : Int) ≤ t4 ∧ t4 < (((List.length (o0.2.2.2.1 : (List Int))) : Nat) : Int) then
    if (List.length o9) + 1 ≤ 1048576 then
    innkeepref06_New.l0 n m0 t0 (IntKind.wrap .i64 (t4 + 1)) o0 o1 (o2.1, (o2.2.1 : (List Int)), (o2.2.2.1 : (List Int)), ([] : List (den tPlace)), ()) o3 o4 (o9 ++ ([(0, (List.getD (o0.2.2.2.1 : (List Int)) (Int.toNat t4) (0 : Int) : Int), ())] : List (den tPlace)))
    else none
    else none
  else
    some (((o2.1, o3, o4, o9, ()), ()), [(0, [1]), (0, [2]), (0, [3])]) := by kernel_rfl
theorem innkeepref06_New.eq (n : Nat) (a0 : (den tDesc)) : innkeepref06_New (n + 1) a0 =
  if 0 + (List.length (a0.2.1 : (List Int))) ≤ 1048576 then
  if 0 + (List.length (a0.2.2.1 : (List Int))) ≤ 1048576 then
  innkeepref06_New.l0 n n a0 0 a0 ((([] : List (List Int)), ([] : List Int), ([] : List Int), ([] : List Int), ([] : List Bool), 0, 0, 0, ()), ([] : List Int), ([] : List Int), ([] : List (den tPlace)), ()) (a0, ([] : List Int), ([] : List Int), ([] : List (den tPlace)), ()) (([] : List Int) ++ (a0.2.1 : (List Int))) (([] : List Int) ++ (a0.2.2.1 : (List Int))) ([] : List (den tPlace))
  else none
  else none := by kernel_rfl
def tree_up.res : List Sh := [.clo 42 [.ref tWorld, .ref (.int .i64)]]
@[reducible] def tree_up.R : Type := dShL [.clo 42 [.ref tWorld, .ref (.int .i64)]] × Fresh
def tree_up (n : Nat) (a0 : (den tWorld)) (a1 : Int) : Option tree_up.R := gc n 35 [.dat tWorld a0 [], .dat (.int .i64) a1 []] [.clo 42 [.ref tWorld, .ref (.int .i64)]]
theorem tree_up.eq (n : Nat) (a0 : (den tWorld)) (a1 : Int) : tree_up (n + 1) a0 a1 =
  some (((a0, a1, ()), ()), []) := by kernel_rfl
def slices_Collect_api_Place.res : List Sh := [.d (.sl tPlace)]
@[reducible] def slices_Collect_api_Place.R : Type := dShL [.d (.sl tPlace)] × Fresh
def slices_Collect_api_Place (n : Nat) (a0 : (den tWorld)) (a1 : Int) : Option slices_Collect_api_Place.R := gc n 34 [.clo 42 [.ref tWorld a0, .ref (.int .i64) a1]] [.d (.sl tPlace)]
def tree_Root.res : List Sh := [.d tPlace]
@[reducible] def tree_Root.R : Type := dShL [.d tPlace] × Fresh
def tree_Root (n : Nat) (a0 : (den tWorld)) (a1 : Int) : Option tree_Root.R := gc n 19 [.dat tWorld a0 [], .dat (.int .i64) a1 []] [.d tPlace]
theorem tree_Root.eq (n : Nat) (a0 : (den tWorld)) (a1 : Int) : tree_Root (n + 1) a0 a1 =
  Option.bind (tree_up n a0 a1) fun r1 =>
  Option.bind (slices_Collect_api_Place n r1.1.1.1 (r1.1.1.2.1 : Int)) fun r2 =>
  if (0 : Int) ≤ (IntKind.wrap .i64 (((List.length (r2.1.1 : (List (den tPlace)))) : Int) - 1)) ∧ (IntKind.wrap .i64 (((List.length (r2.1.1 : (List (den tPlace)))) : Int) - 1)) < (((List.length (r2.1.1 : (List (den tPlace)))) : Nat) : Int) then
  some (((List.getD (r2.1.1 : (List (den tPlace))) (Int.toNat (IntKind.wrap .i64 (((List.length (r2.1.1 : (List (den tPlace)))) : Int) - 1))) (dft tPlace) : (den tPlace)), ()), [])
  else none := by kernel_rfl
def tree_Under.res : List Sh := [.d (.sl tSeen)]
@[reducible] def tree_Under.R : Type := dShL [.d (.sl tSeen)] × Fresh
def tree_Under (n : Nat) (a0 : (den tWorld)) (a1 : (den tPlace)) : Option tree_Under.R := gc n 17 [.dat tWorld a0 [], .dat tPlace a1 []] [.d (.sl tSeen)]
def tree_Under.l0 (n m0 : Nat) (t0 : (den tWorld)) (t1 : (den tPlace)) (t4 : (List (den tSeen))) (t9 : (List (den tPlace))) (t10 : Int) (t11 : Int) (o0 : (den tWorld)) (o1 : (den tPlace)) (o5 : (List (den tSeen))) : Option tree_Under.R :=
  loopN (fun Kn K s h => run (gc n) n tree_Under.c5 Kn K s h) m0 (kBlk 0 (kSeq (run (gc n) n) tree_Under.c2 (retK tree_Under.fn tree_Under.res) (retK tree_Under.fn tree_Under.res)) (retK tree_Under.fn tree_Under.res))
    [(0, .dat tWorld t0 []), (1, .dat tPlace t1 []), (2, .ptr 0 []), (3, .ptr 1 []), (4, .dat (.sl tSeen) t4 []), (5, .dat (.sl tSeen) ([] : List (den tSeen)) [([], some 5)]), (9, .dat (.sl tPlace) t9 []), (10, .dat (.int .i64) t10 []), (11, .dat (.int .i64) t11 [])]
    [.box tWorld o0 [], .box tPlace o1 [], .none, .none, .none, .arr tSeen o5]
theorem tree_Under.l0_eq (n m0 : Nat) (t0 : (den tWorld)) (t1 : (den tPlace)) (t4 : (List (den tSeen))) (t9 : (List (den tPlace))) (t10 : Int) (t11 : Int) (o0 : (den tWorld)) (o1 : (den tPlace)) (o5 : (List (den tSeen))) : tree_Under.l0 n (m0 + 1) t0 t1 t4 t9 t10 t11 o0 o1 o5 =
  bif (decide (t11 < t10)) then
    if (0 : Int) ≤ t11 ∧ t11 < (((List.length t9) : Nat) : Int) then
    Option.bind (tree_Root n o0 t11) fun r1 =>
    bif (eqT tPlace r1.1.1 o1) then
      if (List.length o5) + 1 ≤ 1048576 then
      tree_Under.l0 n m0 t0 t1 t4 t9 t10 (IntKind.wrap .i64 (t11 + 1)) o0 o1 (o5 ++ ([(t11, (List.getD t9 (Int.toNat t11) (dft tPlace) : (den tPlace)), ())] : List (den tSeen)))
      else none
    else
      tree_Under.l0 n m0 t0 t1 t4 t9 t10 (IntKind.wrap .i64 (t11 + 1)) o0 o1 o5
    else none
  else
    some ((o5, ()), [(0, [])]) := by kernel_rfl
theorem tree_Under.eq (n : Nat) (a0 : (den tWorld)) (a1 : (den tPlace)) : tree_Under (n + 1) a0 a1 =
  tree_Under.l0 n n a0 a1 ([] : List (den tSeen)) (a0.2.2.2.1 : (List (den tPlace))) ((List.length (a0.2.2.2.1 : (List (den tPlace)))) : Int) 0 a0 a1 ([] : List (den tSeen)) := by kernel_rfl
def tree_Depth.res : List Sh := [.d (.int .i64)]
@[reducible] def tree_Depth.R : Type := dShL [.d (.int .i64)] × Fresh
def tree_Depth (n : Nat) (a0 : (den tWorld)) (a1 : Int) : Option tree_Depth.R := gc n 21 [.dat tWorld a0 [], .dat (.int .i64) a1 []] [.d (.int .i64)]
theorem tree_Depth.eq (n : Nat) (a0 : (den tWorld)) (a1 : Int) : tree_Depth (n + 1) a0 a1 =
  Option.bind (tree_up n a0 a1) fun r1 =>
  Option.bind (slices_Collect_api_Place n r1.1.1.1 (r1.1.1.2.1 : Int)) fun r2 =>
  some (((IntKind.wrap .i64 (((List.length (r2.1.1 : (List (den tPlace)))) : Int) - 1)), ()), []) := by kernel_rfl
def tree_Within.res : List Sh := [.d .bool]
@[reducible] def tree_Within.R : Type := dShL [.d .bool] × Fresh
def tree_Within (n : Nat) (a0 : (den tWorld)) (a1 : Int) (a2 : Int) : Option tree_Within.R := gc n 25 [.dat tWorld a0 [], .dat (.int .i64) a1 [], .dat (.int .i64) a2 []] [.d .bool]
def tree_Height.res : List Sh := [.d (.int .i64)]
@[reducible] def tree_Height.R : Type := dShL [.d (.int .i64)] × Fresh
def tree_Height (n : Nat) (a0 : (den tWorld)) (a1 : Int) : Option tree_Height.R := gc n 23 [.dat tWorld a0 [], .dat (.int .i64) a1 []] [.d (.int .i64)]
def tree_Height.l0 (n m0 : Nat) (t0 : (den tWorld)) (t1 : Int) (t4 : Int) (t5 : Int) (t9 : Int) (t10 : Int) (o0 : (den tWorld)) : Option tree_Height.R :=
  loopN (fun Kn K s h => run (gc n) n tree_Height.c5 Kn K s h) m0 (kBlk 0 (kSeq (run (gc n) n) tree_Height.c2 (retK tree_Height.fn tree_Height.res) (retK tree_Height.fn tree_Height.res)) (retK tree_Height.fn tree_Height.res))
    [(0, .dat tWorld t0 []), (1, .dat (.int .i64) t1 []), (2, .ptr 0 []), (4, .dat (.int .i64) t4 []), (5, .dat (.int .i64) t5 []), (9, .dat (.int .i64) t9 []), (10, .dat (.int .i64) t10 [])]
    [.box tWorld o0 []]
theorem tree_Height.l0_eq (n m0 : Nat) (t0 : (den tWorld)) (t1 : Int) (t4 : Int) (t5 : Int) (t9 : Int) (t10 : Int) (o0 : (den tWorld)) : tree_Height.l0 n (m0 + 1) t0 t1 t4 t5 t9 t10 o0 =
  bif (decide (t10 < t9)) then
    Option.bind (tree_Within n o0 t10 t1) fun r1 =>
    bif (r1.1.1 : Bool) then
      Option.bind (tree_Depth n o0 t10) fun r2 =>
      Option.bind (tree_Depth n o0 t1) fun r3 =>
      tree_Height.l0 n m0 t0 t1 t4 (if t5 < (IntKind.wrap .i64 ((r2.1.1 : Int) - (r3.1.1 : Int))) then (IntKind.wrap .i64 ((r2.1.1 : Int) - (r3.1.1 : Int))) else t5) t9 (IntKind.wrap .i64 (t10 + 1)) o0
    else
      tree_Height.l0 n m0 t0 t1 t4 t5 t9 (IntKind.wrap .i64 (t10 + 1)) o0
  else
    some ((t5, ()), []) := by kernel_rfl
theorem tree_Height.eq (n : Nat) (a0 : (den tWorld)) (a1 : Int) : tree_Height (n + 1) a0 a1 =
  tree_Height.l0 n n a0 a1 0 0 ((List.length (a0.2.2.2.1 : (List (den tPlace)))) : Int) 0 a0 := by kernel_rfl
def tree_In.res : List Sh := [.d (.sl (.int .i64))]
@[reducible] def tree_In.R : Type := dShL [.d (.sl (.int .i64))] × Fresh
def tree_In (n : Nat) (a0 : (den tWorld)) (a1 : (den tPlace)) : Option tree_In.R := gc n 12 [.dat tWorld a0 [], .dat tPlace a1 []] [.d (.sl (.int .i64))]
def tree_In.l0 (n m0 : Nat) (t0 : (den tWorld)) (t1 : (den tPlace)) (t4 : (List Int)) (t9 : (List (den tPlace))) (t10 : Int) (t11 : Int) (o0 : (den tWorld)) (o1 : (den tPlace)) (o5 : (List Int)) : Option tree_In.R :=
  loopN (fun Kn K s h => run (gc n) n tree_In.c5 Kn K s h) m0 (kBlk 0 (kSeq (run (gc n) n) tree_In.c2 (retK tree_In.fn tree_In.res) (retK tree_In.fn tree_In.res)) (retK tree_In.fn tree_In.res))
    [(0, .dat tWorld t0 []), (1, .dat tPlace t1 []), (2, .ptr 0 []), (3, .ptr 1 []), (4, .dat (.sl (.int .i64)) t4 []), (5, .dat (.sl (.int .i64)) ([] : List Int) [([], some 5)]), (9, .dat (.sl tPlace) t9 []), (10, .dat (.int .i64) t10 []), (11, .dat (.int .i64) t11 [])]
    [.box tWorld o0 [], .box tPlace o1 [], .none, .none, .none, .arr (.int .i64) o5]
theorem tree_In.l0_eq (n m0 : Nat) (t0 : (den tWorld)) (t1 : (den tPlace)) (t4 : (List Int)) (t9 : (List (den tPlace))) (t10 : Int) (t11 : Int) (o0 : (den tWorld)) (o1 : (den tPlace)) (o5 : (List Int)) : tree_In.l0 n (m0 + 1) t0 t1 t4 t9 t10 t11 o0 o1 o5 =
  bif (decide (t11 < t10)) then
    if (0 : Int) ≤ t11 ∧ t11 < (((List.length t9) : Nat) : Int) then
    bif (eqT tPlace o1 (List.getD t9 (Int.toNat t11) (dft tPlace) : (den tPlace))) then
      if (List.length o5) + 1 ≤ 1048576 then
      tree_In.l0 n m0 t0 t1 t4 t9 t10 (IntKind.wrap .i64 (t11 + 1)) o0 o1 (o5 ++ ([t11] : List Int))
      else none
    else
      tree_In.l0 n m0 t0 t1 t4 t9 t10 (IntKind.wrap .i64 (t11 + 1)) o0 o1 o5
    else none
  else
    some ((o5, ()), [(0, [])]) := by kernel_rfl
theorem tree_In.eq (n : Nat) (a0 : (den tWorld)) (a1 : (den tPlace)) : tree_In (n + 1) a0 a1 =
  tree_In.l0 n n a0 a1 ([] : List Int) (a0.2.2.2.1 : (List (den tPlace))) ((List.length (a0.2.2.2.1 : (List (den tPlace)))) : Int) 0 a0 a1 ([] : List Int) := by kernel_rfl
def innkeepref03_Ints.res : List Sh := [.d .bool]
@[reducible] def innkeepref03_Ints.R : Type := dShL [.d .bool] × Fresh
def innkeepref03_Ints (n : Nat) (a0 : (List Int)) (a1 : (List Int)) : Option innkeepref03_Ints.R := gc n 11 [.dat (.sl (.int .i64)) a0 [], .dat (.sl (.int .i64)) a1 []] [.d .bool]
def innkeepref03_Ints.l0 (n m0 : Nat) (t0 : (List Int)) (t1 : (List Int)) (t4 : Bool) (t5 : Int) : Option innkeepref03_Ints.R :=
  loopN (fun Kn K s h => run (gc n) n innkeepref03_Ints.c9 Kn K s h) m0 (kBlk 0 (kSeq (run (gc n) n) innkeepref03_Ints.c7 (retK innkeepref03_Ints.fn innkeepref03_Ints.res) (retK innkeepref03_Ints.fn innkeepref03_Ints.res)) (retK innkeepref03_Ints.fn innkeepref03_Ints.res))
    [(0, .dat (.sl (.int .i64)) t0 []), (1, .dat (.sl (.int .i64)) t1 []), (4, .dat .bool t4 []), (5, .dat (.int .i64) t5 [])]
    []
theorem innkeepref03_Ints.l0_eq (n m0 : Nat) (t0 : (List Int)) (t1 : (List Int)) (t4 : Bool) (t5 : Int) : innkeepref03_Ints.l0 n (m0 + 1) t0 t1 t4 t5 =
  bif (decide (t5 < ((List.length t0) : Int))) then
    if (0 : Int) ≤ t5 ∧ t5 < (((List.length t0) : Nat) : Int) then
    if (0 : Int) ≤ t5 ∧ t5 < (((List.length t1) : Nat) : Int) then
    bif (!(decide ((List.getD t0 (Int.toNat t5) (0 : Int) : Int) = (List.getD t1 (Int.toNat t5) (0 : Int) : Int)))) then
      some ((false, ()), [])
    else
      innkeepref03_Ints.l0 n m0 t0 t1 t4 (IntKind.wrap .i64 (t5 + 1))
    else none
    else none
  else
    some ((true, ()), []) := by kernel_rfl
theorem innkeepref03_Ints.eq (n : Nat) (a0 : (List Int)) (a1 : (List Int)) : innkeepref03_Ints (n + 1) a0 a1 =
  bif (!(decide (((List.length a0) : Int) = ((List.length a1) : Int)))) then
    some ((false, ()), [])
  else
    innkeepref03_Ints.l0 n n a0 a1 false 0 := by kernel_rfl
def tree_Room.res : List Sh := [.d (.int .i64)]
@[reducible] def tree_Room.R : Type := dShL [.d (.int .i64)] × Fresh
def tree_Room (n : Nat) (a0 : (den tWorld)) (a1 : (den tPlace)) : Option tree_Room.R := gc n 14 [.dat tWorld a0 [], .dat tPlace a1 []] [.d (.int .i64)]
theorem tree_Room.eq (n : Nat) (a0 : (den tWorld)) (a1 : (den tPlace)) : tree_Room (n + 1) a0 a1 =
  if (0 : Int) ≤ (a1.1 : Int) ∧ (a1.1 : Int) < ((3 : Nat) : Int) then
  Option.bind (tree_In n a0 a1) fun r1 =>
  some (((IntKind.wrap .i64 ((List.getD ([(a0.1.2.2.2.2.2.1 : Int), (a0.1.2.2.2.2.2.2.1 : Int), (a0.1.2.2.2.2.2.2.2.1 : Int)] : List Int) (Int.toNat (a1.1 : Int)) (0 : Int) : Int) - ((List.length (r1.1.1 : (List Int))) : Int))), ()), [])
  else none := by kernel_rfl
def innkeeplaw07_awake.res : List Sh := [.d .bool]
@[reducible] def innkeeplaw07_awake.R : Type := dShL [.d .bool] × Fresh
def innkeeplaw07_awake (n : Nat) : Option innkeeplaw07_awake.R := gc n 8 [] [.d .bool]
theorem innkeeplaw07_awake.eq (n : Nat) : innkeeplaw07_awake (n + 1) =
  Option.bind (innkeepref06_New n ((List.replicate 2 (dft (.arr 4 (.int .i64)))), ([1] : List Int), ([5] : List Int), ([0, 0, 1] : List Int), ([true, true, true] : List Bool), 3, 4, 2, ())) fun r1 =>
  bif (keepAll r1.2 [((0, [3]), 8)]) then
    if (0 : Int) ≤ 0 ∧ 0 < (((List.length (r1.1.1.2.2.2.1 : (List (den tPlace)))) : Nat) : Int) then
    if (0 : Int) ≤ 1 ∧ 1 < (((List.length (List.set (r1.1.1.2.2.2.1 : (List (den tPlace))) 0 (1, 0, ()) : (List (den tPlace)))) : Nat) : Int) then
    Option.bind (tree_Under n (r1.1.1.1, (r1.1.1.2.1 : (List Int)), (r1.1.1.2.2.1 : (List Int)), (List.set (List.set (r1.1.1.2.2.2.1 : (List (den tPlace))) 0 (1, 0, ()) : (List (den tPlace))) 1 (2, 0, ()) : (List (den tPlace))), ()) (1, 0, ())) fun r2 =>
    Option.bind (tree_Root n (r1.1.1.1, (r1.1.1.2.1 : (List Int)), (r1.1.1.2.2.1 : (List Int)), (List.set (List.set (r1.1.1.2.2.2.1 : (List (den tPlace))) 0 (1, 0, ()) : (List (den tPlace))) 1 (2, 0, ()) : (List (den tPlace))), ()) 1) fun r3 =>
    bif (eqT tPlace r3.1.1 (1, 0, ())) then
      Option.bind (tree_Depth n (r1.1.1.1, (r1.1.1.2.1 : (List Int)), (r1.1.1.2.2.1 : (List Int)), (List.set (List.set (r1.1.1.2.2.2.1 : (List (den tPlace))) 0 (1, 0, ()) : (List (den tPlace))) 1 (2, 0, ()) : (List (den tPlace))), ()) 1) fun r4 =>
      bif (decide ((r4.1.1 : Int) = 1)) then
        Option.bind (tree_Depth n (r1.1.1.1, (r1.1.1.2.1 : (List Int)), (r1.1.1.2.2.1 : (List Int)), (List.set (List.set (r1.1.1.2.2.2.1 : (List (den tPlace))) 0 (1, 0, ()) : (List (den tPlace))) 1 (2, 0, ()) : (List (den tPlace))), ()) 0) fun r5 =>
        bif (decide ((r5.1.1 : Int) = 0)) then
          Option.bind (tree_Height n (r1.1.1.1, (r1.1.1.2.1 : (List Int)), (r1.1.1.2.2.1 : (List Int)), (List.set (List.set (r1.1.1.2.2.2.1 : (List (den tPlace))) 0 (1, 0, ()) : (List (den tPlace))) 1 (2, 0, ()) : (List (den tPlace))), ()) 0) fun r6 =>
          bif (decide ((r6.1.1 : Int) = 1)) then
            Option.bind (tree_Within n (r1.1.1.1, (r1.1.1.2.1 : (List Int)), (r1.1.1.2.2.1 : (List Int)), (List.set (List.set (r1.1.1.2.2.2.1 : (List (den tPlace))) 0 (1, 0, ()) : (List (den tPlace))) 1 (2, 0, ()) : (List (den tPlace))), ()) 1 0) fun r7 =>
            bif (r7.1.1 : Bool) then
              Option.bind (tree_Within n (r1.1.1.1, (r1.1.1.2.1 : (List Int)), (r1.1.1.2.2.1 : (List Int)), (List.set (List.set (r1.1.1.2.2.2.1 : (List (den tPlace))) 0 (1, 0, ()) : (List (den tPlace))) 1 (2, 0, ()) : (List (den tPlace))), ()) 0 1) fun r8 =>
              bif (!(r8.1.1 : Bool)) then
                Option.bind (tree_Within n (r1.1.1.1, (r1.1.1.2.1 : (List Int)), (r1.1.1.2.2.1 : (List Int)), (List.set (List.set (r1.1.1.2.2.2.1 : (List (den tPlace))) 0 (1, 0, ()) : (List (den tPlace))) 1 (2, 0, ()) : (List (den tPlace))), ()) 2 2) fun r9 =>
                bif (r9.1.1 : Bool) then
                  bif (decide (((List.length (r2.1.1 : (List (den tSeen)))) : Int) = 2)) then
                    if (0 : Int) ≤ 1 ∧ 1 < (((List.length (r2.1.1 : (List (den tSeen)))) : Nat) : Int) then
                    bif (eqT tSeen (List.getD (r2.1.1 : (List (den tSeen))) 1 (dft tSeen) : (den tSeen)) (1, (2, 0, ()), ())) then
                      Option.bind (tree_In n (r1.1.1.1, (r1.1.1.2.1 : (List Int)), (r1.1.1.2.2.1 : (List Int)), (List.set (List.set (r1.1.1.2.2.2.1 : (List (den tPlace))) 0 (1, 0, ()) : (List (den tPlace))) 1 (2, 0, ()) : (List (den tPlace))), ()) (1, 0, ())) fun r10 =>
                      Option.bind (innkeepref03_Ints n (r10.1.1 : (List Int)) ([0] : List Int)) fun r11 =>
                      bif (r11.1.1 : Bool) then
                        Option.bind (tree_Room n (r1.1.1.1, (r1.1.1.2.1 : (List Int)), (r1.1.1.2.2.1 : (List Int)), (List.set (List.set (r1.1.1.2.2.2.1 : (List (den tPlace))) 0 (1, 0, ()) : (List (den tPlace))) 1 (2, 0, ()) : (List (den tPlace))), ()) (1, 0, ())) fun r12 =>
                        bif (decide ((r12.1.1 : Int) = 3)) then
                          Option.bind (tree_Room n (r1.1.1.1, (r1.1.1.2.1 : (List Int)), (r1.1.1.2.2.1 : (List Int)), (List.set (List.set (r1.1.1.2.2.2.1 : (List (den tPlace))) 0 (1, 0, ()) : (List (den tPlace))) 1 (2, 0, ()) : (List (den tPlace))), ()) (2, 0, ())) fun r13 =>
                          some (((decide ((r13.1.1 : Int) = 1)), ()), [])
                        else
                          some ((false, ()), [])
                      else
                        some ((false, ()), [])
                    else
                      some ((false, ()), [])
                    else none
                  else
                    some ((false, ()), [])
                else
                  some ((false, ()), [])
              else
                some ((false, ()), [])
            else
              some ((false, ()), [])
          else
            some ((false, ()), [])
        else
          some ((false, ()), [])
      else
        some ((false, ()), [])
    else
      some ((false, ()), [])
    else none
    else none
  else
    none := by kernel_rfl
def innkeepref06_Few.res : List Sh := [.d .bool]
@[reducible] def innkeepref06_Few.R : Type := dShL [.d .bool] × Fresh
def innkeepref06_Few (n : Nat) (a0 : (den tWorld)) : Option innkeepref06_Few.R := gc n 31 [.dat tWorld a0 []] [.d .bool]
theorem innkeepref06_Few.eq (n : Nat) (a0 : (den tWorld)) : innkeepref06_Few (n + 1) a0 =
  bif (decide (((List.length (a0.1.1 : (List (List Int)))) : Int) ≤ 20)) then
    bif (decide (((List.length (a0.1.2.1 : (List Int))) : Int) ≤ 20)) then
      bif (decide (((List.length (a0.1.2.2.1 : (List Int))) : Int) ≤ 20)) then
        bif (decide (((List.length (a0.1.2.2.2.1 : (List Int))) : Int) ≤ 40)) then
          bif (decide (((List.length (a0.1.2.2.2.2.1 : (List Bool))) : Int) ≤ 40)) then
            bif (decide (((List.length (a0.2.1 : (List Int))) : Int) ≤ 40)) then
              bif (decide (((List.length (a0.2.2.1 : (List Int))) : Int) ≤ 40)) then
                some (((decide (((List.length (a0.2.2.2.1 : (List (den tPlace)))) : Int) ≤ 40)), ()), [])
              else
                some ((false, ()), [])
            else
              some ((false, ()), [])
          else
            some ((false, ()), [])
        else
          some ((false, ()), [])
      else
        some ((false, ()), [])
    else
      some ((false, ()), [])
  else
    some ((false, ()), []) := by kernel_rfl
def innkeepref06_in.res : List Sh := [.d .bool]
@[reducible] def innkeepref06_in.R : Type := dShL [.d .bool] × Fresh
def innkeepref06_in (n : Nat) (a0 : Int) (a1 : Int) : Option innkeepref06_in.R := gc n 39 [.dat (.int .i64) a0 [], .dat (.int .i64) a1 []] [.d .bool]
theorem innkeepref06_in.eq (n : Nat) (a0 : Int) (a1 : Int) : innkeepref06_in (n + 1) a0 a1 =
  bif (decide (0 ≤ a0)) then
    some (((decide (a0 < a1)), ()), [])
  else
    some ((false, ()), []) := by kernel_rfl
def innkeepref01_Is.res : List Sh := [.d .bool]
@[reducible] def innkeepref01_Is.R : Type := dShL [.d .bool] × Fresh
def innkeepref01_Is (n : Nat) (a0 : Int) : Option innkeepref01_Is.R := gc n 40 [.dat (.int .i64) a0 []] [.d .bool]
theorem innkeepref01_Is.eq (n : Nat) (a0 : Int) : innkeepref01_Is (n + 1) a0 =
  bif (decide (0 ≤ a0)) then
    some (((decide (a0 ≤ 1073741824)), ()), [])
  else
    some ((false, ()), []) := by kernel_rfl
def innkeepref06_May.res : List Sh := [.d .bool]
@[reducible] def innkeepref06_May.R : Type := dShL [.d .bool] × Fresh
def innkeepref06_May (n : Nat) (a0 : (den tDesc)) : Option innkeepref06_May.R := gc n 38 [.dat tDesc a0 []] [.d .bool]
def innkeepref06_May.l0 (n m0 : Nat) (t0 : (den tDesc)) (t2 : Bool) (t3 : Int) (t4 : Int) (o0 : (den tDesc)) : Option innkeepref06_May.R :=
  loopN (fun Kn K s h => run (gc n) n innkeepref06_May.c17 Kn K s h) m0 (kBlk 0 (kSeq (run (gc n) n) innkeepref06_May.c15 (retK innkeepref06_May.fn innkeepref06_May.res) (retK innkeepref06_May.fn innkeepref06_May.res)) (retK innkeepref06_May.fn innkeepref06_May.res))
    [(0, .dat tDesc t0 []), (1, .ptr 0 []), (2, .dat .bool t2 []), (3, .dat (.int .i64) t3 []), (4, .dat (.int .i64) t4 [])]
    [.box tDesc o0 []]
def innkeepref06_May.l1 (n m0 m1 : Nat) (t0_1 : (den tDesc)) (t2_1 : Bool) (t3_1 : Int) (t4_1 : Int) (t5_1 : Int) (o0_1 : (den tDesc)) : Option innkeepref06_May.R :=
  loopN (fun Kn K s h => run (gc n) n innkeepref06_May.c26 Kn K s h) m1 (kBlk 2 (kSeq (run (gc n) n) innkeepref06_May.c24 (kSeq (run (gc n) n) innkeepref06_May.c23 (kSeq (run (gc n) n) innkeepref06_May.c18 (fun _ s h => loopN (fun Kn K s h => run (gc n) n innkeepref06_May.c17 Kn K s h) m0 (kBlk 0 (kSeq (run (gc n) n) innkeepref06_May.c15 (retK innkeepref06_May.fn innkeepref06_May.res) (retK innkeepref06_May.fn innkeepref06_May.res)) (retK innkeepref06_May.fn innkeepref06_May.res)) s h) (kBlk 0 (kSeq (run (gc n) n) innkeepref06_May.c15 (retK innkeepref06_May.fn innkeepref06_May.res) (retK innkeepref06_May.fn innkeepref06_May.res)) (retK innkeepref06_May.fn innkeepref06_May.res))) (kBlk 0 (kSeq (run (gc n) n) innkeepref06_May.c15 (retK innkeepref06_May.fn innkeepref06_May.res) (retK innkeepref06_May.fn innkeepref06_May.res)) (retK innkeepref06_May.fn innkeepref06_May.res))) (kBlk 1 (kSeq (run (gc n) n) innkeepref06_May.c23 (kSeq (run (gc n) n) innkeepref06_May.c18 (fun _ s h => loopN (fun Kn K s h => run (gc n) n innkeepref06_May.c17 Kn K s h) m0 (kBlk 0 (kSeq (run (gc n) n) innkeepref06_May.c15 (retK innkeepref06_May.fn innkeepref06_May.res) (retK innkeepref06_May.fn innkeepref06_May.res)) (retK innkeepref06_May.fn innkeepref06_May.res)) s h) (kBlk 0 (kSeq (run (gc n) n) innkeepref06_May.c15 (retK innkeepref06_May.fn innkeepref06_May.res) (retK innkeepref06_May.fn innkeepref06_May.res)) (retK innkeepref06_May.fn innkeepref06_May.res))) (kBlk 0 (kSeq (run (gc n) n) innkeepref06_May.c15 (retK innkeepref06_May.fn innkeepref06_May.res) (retK innkeepref06_May.fn innkeepref06_May.res)) (retK innkeepref06_May.fn innkeepref06_May.res))) (kBlk 0 (kSeq (run (gc n) n) innkeepref06_May.c15 (retK innkeepref06_May.fn innkeepref06_May.res) (retK innkeepref06_May.fn innkeepref06_May.res)) (retK innkeepref06_May.fn innkeepref06_May.res)))) (kBlk 1 (kSeq (run (gc n) n) innkeepref06_May.c23 (kSeq (run (gc n) n) innkeepref06_May.c18 (fun _ s h => loopN (fun Kn K s h => run (gc n) n innkeepref06_May.c17 Kn K s h) m0 (kBlk 0 (kSeq (run (gc n) n) innkeepref06_May.c15 (retK innkeepref06_May.fn innkeepref06_May.res) (retK innkeepref06_May.fn innkeepref06_May.res)) (retK innkeepref06_May.fn innkeepref06_May.res)) s h) (kBlk 0 (kSeq (run (gc n) n) innkeepref06_May.c15 (retK innkeepref06_May.fn innkeepref06_May.res) (retK innkeepref06_May.fn innkeepref06_May.res)) (retK innkeepref06_May.fn innkeepref06_May.res))) (kBlk 0 (kSeq (run (gc n) n) innkeepref06_May.c15 (retK innkeepref06_May.fn innkeepref06_May.res) (retK innkeepref06_May.fn innkeepref06_May.res)) (retK innkeepref06_May.fn innkeepref06_May.res))) (kBlk 0 (kSeq (run (gc n) n) innkeepref06_May.c15 (retK innkeepref06_May.fn innkeepref06_May.res) (retK innkeepref06_May.fn innkeepref06_May.res)) (retK innkeepref06_May.fn innkeepref06_May.res))))
    [(0, .dat tDesc t0_1 []), (1, .ptr 0 []), (2, .dat .bool t2_1 []), (3, .dat (.int .i64) t3_1 []), (4, .dat (.int .i64) t4_1 []), (5, .dat (.int .i64) t5_1 [])]
    [.box tDesc o0_1 []]
def innkeepref06_May.l2 (n m0 m1 : Nat) (t0_2 : (den tDesc)) (t2_2 : Bool) (t3_2 : Int) (t4_2 : Int) (t5_2 : Int) (t6_2 : Int) (t7_2 : Int) (o0_2 : (den tDesc)) : Option innkeepref06_May.R :=
  loopN (fun Kn K s h => run (gc n) n innkeepref06_May.c43 Kn K s h) m1 (kBlk 4 (kSeq (run (gc n) n) innkeepref06_May.c41 (kSeq (run (gc n) n) innkeepref06_May.c23 (kSeq (run (gc n) n) innkeepref06_May.c18 (fun _ s h => loopN (fun Kn K s h => run (gc n) n innkeepref06_May.c17 Kn K s h) m0 (kBlk 0 (kSeq (run (gc n) n) innkeepref06_May.c15 (retK innkeepref06_May.fn innkeepref06_May.res) (retK innkeepref06_May.fn innkeepref06_May.res)) (retK innkeepref06_May.fn innkeepref06_May.res)) s h) (kBlk 0 (kSeq (run (gc n) n) innkeepref06_May.c15 (retK innkeepref06_May.fn innkeepref06_May.res) (retK innkeepref06_May.fn innkeepref06_May.res)) (retK innkeepref06_May.fn innkeepref06_May.res))) (kBlk 0 (kSeq (run (gc n) n) innkeepref06_May.c15 (retK innkeepref06_May.fn innkeepref06_May.res) (retK innkeepref06_May.fn innkeepref06_May.res)) (retK innkeepref06_May.fn innkeepref06_May.res))) (kBlk 1 (kSeq (run (gc n) n) innkeepref06_May.c23 (kSeq (run (gc n) n) innkeepref06_May.c18 (fun _ s h => loopN (fun Kn K s h => run (gc n) n innkeepref06_May.c17 Kn K s h) m0 (kBlk 0 (kSeq (run (gc n) n) innkeepref06_May.c15 (retK innkeepref06_May.fn innkeepref06_May.res) (retK innkeepref06_May.fn innkeepref06_May.res)) (retK innkeepref06_May.fn innkeepref06_May.res)) s h) (kBlk 0 (kSeq (run (gc n) n) innkeepref06_May.c15 (retK innkeepref06_May.fn innkeepref06_May.res) (retK innkeepref06_May.fn innkeepref06_May.res)) (retK innkeepref06_May.fn innkeepref06_May.res))) (kBlk 0 (kSeq (run (gc n) n) innkeepref06_May.c15 (retK innkeepref06_May.fn innkeepref06_May.res) (retK innkeepref06_May.fn innkeepref06_May.res)) (retK innkeepref06_May.fn innkeepref06_May.res))) (kBlk 0 (kSeq (run (gc n) n) innkeepref06_May.c15 (retK innkeepref06_May.fn innkeepref06_May.res) (retK innkeepref06_May.fn innkeepref06_May.res)) (retK innkeepref06_May.fn innkeepref06_May.res)))) (kBlk 1 (kSeq (run (gc n) n) innkeepref06_May.c23 (kSeq (run (gc n) n) innkeepref06_May.c18 (fun _ s h => loopN (fun Kn K s h => run (gc n) n innkeepref06_May.c17 Kn K s h) m0 (kBlk 0 (kSeq (run (gc n) n) innkeepref06_May.c15 (retK innkeepref06_May.fn innkeepref06_May.res) (retK innkeepref06_May.fn innkeepref06_May.res)) (retK innkeepref06_May.fn innkeepref06_May.res)) s h) (kBlk 0 (kSeq (run (gc n) n) innkeepref06_May.c15 (retK innkeepref06_May.fn innkeepref06_May.res) (retK innkeepref06_May.fn innkeepref06_May.res)) (retK innkeepref06_May.fn innkeepref06_May.res))) (kBlk 0 (kSeq (run (gc n) n) innkeepref06_May.c15 (retK innkeepref06_May.fn innkeepref06_May.res) (retK innkeepref06_May.fn innkeepref06_May.res)) (retK innkeepref06_May.fn innkeepref06_May.res))) (kBlk 0 (kSeq (run (gc n) n) innkeepref06_May.c15 (retK innkeepref06_May.fn innkeepref06_May.res) (retK innkeepref06_May.fn innkeepref06_May.res)) (retK innkeepref06_May.fn innkeepref06_May.res))))
    [(0, .dat tDesc t0_2 []), (1, .ptr 0 []), (2, .dat .bool t2_2 []), (3, .dat (.int .i64) t3_2 []), (4, .dat (.int .i64) t4_2 []), (5, .dat (.int .i64) t5_2 []), (6, .dat (.int .i64) t6_2 []), (7, .dat (.int .i64) t7_2 [])]
    [.box tDesc o0_2 []]
def innkeepref06_May.l3 (n m0 : Nat) (t0_3 : (den tDesc)) (t2_3 : Bool) (t3_3 : Int) (t4_3 : Int) (t8_3 : Int) (o0_3 : (den tDesc)) : Option innkeepref06_May.R :=
  loopN (fun Kn K s h => run (gc n) n innkeepref06_May.c66 Kn K s h) m0 (kBlk 6 (kSeq (run (gc n) n) innkeepref06_May.c64 (retK innkeepref06_May.fn innkeepref06_May.res) (retK innkeepref06_May.fn innkeepref06_May.res)) (retK innkeepref06_May.fn innkeepref06_May.res))
    [(0, .dat tDesc t0_3 []), (1, .ptr 0 []), (2, .dat .bool t2_3 []), (3, .dat (.int .i64) t3_3 []), (4, .dat (.int .i64) t4_3 []), (8, .dat (.int .i64) t8_3 [])]
    [.box tDesc o0_3 []]
def innkeepref06_May.l4 (n m0 : Nat) (t0_4 : (den tDesc)) (t2_4 : Bool) (t3_4 : Int) (t4_4 : Int) (t8_4 : Int) (t9_4 : Int) (o0_4 : (den tDesc)) : Option innkeepref06_May.R :=
  loopN (fun Kn K s h => run (gc n) n innkeepref06_May.c82 Kn K s h) m0 (kBlk 8 (kSeq (run (gc n) n) innkeepref06_May.c80 (retK innkeepref06_May.fn innkeepref06_May.res) (retK innkeepref06_May.fn innkeepref06_May.res)) (retK innkeepref06_May.fn innkeepref06_May.res))
    [(0, .dat tDesc t0_4 []), (1, .ptr 0 []), (2, .dat .bool t2_4 []), (3, .dat (.int .i64) t3_4 []), (4, .dat (.int .i64) t4_4 []), (8, .dat (.int .i64) t8_4 []), (9, .dat (.int .i64) t9_4 [])]
    [.box tDesc o0_4 []]
theorem innkeepref06_May.l0_eq (n m0 : Nat) (t0 : (den tDesc)) (t2 : Bool) (t3 : Int) (t4 : Int) (o0 : (den tDesc)) : innkeepref06_May.l0 n (m0 + 1) t0 t2 t3 t4 o0 =
  bif (decide (t4 < t3)) then
    innkeepref06_May.l1 n m0 n t0 t2 t3 t4 0 o0
  else
    innkeepref06_May.l3 n n t0 t2 t3 t4 0 o0 := by kernel_rfl
theorem innkeepref06_May.l1_eq (n m0 m1 : Nat) (t0_1 : (den tDesc)) (t2_1 : Bool) (t3_1 : Int) (t4_1 : Int) (t5_1 : Int) (o0_1 : (den tDesc)) : innkeepref06_May.l1 n m0 (m1 + 1) t0_1 t2_1 t3_1 t4_1 t5_1 o0_1 =
  bif (decide (t5_1 < 4)) then
    if (0 : Int) ≤ t4_1 ∧ t4_1 < (((List.length (o0_1.1 : (List (List Int)))) : Nat) : Int) then
    if (0 : Int) ≤ t5_1 ∧ t5_1 < ((4 : Nat) : Int) then
    bif (!(decide ((List.getD (List.getD (o0_1.1 : (List (List Int))) (Int.toNat t4_1) (dft (.arr 4 (.int .i64))) : (List Int)) (Int.toNat t5_1) (0 : Int) : Int) = (-1)))) then
      if (0 : Int) ≤ t4_1 ∧ t4_1 < (((List.length (o0_1.1 : (List (List Int)))) : Nat) : Int) then
      if (0 : Int) ≤ t5_1 ∧ t5_1 < ((4 : Nat) : Int) then
      Option.bind (innkeepref06_in n (List.getD (List.getD (o0_1.1 : (List (List Int))) (Int.toNat t4_1) (dft (.arr 4 (.int .i64))) : (List Int)) (Int.toNat t5_1) (0 : Int) : Int) t3_1) fun r4 =>
      bif (!(r4.1.1 : Bool)) then
        some ((false, ()), [])
      else
        innkeepref06_May.l1 n m0 m1 t0_1 t2_1 t3_1 t4_1 (IntKind.wrap .i64 (t5_1 + 1)) o0_1
      else none
      else none
    else
      innkeepref06_May.l1 n m0 m1 t0_1 t2_1 t3_1 t4_1 (IntKind.wrap .i64 (t5_1 + 1)) o0_1
    else none
    else none
  else
    innkeepref06_May.l2 n m0 n t0_1 t2_1 t3_1 t4_1 t5_1 0 0 o0_1 := by kernel_rfl
theorem innkeepref06_May.l2_eq (n m0 m1 : Nat) (t0_2 : (den tDesc)) (t2_2 : Bool) (t3_2 : Int) (t4_2 : Int) (t5_2 : Int) (t6_2 : Int) (t7_2 : Int) (o0_2 : (den tDesc)) : innkeepref06_May.l2 n m0 (m1 + 1) t0_2 t2_2 t3_2 t4_2 t5_2 t6_2 t7_2 o0_2 =
  bif (decide (t7_2 < ((List.length (o0_2.2.2.2.1 : (List Int))) : Int))) then
    if (0 : Int) ≤ t7_2 ∧ t7_2 < (((List.length (o0_2.2.2.2.1 : (List Int))) : Nat) : Int) then
    bif (decide ((List.getD (o0_2.2.2.2.1 : (List Int)) (Int.toNat t7_2) (0 : Int) : Int) = t4_2)) then
      innkeepref06_May.l2 n m0 m1 t0_2 t2_2 t3_2 t4_2 t5_2 (IntKind.wrap .i64 (t6_2 + 1)) (IntKind.wrap .i64 (t7_2 + 1)) o0_2
    else
      innkeepref06_May.l2 n m0 m1 t0_2 t2_2 t3_2 t4_2 t5_2 t6_2 (IntKind.wrap .i64 (t7_2 + 1)) o0_2
    else none
  else
    bif (decide ((o0_2.2.2.2.2.2.1 : Int) < t6_2)) then
      some ((false, ()), [])
    else
      innkeepref06_May.l0 n m0 t0_2 t2_2 t3_2 (IntKind.wrap .i64 (t4_2 + 1)) o0_2 := by kernel_rfl
theorem innkeepref06_May.l3_eq (n m0 : Nat) (t0_3 : (den tDesc)) (t2_3 : Bool) (t3_3 : Int) (t4_3 : Int) (t8_3 : Int) (o0_3 : (den tDesc)) : innkeepref06_May.l3 n (m0 + 1) t0_3 t2_3 t3_3 t4_3 t8_3 o0_3 =
  bif (decide (t8_3 < ((List.length (o0_3.2.1 : (List Int))) : Int))) then
    if (0 : Int) ≤ t8_3 ∧ t8_3 < (((List.length (o0_3.2.1 : (List Int))) : Nat) : Int) then
    Option.bind (innkeepref06_in n (List.getD (o0_3.2.1 : (List Int)) (Int.toNat t8_3) (0 : Int) : Int) t3_3) fun r5 =>
    bif (!(r5.1.1 : Bool)) then
      some ((false, ()), [])
    else
      if (0 : Int) ≤ t8_3 ∧ t8_3 < (((List.length (o0_3.2.2.1 : (List Int))) : Nat) : Int) then
      Option.bind (innkeepref01_Is n (List.getD (o0_3.2.2.1 : (List Int)) (Int.toNat t8_3) (0 : Int) : Int)) fun r6 =>
      bif (!(r6.1.1 : Bool)) then
        some ((false, ()), [])
      else
        innkeepref06_May.l3 n m0 t0_3 t2_3 t3_3 t4_3 (IntKind.wrap .i64 (t8_3 + 1)) o0_3
      else none
    else none
  else
    innkeepref06_May.l4 n n t0_3 t2_3 t3_3 t4_3 t8_3 0 o0_3 := by kernel_rfl
theorem innkeepref06_May.l4_eq (n m0 : Nat) (t0_4 : (den tDesc)) (t2_4 : Bool) (t3_4 : Int) (t4_4 : Int) (t8_4 : Int) (t9_4 : Int) (o0_4 : (den tDesc)) : innkeepref06_May.l4 n (m0 + 1) t0_4 t2_4 t3_4 t4_4 t8_4 t9_4 o0_4 =
  bif (decide (t9_4 < ((List.length (o0_4.2.2.2.1 : (List Int))) : Int))) then
    if (0 : Int) ≤ t9_4 ∧ t9_4 < (((List.length (o0_4.2.2.2.1 : (List Int))) : Nat) : Int) then
    Option.bind (innkeepref06_in n (List.getD (o0_4.2.2.2.1 : (List Int)) (Int.toNat t9_4) (0 : Int) : Int) t3_4) fun r7 =>
    bif (!(r7.1.1 : Bool)) then
      some ((false, ()), [])
    else
      innkeepref06_May.l4 n m0 t0_4 t2_4 t3_4 t4_4 t8_4 (IntKind.wrap .i64 (t9_4 + 1)) o0_4
    else none
  else
    some ((true, ()), []) := by kernel_rfl
theorem innkeepref06_May.eq (n : Nat) (a0 : (den tDesc)) : innkeepref06_May (n + 1) a0 =
  bif (decide (((List.length (a0.1 : (List (List Int)))) : Int) < 1)) then
    some ((false, ()), [])
  else
    bif (decide (8 < ((List.length (a0.1 : (List (List Int)))) : Int))) then
      some ((false, ()), [])
    else
      bif (decide (((List.length (a0.2.1 : (List Int))) : Int) < 1)) then
        some ((false, ()), [])
      else
        bif (decide (6 < ((List.length (a0.2.1 : (List Int))) : Int))) then
          some ((false, ()), [])
        else
          bif (!(decide (((List.length (a0.2.2.1 : (List Int))) : Int) = ((List.length (a0.2.1 : (List Int))) : Int)))) then
            some ((false, ()), [])
          else
            bif (decide (16 < ((List.length (a0.2.2.2.1 : (List Int))) : Int))) then
              some ((false, ()), [])
            else
              bif (!(decide (((List.length (a0.2.2.2.2.1 : (List Bool))) : Int) = ((List.length (a0.2.2.2.1 : (List Int))) : Int)))) then
                some ((false, ()), [])
              else
                Option.bind (innkeepref06_in n (a0.2.2.2.2.2.1 : Int) 65) fun r1 =>
                bif (!(r1.1.1 : Bool)) then
                  some ((false, ()), [])
                else
                  Option.bind (innkeepref06_in n (a0.2.2.2.2.2.2.1 : Int) 65) fun r2 =>
                  bif (!(r2.1.1 : Bool)) then
                    some ((false, ()), [])
                  else
                    Option.bind (innkeepref06_in n (a0.2.2.2.2.2.2.2.1 : Int) 65) fun r3 =>
                    bif (!(r3.1.1 : Bool)) then
                      some ((false, ()), [])
                    else
                      innkeepref06_May.l0 n n a0 false ((List.length (a0.1 : (List (List Int)))) : Int) 0 a0 := by kernel_rfl
def innkeepref06_Depth.res : List Sh := [.d (.int .i64)]
@[reducible] def innkeepref06_Depth.R : Type := dShL [.d (.int .i64)] × Fresh
def innkeepref06_Depth (n : Nat) (a0 : (den tWorld)) (a1 : (den tPlace)) : Option innkeepref06_Depth.R := gc n 36 [.dat tWorld a0 [], .dat tPlace a1 []] [.d (.int .i64)]
def innkeepref06_Depth.l0 (n m0 : Nat) (t0 : (den tWorld)) (t1 : (den tPlace)) (t4 : Int) (t5 : Int) (o0 : (den tWorld)) (o1 : (den tPlace)) : Option innkeepref06_Depth.R :=
  loopN (fun Kn K s h => run (gc n) n innkeepref06_Depth.c3 Kn K s h) m0 (kBlk 0 (kSeq (run (gc n) n) innkeepref06_Depth.c2 (retK innkeepref06_Depth.fn innkeepref06_Depth.res) (retK innkeepref06_Depth.fn innkeepref06_Depth.res)) (retK innkeepref06_Depth.fn innkeepref06_Depth.res))
    [(0, .dat tWorld t0 []), (1, .dat tPlace t1 []), (2, .ptr 0 []), (3, .ptr 1 []), (4, .dat (.int .i64) t4 []), (5, .dat (.int .i64) t5 [])]
    [.box tWorld o0 [], .box tPlace o1 []]
theorem innkeepref06_Depth.l0_eq (n m0 : Nat) (t0 : (den tWorld)) (t1 : (den tPlace)) (t4 : Int) (t5 : Int) (o0 : (den tWorld)) (o1 : (den tPlace)) : innkeepref06_Depth.l0 n (m0 + 1) t0 t1 t4 t5 o0 o1 =
  bif (decide ((o1.1 : Int) = 2)) then
    bif (decide (50 < (IntKind.wrap .i64 (t5 + 1)))) then
      some ((99, ()), [])
    else
      if (0 : Int) ≤ (o1.2.1 : Int) ∧ (o1.2.1 : Int) < (((List.length (o0.2.2.2.1 : (List (den tPlace)))) : Nat) : Int) then
      innkeepref06_Depth.l0 n m0 t0 t1 t4 (IntKind.wrap .i64 (t5 + 1)) o0 (List.getD (o0.2.2.2.1 : (List (den tPlace))) (Int.toNat (o1.2.1 : Int)) (dft tPlace) : (den tPlace))
      else none
  else
    some ((t5, ()), []) := by kernel_rfl
theorem innkeepref06_Depth.eq (n : Nat) (a0 : (den tWorld)) (a1 : (den tPlace)) : innkeepref06_Depth (n + 1) a0 a1 =
  innkeepref06_Depth.l0 n n a0 a1 0 0 a0 a1 := by kernel_rfl
def innkeepref06_Many.res : List Sh := [.d (.int .i64)]
@[reducible] def innkeepref06_Many.R : Type := dShL [.d (.int .i64)] × Fresh
def innkeepref06_Many (n : Nat) (a0 : (den tWorld)) (a1 : (den tPlace)) : Option innkeepref06_Many.R := gc n 33 [.dat tWorld a0 [], .dat tPlace a1 []] [.d (.int .i64)]
def innkeepref06_Many.l0 (n m0 : Nat) (t0 : (den tWorld)) (t1 : (den tPlace)) (t4 : Int) (t5 : Int) (t6 : Int) (o0 : (den tWorld)) (o1 : (den tPlace)) : Option innkeepref06_Many.R :=
  loopN (fun Kn K s h => run (gc n) n innkeepref06_Many.c4 Kn K s h) m0 (kBlk 0 (kSeq (run (gc n) n) innkeepref06_Many.c2 (retK innkeepref06_Many.fn innkeepref06_Many.res) (retK innkeepref06_Many.fn innkeepref06_Many.res)) (retK innkeepref06_Many.fn innkeepref06_Many.res))
    [(0, .dat tWorld t0 []), (1, .dat tPlace t1 []), (2, .ptr 0 []), (3, .ptr 1 []), (4, .dat (.int .i64) t4 []), (5, .dat (.int .i64) t5 []), (6, .dat (.int .i64) t6 [])]
    [.box tWorld o0 [], .box tPlace o1 []]
theorem innkeepref06_Many.l0_eq (n m0 : Nat) (t0 : (den tWorld)) (t1 : (den tPlace)) (t4 : Int) (t5 : Int) (t6 : Int) (o0 : (den tWorld)) (o1 : (den tPlace)) : innkeepref06_Many.l0 n (m0 + 1) t0 t1 t4 t5 t6 o0 o1 =
  bif (decide (t6 < ((List.length (o0.2.2.2.1 : (List (den tPlace)))) : Int))) then
    if (0 : Int) ≤ t6 ∧ t6 < (((List.length (o0.2.2.2.1 : (List (den tPlace)))) : Nat) : Int) then
    bif (eqT tPlace (List.getD (o0.2.2.2.1 : (List (den tPlace))) (Int.toNat t6) (dft tPlace) : (den tPlace)) o1) then
      innkeepref06_Many.l0 n m0 t0 t1 t4 (IntKind.wrap .i64 (t5 + 1)) (IntKind.wrap .i64 (t6 + 1)) o0 o1
    else
      innkeepref06_Many.l0 n m0 t0 t1 t4 t5 (IntKind.wrap .i64 (t6 + 1)) o0 o1
    else none
  else
    some ((t5, ()), []) := by kernel_rfl
theorem innkeepref06_Many.eq (n : Nat) (a0 : (den tWorld)) (a1 : (den tPlace)) : innkeepref06_Many (n + 1) a0 a1 =
  innkeepref06_Many.l0 n n a0 a1 0 0 0 a0 a1 := by kernel_rfl
def innkeepref06_Cap.res : List Sh := [.d (.int .i64)]
@[reducible] def innkeepref06_Cap.R : Type := dShL [.d (.int .i64)] × Fresh
def innkeepref06_Cap (n : Nat) (a0 : (den tWorld)) (a1 : (den tPlace)) : Option innkeepref06_Cap.R := gc n 32 [.dat tWorld a0 [], .dat tPlace a1 []] [.d (.int .i64)]
theorem innkeepref06_Cap.eq (n : Nat) (a0 : (den tWorld)) (a1 : (den tPlace)) : innkeepref06_Cap (n + 1) a0 a1 =
  if (0 : Int) ≤ (a1.1 : Int) ∧ (a1.1 : Int) < ((3 : Nat) : Int) then
  some (((List.getD ([(a0.1.2.2.2.2.2.1 : Int), (a0.1.2.2.2.2.2.2.1 : Int), (a0.1.2.2.2.2.2.2.2.1 : Int)] : List Int) (Int.toNat (a1.1 : Int)) (0 : Int) : Int), ()), [])
  else none := by kernel_rfl
def innkeepref06_Right.res : List Sh := [.d .bool]
@[reducible] def innkeepref06_Right.R : Type := dShL [.d .bool] × Fresh
def innkeepref06_Right (n : Nat) (a0 : (den tWorld)) : Option innkeepref06_Right.R := gc n 29 [.dat tWorld a0 []] [.d .bool]
def innkeepref06_Right.l0 (n m0 : Nat) (t0 : (den tWorld)) (t2 : Bool) (t4 : Int) (o0 : (den tWorld)) (o1 : (den tDesc)) : Option innkeepref06_Right.R :=
  loopN (fun Kn K s h => run (gc n) n innkeepref06_Right.c11 Kn K s h) m0 (kBlk 0 (kSeq (run (gc n) n) innkeepref06_Right.c9 (retK innkeepref06_Right.fn innkeepref06_Right.res) (retK innkeepref06_Right.fn innkeepref06_Right.res)) (retK innkeepref06_Right.fn innkeepref06_Right.res))
    [(0, .dat tWorld t0 []), (1, .ptr 0 []), (2, .dat .bool t2 []), (3, .ptr 1 []), (4, .dat (.int .i64) t4 [])]
    [.box tWorld o0 [], .box tDesc o1 []]
def innkeepref06_Right.l1 (n m0 : Nat) (t0_1 : (den tWorld)) (t2_1 : Bool) (t4_1 : Int) (t5_1 : Int) (o0_1 : (den tWorld)) (o1_1 : (den tDesc)) : Option innkeepref06_Right.R :=
  loopN (fun Kn K s h => run (gc n) n innkeepref06_Right.c27 Kn K s h) m0 (kBlk 2 (kSeq (run (gc n) n) innkeepref06_Right.c25 (retK innkeepref06_Right.fn innkeepref06_Right.res) (retK innkeepref06_Right.fn innkeepref06_Right.res)) (retK innkeepref06_Right.fn innkeepref06_Right.res))
    [(0, .dat tWorld t0_1 []), (1, .ptr 0 []), (2, .dat .bool t2_1 []), (3, .ptr 1 []), (4, .dat (.int .i64) t4_1 []), (5, .dat (.int .i64) t5_1 [])]
    [.box tWorld o0_1 [], .box tDesc o1_1 []]
def innkeepref06_Right.l2 (n m0 : Nat) (t0_2 : (den tWorld)) (t2_2 : Bool) (t4_2 : Int) (t5_2 : Int) (t8_2 : Int) (o0_2 : (den tWorld)) (o1_2 : (den tDesc)) : Option innkeepref06_Right.R :=
  loopN (fun Kn K s h => run (gc n) n innkeepref06_Right.c47 Kn K s h) m0 (kBlk 4 (kSeq (run (gc n) n) innkeepref06_Right.c45 (retK innkeepref06_Right.fn innkeepref06_Right.res) (retK innkeepref06_Right.fn innkeepref06_Right.res)) (retK innkeepref06_Right.fn innkeepref06_Right.res))
    [(0, .dat tWorld t0_2 []), (1, .ptr 0 []), (2, .dat .bool t2_2 []), (3, .ptr 1 []), (4, .dat (.int .i64) t4_2 []), (5, .dat (.int .i64) t5_2 []), (8, .dat (.int .i64) t8_2 [])]
    [.box tWorld o0_2 [], .box tDesc o1_2 []]
theorem innkeepref06_Right.l0_eq (n m0 : Nat) (t0 : (den tWorld)) (t2 : Bool) (t4 : Int) (o0 : (den tWorld)) (o1 : (den tDesc)) : innkeepref06_Right.l0 n (m0 + 1) t0 t2 t4 o0 o1 =
  bif (decide (t4 < ((List.length (o0.2.1 : (List Int))) : Int))) then
    if (0 : Int) ≤ t4 ∧ t4 < (((List.length (o0.2.1 : (List Int))) : Nat) : Int) then
    Option.bind (innkeepref06_in n (List.getD (o0.2.1 : (List Int)) (Int.toNat t4) (0 : Int) : Int) ((List.length (o1.1 : (List (List Int)))) : Int)) fun r2 =>
    bif (!(r2.1.1 : Bool)) then
      some ((false, ()), [])
    else
      if (0 : Int) ≤ t4 ∧ t4 < (((List.length (o0.2.2.1 : (List Int))) : Nat) : Int) then
      Option.bind (innkeepref01_Is n (List.getD (o0.2.2.1 : (List Int)) (Int.toNat t4) (0 : Int) : Int)) fun r3 =>
      bif (!(r3.1.1 : Bool)) then
        some ((false, ()), [])
      else
        innkeepref06_Right.l0 n m0 t0 t2 (IntKind.wrap .i64 (t4 + 1)) o0 o1
      else none
    else none
  else
    innkeepref06_Right.l1 n n t0 t2 t4 0 o0 o1 := by kernel_rfl
theorem innkeepref06_Right.l1_eq (n m0 : Nat) (t0_1 : (den tWorld)) (t2_1 : Bool) (t4_1 : Int) (t5_1 : Int) (o0_1 : (den tWorld)) (o1_1 : (den tDesc)) : innkeepref06_Right.l1 n (m0 + 1) t0_1 t2_1 t4_1 t5_1 o0_1 o1_1 =
  bif (decide (t5_1 < ((List.length (o0_1.2.2.2.1 : (List (den tPlace)))) : Int))) then
    if (0 : Int) ≤ t5_1 ∧ t5_1 < (((List.length (o0_1.2.2.2.1 : (List (den tPlace)))) : Nat) : Int) then
    bif (decide (((List.getD (o0_1.2.2.2.1 : (List (den tPlace))) (Int.toNat t5_1) (dft tPlace) : (den tPlace)).1 : Int) = 0)) then
      Option.bind (innkeepref06_in n ((List.getD (o0_1.2.2.2.1 : (List (den tPlace))) (Int.toNat t5_1) (dft tPlace) : (den tPlace)).2.1 : Int) ((List.length (o1_1.1 : (List (List Int)))) : Int)) fun r4 =>
      bif (r4.1.1 : Bool) then
        innkeepref06_Right.l1 n m0 t0_1 t2_1 t4_1 (IntKind.wrap .i64 (t5_1 + 1)) o0_1 o1_1
      else
        bif (decide (((List.getD (o0_1.2.2.2.1 : (List (den tPlace))) (Int.toNat t5_1) (dft tPlace) : (den tPlace)).1 : Int) = 1)) then
          Option.bind (innkeepref06_in n ((List.getD (o0_1.2.2.2.1 : (List (den tPlace))) (Int.toNat t5_1) (dft tPlace) : (den tPlace)).2.1 : Int) ((List.length (o1_1.2.1 : (List Int))) : Int)) fun r5 =>
          bif (r5.1.1 : Bool) then
            innkeepref06_Right.l1 n m0 t0_1 t2_1 t4_1 (IntKind.wrap .i64 (t5_1 + 1)) o0_1 o1_1
          else
            bif (decide (((List.getD (o0_1.2.2.2.1 : (List (den tPlace))) (Int.toNat t5_1) (dft tPlace) : (den tPlace)).1 : Int) = 2)) then
              Option.bind (innkeepref06_in n ((List.getD (o0_1.2.2.2.1 : (List (den tPlace))) (Int.toNat t5_1) (dft tPlace) : (den tPlace)).2.1 : Int) ((List.length (o1_1.2.2.2.1 : (List Int))) : Int)) fun r6 =>
              bif (r6.1.1 : Bool) then
                if (0 : Int) ≤ ((List.getD (o0_1.2.2.2.1 : (List (den tPlace))) (Int.toNat t5_1) (dft tPlace) : (den tPlace)).2.1 : Int) ∧ ((List.getD (o0_1.2.2.2.1 : (List (den tPlace))) (Int.toNat t5_1) (dft tPlace) : (den tPlace)).2.1 : Int) < (((List.length (o1_1.2.2.2.2.1 : (List Bool))) : Nat) : Int) then
                bif (!(List.getD (o1_1.2.2.2.2.1 : (List Bool)) (Int.toNat ((List.getD (o0_1.2.2.2.1 : (List (den tPlace))) (Int.toNat t5_1) (dft tPlace) : (den tPlace)).2.1 : Int)) false : Bool)) then
                  some ((false, ()), [])
                else
                  innkeepref06_Right.l1 n m0 t0_1 t2_1 t4_1 (IntKind.wrap .i64 (t5_1 + 1)) o0_1 o1_1
                else none
              else
                some ((false, ()), [])
            else
              some ((false, ()), [])
        else
          bif (decide (((List.getD (o0_1.2.2.2.1 : (List (den tPlace))) (Int.toNat t5_1) (dft tPlace) : (den tPlace)).1 : Int) = 2)) then
            Option.bind (innkeepref06_in n ((List.getD (o0_1.2.2.2.1 : (List (den tPlace))) (Int.toNat t5_1) (dft tPlace) : (den tPlace)).2.1 : Int) ((List.length (o1_1.2.2.2.1 : (List Int))) : Int)) fun r7 =>
            bif (r7.1.1 : Bool) then
              if (0 : Int) ≤ ((List.getD (o0_1.2.2.2.1 : (List (den tPlace))) (Int.toNat t5_1) (dft tPlace) : (den tPlace)).2.1 : Int) ∧ ((List.getD (o0_1.2.2.2.1 : (List (den tPlace))) (Int.toNat t5_1) (dft tPlace) : (den tPlace)).2.1 : Int) < (((List.length (o1_1.2.2.2.2.1 : (List Bool))) : Nat) : Int) then
              bif (!(List.getD (o1_1.2.2.2.2.1 : (List Bool)) (Int.toNat ((List.getD (o0_1.2.2.2.1 : (List (den tPlace))) (Int.toNat t5_1) (dft tPlace) : (den tPlace)).2.1 : Int)) false : Bool)) then
                some ((false, ()), [])
              else
                innkeepref06_Right.l1 n m0 t0_1 t2_1 t4_1 (IntKind.wrap .i64 (t5_1 + 1)) o0_1 o1_1
              else none
            else
              some ((false, ()), [])
          else
            some ((false, ()), [])
    else
      bif (decide (((List.getD (o0_1.2.2.2.1 : (List (den tPlace))) (Int.toNat t5_1) (dft tPlace) : (den tPlace)).1 : Int) = 1)) then
        Option.bind (innkeepref06_in n ((List.getD (o0_1.2.2.2.1 : (List (den tPlace))) (Int.toNat t5_1) (dft tPlace) : (den tPlace)).2.1 : Int) ((List.length (o1_1.2.1 : (List Int))) : Int)) fun r8 =>
        bif (r8.1.1 : Bool) then
          innkeepref06_Right.l1 n m0 t0_1 t2_1 t4_1 (IntKind.wrap .i64 (t5_1 + 1)) o0_1 o1_1
        else
          bif (decide (((List.getD (o0_1.2.2.2.1 : (List (den tPlace))) (Int.toNat t5_1) (dft tPlace) : (den tPlace)).1 : Int) = 2)) then
            Option.bind (innkeepref06_in n ((List.getD (o0_1.2.2.2.1 : (List (den tPlace))) (Int.toNat t5_1) (dft tPlace) : (den tPlace)).2.1 : Int) ((List.length (o1_1.2.2.2.1 : (List Int))) : Int)) fun r9 =>
            bif (r9.1.1 : Bool) then
              if (0 : Int) ≤ ((List.getD (o0_1.2.2.2.1 : (List (den tPlace))) (Int.toNat t5_1) (dft tPlace) : (den tPlace)).2.1 : Int) ∧ ((List.getD (o0_1.2.2.2.1 : (List (den tPlace))) (Int.toNat t5_1) (dft tPlace) : (den tPlace)).2.1 : Int) < (((List.length (o1_1.2.2.2.2.1 : (List Bool))) : Nat) : Int) then
              bif (!(List.getD (o1_1.2.2.2.2.1 : (List Bool)) (Int.toNat ((List.getD (o0_1.2.2.2.1 : (List (den tPlace))) (Int.toNat t5_1) (dft tPlace) : (den tPlace)).2.1 : Int)) false : Bool)) then
                some ((false, ()), [])
              else
                innkeepref06_Right.l1 n m0 t0_1 t2_1 t4_1 (IntKind.wrap .i64 (t5_1 + 1)) o0_1 o1_1
              else none
            else
              some ((false, ()), [])
          else
            some ((false, ()), [])
      else
        bif (decide (((List.getD (o0_1.2.2.2.1 : (List (den tPlace))) (Int.toNat t5_1) (dft tPlace) : (den tPlace)).1 : Int) = 2)) then
          Option.bind (innkeepref06_in n ((List.getD (o0_1.2.2.2.1 : (List (den tPlace))) (Int.toNat t5_1) (dft tPlace) : (den tPlace)).2.1 : Int) ((List.length (o1_1.2.2.2.1 : (List Int))) : Int)) fun r10 =>
          bif (r10.1.1 : Bool) then
            if (0 : Int) ≤ ((List.getD (o0_1.2.2.2.1 : (List (den tPlace))) (Int.toNat t5_1) (dft tPlace) : (den tPlace)).2.1 : Int) ∧ ((List.getD (o0_1.2.2.2.1 : (List (den tPlace))) (Int.toNat t5_1) (dft tPlace) : (den tPlace)).2.1 : Int) < (((List.length (o1_1.2.2.2.2.1 : (List Bool))) : Nat) : Int) then
            bif (!(List.getD (o1_1.2.2.2.2.1 : (List Bool)) (Int.toNat ((List.getD (o0_1.2.2.2.1 : (List (den tPlace))) (Int.toNat t5_1) (dft tPlace) : (den tPlace)).2.1 : Int)) false : Bool)) then
              some ((false, ()), [])
            else
              innkeepref06_Right.l1 n m0 t0_1 t2_1 t4_1 (IntKind.wrap .i64 (t5_1 + 1)) o0_1 o1_1
            else none
          else
            some ((false, ()), [])
        else
          some ((false, ()), [])
    else none
  else
    innkeepref06_Right.l2 n n t0_1 t2_1 t4_1 t5_1 0 o0_1 o1_1 := by kernel_rfl
theorem innkeepref06_Right.l2_eq (n m0 : Nat) (t0_2 : (den tWorld)) (t2_2 : Bool) (t4_2 : Int) (t5_2 : Int) (t8_2 : Int) (o0_2 : (den tWorld)) (o1_2 : (den tDesc)) : innkeepref06_Right.l2 n (m0 + 1) t0_2 t2_2 t4_2 t5_2 t8_2 o0_2 o1_2 =
  bif (decide (t8_2 < ((List.length (o0_2.2.2.2.1 : (List (den tPlace)))) : Int))) then
    if (0 : Int) ≤ t8_2 ∧ t8_2 < (((List.length (o0_2.2.2.2.1 : (List (den tPlace)))) : Nat) : Int) then
    Option.bind (innkeepref06_Depth n o0_2 (List.getD (o0_2.2.2.2.1 : (List (den tPlace))) (Int.toNat t8_2) (dft tPlace) : (den tPlace))) fun r11 =>
    bif (decide (4 < (r11.1.1 : Int))) then
      some ((false, ()), [])
    else
      if (0 : Int) ≤ t8_2 ∧ t8_2 < (((List.length (o0_2.2.2.2.1 : (List (den tPlace)))) : Nat) : Int) then
      Option.bind (innkeepref06_Many n o0_2 (List.getD (o0_2.2.2.2.1 : (List (den tPlace))) (Int.toNat t8_2) (dft tPlace) : (den tPlace))) fun r12 =>
      if (0 : Int) ≤ t8_2 ∧ t8_2 < (((List.length (o0_2.2.2.2.1 : (List (den tPlace)))) : Nat) : Int) then
      Option.bind (innkeepref06_Cap n o0_2 (List.getD (o0_2.2.2.2.1 : (List (den tPlace))) (Int.toNat t8_2) (dft tPlace) : (den tPlace))) fun r13 =>
      bif (decide ((r13.1.1 : Int) < (r12.1.1 : Int))) then
        some ((false, ()), [])
      else
        innkeepref06_Right.l2 n m0 t0_2 t2_2 t4_2 t5_2 (IntKind.wrap .i64 (t8_2 + 1)) o0_2 o1_2
      else none
      else none
    else none
  else
    some ((true, ()), []) := by kernel_rfl
theorem innkeepref06_Right.eq (n : Nat) (a0 : (den tWorld)) : innkeepref06_Right (n + 1) a0 =
  Option.bind (innkeepref06_May n a0.1) fun r1 =>
  bif (!(r1.1.1 : Bool)) then
    some ((false, ()), [])
  else
    bif (!(decide (((List.length (a0.2.1 : (List Int))) : Int) = ((List.length (a0.1.2.1 : (List Int))) : Int)))) then
      some ((false, ()), [])
    else
      bif (!(decide (((List.length (a0.2.2.1 : (List Int))) : Int) = ((List.length (a0.1.2.1 : (List Int))) : Int)))) then
        some ((false, ()), [])
      else
        bif (!(decide (((List.length (a0.2.2.2.1 : (List (den tPlace)))) : Int) = ((List.length (a0.1.2.2.2.1 : (List Int))) : Int)))) then
          some ((false, ()), [])
        else
          innkeepref06_Right.l0 n n a0 false 0 a0 a0.1 := by kernel_rfl
def innkeeplaw07_fits.res : List Sh := [.d .bool]
@[reducible] def innkeeplaw07_fits.R : Type := dShL [.d .bool] × Fresh
def innkeeplaw07_fits (n : Nat) (a0 : (den tWorld)) : Option innkeeplaw07_fits.R := gc n 9 [.dat tWorld a0 []] [.d .bool]
theorem innkeeplaw07_fits.eq (n : Nat) (a0 : (den tWorld)) : innkeeplaw07_fits (n + 1) a0 =
  Option.bind (innkeepref06_Few n a0) fun r1 =>
  bif (r1.1.1 : Bool) then
    Option.bind (innkeepref06_Right n a0) fun r2 =>
    some (((r2.1.1 : Bool), ()), [])
  else
    some ((false, ()), []) := by kernel_rfl
def innkeepref07_Is.res : List Sh := [.d .bool]
@[reducible] def innkeepref07_Is.R : Type := dShL [.d .bool] × Fresh
def innkeepref07_Is (n : Nat) (a0 : (den tWorld)) (a1 : (den tPlace)) : Option innkeepref07_Is.R := gc n 10 [.dat tWorld a0 [], .dat tPlace a1 []] [.d .bool]
theorem innkeepref07_Is.eq (n : Nat) (a0 : (den tWorld)) (a1 : (den tPlace)) : innkeepref07_Is (n + 1) a0 a1 =
  bif (decide (0 ≤ (a1.2.1 : Int))) then
    bif (decide ((a1.1 : Int) = 0)) then
      bif (decide ((a1.2.1 : Int) < ((List.length (a0.1.1 : (List (List Int)))) : Int))) then
        some ((true, ()), [])
      else
        bif (decide ((a1.1 : Int) = 1)) then
          bif (decide ((a1.2.1 : Int) < ((List.length (a0.2.1 : (List Int))) : Int))) then
            some ((true, ()), [])
          else
            bif (decide ((a1.1 : Int) = 2)) then
              some (((decide ((a1.2.1 : Int) < ((List.length (a0.2.2.2.1 : (List (den tPlace)))) : Int))), ()), [])
            else
              some ((false, ()), [])
        else
          bif (decide ((a1.1 : Int) = 2)) then
            some (((decide ((a1.2.1 : Int) < ((List.length (a0.2.2.2.1 : (List (den tPlace)))) : Int))), ()), [])
          else
            some ((false, ()), [])
    else
      bif (decide ((a1.1 : Int) = 1)) then
        bif (decide ((a1.2.1 : Int) < ((List.length (a0.2.1 : (List Int))) : Int))) then
          some ((true, ()), [])
        else
          bif (decide ((a1.1 : Int) = 2)) then
            some (((decide ((a1.2.1 : Int) < ((List.length (a0.2.2.2.1 : (List (den tPlace)))) : Int))), ()), [])
          else
            some ((false, ()), [])
      else
        bif (decide ((a1.1 : Int) = 2)) then
          some (((decide ((a1.2.1 : Int) < ((List.length (a0.2.2.2.1 : (List (den tPlace)))) : Int))), ()), [])
        else
          some ((false, ()), [])
  else
    some ((false, ()), []) := by kernel_rfl
def innkeepref07_In.res : List Sh := [.d (.sl (.int .i64))]
@[reducible] def innkeepref07_In.R : Type := dShL [.d (.sl (.int .i64))] × Fresh
def innkeepref07_In (n : Nat) (a0 : (den tWorld)) (a1 : (den tPlace)) : Option innkeepref07_In.R := gc n 13 [.dat tWorld a0 [], .dat tPlace a1 []] [.d (.sl (.int .i64))]
def innkeepref07_In.l0 (n m0 : Nat) (t0 : (den tWorld)) (t1 : (den tPlace)) (t4 : (List Int)) (t6 : Int) (o0 : (den tWorld)) (o1 : (den tPlace)) (o4 : (List Int)) : Option innkeepref07_In.R :=
  loopN (fun Kn K s h => run (gc n) n innkeepref07_In.c4 Kn K s h) m0 (kBlk 0 (kSeq (run (gc n) n) innkeepref07_In.c2 (retK innkeepref07_In.fn innkeepref07_In.res) (retK innkeepref07_In.fn innkeepref07_In.res)) (retK innkeepref07_In.fn innkeepref07_In.res))
    [(0, .dat tWorld t0 []), (1, .dat tPlace t1 []), (2, .ptr 0 []), (3, .ptr 1 []), (4, .dat (.sl (.int .i64)) t4 []), (5, .dat (.sl (.int .i64)) ([] : List Int) [([], some 4)]), (6, .dat (.int .i64) t6 [])]
    [.box tWorld o0 [], .box tPlace o1 [], .none, .none, .arr (.int .i64) o4]
theorem innkeepref07_In.l0_eq (n m0 : Nat) (t0 : (den tWorld)) (t1 : (den tPlace)) (t4 : (List Int)) (t6 : Int) (o0 : (den tWorld)) (o1 : (den tPlace)) (o4 : (List Int)) : innkeepref07_In.l0 n (m0 + 1) t0 t1 t4 t6 o0 o1 o4 =
  bif (decide (t6 < ((List.length (o0.2.2.2.1 : (List (den tPlace)))) : Int))) then
    if (0 : Int) ≤ t6 ∧ t6 < (((List.length (o0.2.2.2.1 : (List (den tPlace)))) : Nat) : Int) then
    bif (eqT tPlace (List.getD (o0.2.2.2.1 : (List (den tPlace))) (Int.toNat t6) (dft tPlace) : (den tPlace)) o1) then
      if (List.length o4) + 1 ≤ 1048576 then
      innkeepref07_In.l0 n m0 t0 t1 t4 (IntKind.wrap .i64 (t6 + 1)) o0 o1 (o4 ++ ([t6] : List Int))
      else none
    else
      innkeepref07_In.l0 n m0 t0 t1 t4 (IntKind.wrap .i64 (t6 + 1)) o0 o1 o4
    else none
  else
    some ((o4, ()), [(0, [])]) := by kernel_rfl
theorem innkeepref07_In.eq (n : Nat) (a0 : (den tWorld)) (a1 : (den tPlace)) : innkeepref07_In (n + 1) a0 a1 =
  innkeepref07_In.l0 n n a0 a1 ([] : List Int) 0 a0 a1 ([] : List Int) := by kernel_rfl
def innkeepref07_Room.res : List Sh := [.d (.int .i64)]
@[reducible] def innkeepref07_Room.R : Type := dShL [.d (.int .i64)] × Fresh
def innkeepref07_Room (n : Nat) (a0 : (den tWorld)) (a1 : (den tPlace)) : Option innkeepref07_Room.R := gc n 15 [.dat tWorld a0 [], .dat tPlace a1 []] [.d (.int .i64)]
theorem innkeepref07_Room.eq (n : Nat) (a0 : (den tWorld)) (a1 : (den tPlace)) : innkeepref07_Room (n + 1) a0 a1 =
  Option.bind (innkeepref06_Cap n a0 a1) fun r1 =>
  Option.bind (innkeepref06_Many n a0 a1) fun r2 =>
  some (((IntKind.wrap .i64 ((r1.1.1 : Int) - (r2.1.1 : Int))), ()), []) := by kernel_rfl
def innkeepref07_Root.res : List Sh := [.d tPlace]
@[reducible] def innkeepref07_Root.R : Type := dShL [.d tPlace] × Fresh
def innkeepref07_Root (n : Nat) (a0 : (den tWorld)) (a1 : Int) : Option innkeepref07_Root.R := gc n 20 [.dat tWorld a0 [], .dat (.int .i64) a1 []] [.d tPlace]
theorem innkeepref07_Root.eq (n : Nat) (a0 : (den tWorld)) (a1 : Int) : innkeepref07_Root (n + 1) a0 a1 =
  if (0 : Int) ≤ a1 ∧ a1 < (((List.length (a0.2.2.2.1 : (List (den tPlace)))) : Nat) : Int) then
  bif (!(decide (((List.getD (a0.2.2.2.1 : (List (den tPlace))) (Int.toNat a1) (dft tPlace) : (den tPlace)).1 : Int) = 2))) then
    some (((List.getD (a0.2.2.2.1 : (List (den tPlace))) (Int.toNat a1) (dft tPlace) : (den tPlace)), ()), [])
  else
    Option.bind (innkeepref07_Root n a0 ((List.getD (a0.2.2.2.1 : (List (den tPlace))) (Int.toNat a1) (dft tPlace) : (den tPlace)).2.1 : Int)) fun r1 =>
    some ((r1.1.1, ()), [])
  else none := by kernel_rfl
def innkeepref07_Under.res : List Sh := [.d (.sl tSeen)]
@[reducible] def innkeepref07_Under.R : Type := dShL [.d (.sl tSeen)] × Fresh
def innkeepref07_Under (n : Nat) (a0 : (den tWorld)) (a1 : (den tPlace)) : Option innkeepref07_Under.R := gc n 18 [.dat tWorld a0 [], .dat tPlace a1 []] [.d (.sl tSeen)]
def innkeepref07_Under.l0 (n m0 : Nat) (t0 : (den tWorld)) (t1 : (den tPlace)) (t4 : (List (den tSeen))) (t6 : Int) (o0 : (den tWorld)) (o1 : (den tPlace)) (o4 : (List (den tSeen))) : Option innkeepref07_Under.R :=
  loopN (fun Kn K s h => run (gc n) n innkeepref07_Under.c4 Kn K s h) m0 (kBlk 0 (kSeq (run (gc n) n) innkeepref07_Under.c2 (retK innkeepref07_Under.fn innkeepref07_Under.res) (retK innkeepref07_Under.fn innkeepref07_Under.res)) (retK innkeepref07_Under.fn innkeepref07_Under.res))
    [(0, .dat tWorld t0 []), (1, .dat tPlace t1 []), (2, .ptr 0 []), (3, .ptr 1 []), (4, .dat (.sl tSeen) t4 []), (5, .dat (.sl tSeen) ([] : List (den tSeen)) [([], some 4)]), (6, .dat (.int .i64) t6 [])]
    [.box tWorld o0 [], .box tPlace o1 [], .none, .none, .arr tSeen o4]
theorem innkeepref07_Under.l0_eq (n m0 : Nat) (t0 : (den tWorld)) (t1 : (den tPlace)) (t4 : (List (den tSeen))) (t6 : Int) (o0 : (den tWorld)) (o1 : (den tPlace)) (o4 : (List (den tSeen))) : innkeepref07_Under.l0 n (m0 + 1) t0 t1 t4 t6 o0 o1 o4 =
  bif (decide (t6 < ((List.length (o0.2.2.2.1 : (List (den tPlace)))) : Int))) then
    Option.bind (innkeepref07_Root n o0 t6) fun r1 =>
    bif (eqT tPlace r1.1.1 o1) then
      if (0 : Int) ≤ t6 ∧ t6 < (((List.length (o0.2.2.2.1 : (List (den tPlace)))) : Nat) : Int) then
      if (List.length o4) + 1 ≤ 1048576 then
      innkeepref07_Under.l0 n m0 t0 t1 t4 (IntKind.wrap .i64 (t6 + 1)) o0 o1 (o4 ++ ([(t6, (List.getD (o0.2.2.2.1 : (List (den tPlace))) (Int.toNat t6) (dft tPlace) : (den tPlace)), ())] : List (den tSeen)))
      else none
      else none
    else
      innkeepref07_Under.l0 n m0 t0 t1 t4 (IntKind.wrap .i64 (t6 + 1)) o0 o1 o4
  else
    some ((o4, ()), [(0, [])]) := by kernel_rfl
theorem innkeepref07_Under.eq (n : Nat) (a0 : (den tWorld)) (a1 : (den tPlace)) : innkeepref07_Under (n + 1) a0 a1 =
  innkeepref07_Under.l0 n n a0 a1 ([] : List (den tSeen)) 0 a0 a1 ([] : List (den tSeen)) := by kernel_rfl
def innkeepref05_Seens.res : List Sh := [.d .bool]
@[reducible] def innkeepref05_Seens.R : Type := dShL [.d .bool] × Fresh
def innkeepref05_Seens (n : Nat) (a0 : (List (den tSeen))) (a1 : (List (den tSeen))) : Option innkeepref05_Seens.R := gc n 16 [.dat (.sl tSeen) a0 [], .dat (.sl tSeen) a1 []] [.d .bool]
def innkeepref05_Seens.l0 (n m0 : Nat) (t0 : (List (den tSeen))) (t1 : (List (den tSeen))) (t4 : Bool) (t5 : Int) : Option innkeepref05_Seens.R :=
  loopN (fun Kn K s h => run (gc n) n innkeepref05_Seens.c9 Kn K s h) m0 (kBlk 0 (kSeq (run (gc n) n) innkeepref05_Seens.c7 (retK innkeepref05_Seens.fn innkeepref05_Seens.res) (retK innkeepref05_Seens.fn innkeepref05_Seens.res)) (retK innkeepref05_Seens.fn innkeepref05_Seens.res))
    [(0, .dat (.sl tSeen) t0 []), (1, .dat (.sl tSeen) t1 []), (4, .dat .bool t4 []), (5, .dat (.int .i64) t5 [])]
    []
theorem innkeepref05_Seens.l0_eq (n m0 : Nat) (t0 : (List (den tSeen))) (t1 : (List (den tSeen))) (t4 : Bool) (t5 : Int) : innkeepref05_Seens.l0 n (m0 + 1) t0 t1 t4 t5 =
  bif (decide (t5 < ((List.length t0) : Int))) then
    if (0 : Int) ≤ t5 ∧ t5 < (((List.length t0) : Nat) : Int) then
    if (0 : Int) ≤ t5 ∧ t5 < (((List.length t1) : Nat) : Int) then
    bif (!(eqT tSeen (List.getD t0 (Int.toNat t5) (dft tSeen) : (den tSeen)) (List.getD t1 (Int.toNat t5) (dft tSeen) : (den tSeen)))) then
      some ((false, ()), [])
    else
      innkeepref05_Seens.l0 n m0 t0 t1 t4 (IntKind.wrap .i64 (t5 + 1))
    else none
    else none
  else
    some ((true, ()), []) := by kernel_rfl
theorem innkeepref05_Seens.eq (n : Nat) (a0 : (List (den tSeen))) (a1 : (List (den tSeen))) : innkeepref05_Seens (n + 1) a0 a1 =
  bif (!(decide (((List.length a0) : Int) = ((List.length a1) : Int)))) then
    some ((false, ()), [])
  else
    innkeepref05_Seens.l0 n n a0 a1 false 0 := by kernel_rfl
def innkeepref07_Depth.res : List Sh := [.d (.int .i64)]
@[reducible] def innkeepref07_Depth.R : Type := dShL [.d (.int .i64)] × Fresh
def innkeepref07_Depth (n : Nat) (a0 : (den tWorld)) (a1 : Int) : Option innkeepref07_Depth.R := gc n 22 [.dat tWorld a0 [], .dat (.int .i64) a1 []] [.d (.int .i64)]
theorem innkeepref07_Depth.eq (n : Nat) (a0 : (den tWorld)) (a1 : Int) : innkeepref07_Depth (n + 1) a0 a1 =
  if (0 : Int) ≤ a1 ∧ a1 < (((List.length (a0.2.2.2.1 : (List (den tPlace)))) : Nat) : Int) then
  Option.bind (innkeepref06_Depth n a0 (List.getD (a0.2.2.2.1 : (List (den tPlace))) (Int.toNat a1) (dft tPlace) : (den tPlace))) fun r1 =>
  some (((r1.1.1 : Int), ()), [])
  else none := by kernel_rfl
def innkeepref07_Height.res : List Sh := [.d (.int .i64)]
@[reducible] def innkeepref07_Height.R : Type := dShL [.d (.int .i64)] × Fresh
def innkeepref07_Height (n : Nat) (a0 : (den tWorld)) (a1 : Int) : Option innkeepref07_Height.R := gc n 24 [.dat tWorld a0 [], .dat (.int .i64) a1 []] [.d (.int .i64)]
def innkeepref07_Height.l0 (n m0 : Nat) (t0 : (den tWorld)) (t1 : Int) (t4 : Int) (t5 : Int) (t6 : Int) (o0 : (den tWorld)) : Option innkeepref07_Height.R :=
  loopN (fun Kn K s h => run (gc n) n innkeepref07_Height.c4 Kn K s h) m0 (kBlk 0 (kSeq (run (gc n) n) innkeepref07_Height.c2 (retK innkeepref07_Height.fn innkeepref07_Height.res) (retK innkeepref07_Height.fn innkeepref07_Height.res)) (retK innkeepref07_Height.fn innkeepref07_Height.res))
    [(0, .dat tWorld t0 []), (1, .dat (.int .i64) t1 []), (2, .ptr 0 []), (4, .dat (.int .i64) t4 []), (5, .dat (.int .i64) t5 []), (6, .dat (.int .i64) t6 [])]
    [.box tWorld o0 []]
theorem innkeepref07_Height.l0_eq (n m0 : Nat) (t0 : (den tWorld)) (t1 : Int) (t4 : Int) (t5 : Int) (t6 : Int) (o0 : (den tWorld)) : innkeepref07_Height.l0 n (m0 + 1) t0 t1 t4 t5 t6 o0 =
  bif (decide (t6 < ((List.length (o0.2.2.2.1 : (List (den tPlace)))) : Int))) then
    if (0 : Int) ≤ t6 ∧ t6 < (((List.length (o0.2.2.2.1 : (List (den tPlace)))) : Nat) : Int) then
    bif (eqT tPlace (List.getD (o0.2.2.2.1 : (List (den tPlace))) (Int.toNat t6) (dft tPlace) : (den tPlace)) (2, t1, ())) then
      Option.bind (innkeepref07_Height n o0 t6) fun r1 =>
      innkeepref07_Height.l0 n m0 t0 t1 t4 (if t5 < (IntKind.wrap .i64 (1 + (r1.1.1 : Int))) then (IntKind.wrap .i64 (1 + (r1.1.1 : Int))) else t5) (IntKind.wrap .i64 (t6 + 1)) o0
    else
      innkeepref07_Height.l0 n m0 t0 t1 t4 t5 (IntKind.wrap .i64 (t6 + 1)) o0
    else none
  else
    some ((t5, ()), []) := by kernel_rfl
theorem innkeepref07_Height.eq (n : Nat) (a0 : (den tWorld)) (a1 : Int) : innkeepref07_Height (n + 1) a0 a1 =
  innkeepref07_Height.l0 n n a0 a1 0 0 0 a0 := by kernel_rfl
def innkeepref07_Within.res : List Sh := [.d .bool]
@[reducible] def innkeepref07_Within.R : Type := dShL [.d .bool] × Fresh
def innkeepref07_Within (n : Nat) (a0 : (den tWorld)) (a1 : Int) (a2 : Int) : Option innkeepref07_Within.R := gc n 26 [.dat tWorld a0 [], .dat (.int .i64) a1 [], .dat (.int .i64) a2 []] [.d .bool]
theorem innkeepref07_Within.eq (n : Nat) (a0 : (den tWorld)) (a1 : Int) (a2 : Int) : innkeepref07_Within (n + 1) a0 a1 a2 =
  bif (decide (a1 = a2)) then
    some ((true, ()), [])
  else
    if (0 : Int) ≤ a1 ∧ a1 < (((List.length (a0.2.2.2.1 : (List (den tPlace)))) : Nat) : Int) then
    bif (decide (((List.getD (a0.2.2.2.1 : (List (den tPlace))) (Int.toNat a1) (dft tPlace) : (den tPlace)).1 : Int) = 2)) then
      Option.bind (innkeepref07_Within n a0 ((List.getD (a0.2.2.2.1 : (List (den tPlace))) (Int.toNat a1) (dft tPlace) : (den tPlace)).2.1 : Int) a2) fun r1 =>
      some (((r1.1.1 : Bool), ()), [])
    else
      some ((false, ()), [])
    else none := by kernel_rfl
def innkeeplaw07_TreeAsks.res : List Sh := [.d .bool]
@[reducible] def innkeeplaw07_TreeAsks.R : Type := dShL [.d .bool] × Fresh
def innkeeplaw07_TreeAsks (n : Nat) (a0 : (den tWorld)) (a1 : Int) (a2 : Int) (a3 : (den tPlace)) : Option innkeeplaw07_TreeAsks.R := gc n 3 [.dat tWorld a0 [], .dat (.int .u8) a1 [], .dat (.int .u8) a2 [], .dat tPlace a3 []] [.d .bool]
theorem innkeeplaw07_TreeAsks.eq (n : Nat) (a0 : (den tWorld)) (a1 : Int) (a2 : Int) (a3 : (den tPlace)) : innkeeplaw07_TreeAsks (n + 1) a0 a1 a2 a3 =
  Option.bind (innkeeplaw07_awake n) fun r1 =>
  bif (!(r1.1.1 : Bool)) then
    Option.bind (innkeeplaw07_awake n) fun r2 =>
    some (((r2.1.1 : Bool), ()), [])
  else
    Option.bind (innkeeplaw07_fits n a0) fun r3 =>
    bif (!(r3.1.1 : Bool)) then
      Option.bind (innkeeplaw07_awake n) fun r4 =>
      some (((r4.1.1 : Bool), ()), [])
    else
      Option.bind (innkeepref07_Is n a0 a3) fun r5 =>
      bif (r5.1.1 : Bool) then
        Option.bind (tree_In n a0 a3) fun r6 =>
        Option.bind (innkeepref07_In n a0 a3) fun r7 =>
        Option.bind (innkeepref03_Ints n (r6.1.1 : (List Int)) (r7.1.1 : (List Int))) fun r8 =>
        bif (!(r8.1.1 : Bool)) then
          some ((false, ()), [])
        else
          Option.bind (tree_Room n a0 a3) fun r9 =>
          Option.bind (innkeepref07_Room n a0 a3) fun r10 =>
          bif (!(decide ((r9.1.1 : Int) = (r10.1.1 : Int)))) then
            some ((false, ()), [])
          else
            bif (!(decide ((a3.1 : Int) = 2))) then
              Option.bind (tree_Under n a0 a3) fun r11 =>
              Option.bind (innkeepref07_Under n a0 a3) fun r12 =>
              Option.bind (innkeepref05_Seens n (r11.1.1 : (List (den tSeen))) (r12.1.1 : (List (den tSeen)))) fun r13 =>
              bif (!(r13.1.1 : Bool)) then
                some ((false, ()), [])
              else
                bif (decide (((List.length (a0.2.2.2.1 : (List (den tPlace)))) : Int) = 0)) then
                  some ((true, ()), [])
                else
                  if ((List.length (a0.2.2.2.1 : (List (den tPlace)))) : Int) = 0 then none else
                  if ((List.length (a0.2.2.2.1 : (List (den tPlace)))) : Int) = 0 then none else
                  Option.bind (tree_Root n a0 (Int.tmod (IntKind.wrap .i64 (a1)) ((List.length (a0.2.2.2.1 : (List (den tPlace)))) : Int))) fun r14 =>
                  Option.bind (innkeepref07_Root n a0 (Int.tmod (IntKind.wrap .i64 (a1)) ((List.length (a0.2.2.2.1 : (List (den tPlace)))) : Int))) fun r15 =>
                  bif (eqT tPlace r14.1.1 r15.1.1) then
                    Option.bind (tree_Depth n a0 (Int.tmod (IntKind.wrap .i64 (a1)) ((List.length (a0.2.2.2.1 : (List (den tPlace)))) : Int))) fun r16 =>
                    Option.bind (innkeepref07_Depth n a0 (Int.tmod (IntKind.wrap .i64 (a1)) ((List.length (a0.2.2.2.1 : (List (den tPlace)))) : Int))) fun r17 =>
                    bif (decide ((r16.1.1 : Int) = (r17.1.1 : Int))) then
                      Option.bind (tree_Height n a0 (Int.tmod (IntKind.wrap .i64 (a1)) ((List.length (a0.2.2.2.1 : (List (den tPlace)))) : Int))) fun r18 =>
                      Option.bind (innkeepref07_Height n a0 (Int.tmod (IntKind.wrap .i64 (a1)) ((List.length (a0.2.2.2.1 : (List (den tPlace)))) : Int))) fun r19 =>
                      bif (decide ((r18.1.1 : Int) = (r19.1.1 : Int))) then
                        Option.bind (tree_Within n a0 (Int.tmod (IntKind.wrap .i64 (a1)) ((List.length (a0.2.2.2.1 : (List (den tPlace)))) : Int)) (Int.tmod (IntKind.wrap .i64 (a2)) ((List.length (a0.2.2.2.1 : (List (den tPlace)))) : Int))) fun r20 =>
                        Option.bind (innkeepref07_Within n a0 (Int.tmod (IntKind.wrap .i64 (a1)) ((List.length (a0.2.2.2.1 : (List (den tPlace)))) : Int)) (Int.tmod (IntKind.wrap .i64 (a2)) ((List.length (a0.2.2.2.1 : (List (den tPlace)))) : Int))) fun r21 =>
                        some (((eqT .bool (r20.1.1 : Bool) (r21.1.1 : Bool)), ()), [])
                      else
                        some ((false, ()), [])
                    else
                      some ((false, ()), [])
                  else
                    some ((false, ()), [])
            else
              bif (decide (((List.length (a0.2.2.2.1 : (List (den tPlace)))) : Int) = 0)) then
                some ((true, ()), [])
              else
                if ((List.length (a0.2.2.2.1 : (List (den tPlace)))) : Int) = 0 then none else
                if ((List.length (a0.2.2.2.1 : (List (den tPlace)))) : Int) = 0 then none else
                Option.bind (tree_Root n a0 (Int.tmod (IntKind.wrap .i64 (a1)) ((List.length (a0.2.2.2.1 : (List (den tPlace)))) : Int))) fun r22 =>
                Option.bind (innkeepref07_Root n a0 (Int.tmod (IntKind.wrap .i64 (a1)) ((List.length (a0.2.2.2.1 : (List (den tPlace)))) : Int))) fun r23 =>
                bif (eqT tPlace r22.1.1 r23.1.1) then
                  Option.bind (tree_Depth n a0 (Int.tmod (IntKind.wrap .i64 (a1)) ((List.length (a0.2.2.2.1 : (List (den tPlace)))) : Int))) fun r24 =>
                  Option.bind (innkeepref07_Depth n a0 (Int.tmod (IntKind.wrap .i64 (a1)) ((List.length (a0.2.2.2.1 : (List (den tPlace)))) : Int))) fun r25 =>
                  bif (decide ((r24.1.1 : Int) = (r25.1.1 : Int))) then
                    Option.bind (tree_Height n a0 (Int.tmod (IntKind.wrap .i64 (a1)) ((List.length (a0.2.2.2.1 : (List (den tPlace)))) : Int))) fun r26 =>
                    Option.bind (innkeepref07_Height n a0 (Int.tmod (IntKind.wrap .i64 (a1)) ((List.length (a0.2.2.2.1 : (List (den tPlace)))) : Int))) fun r27 =>
                    bif (decide ((r26.1.1 : Int) = (r27.1.1 : Int))) then
                      Option.bind (tree_Within n a0 (Int.tmod (IntKind.wrap .i64 (a1)) ((List.length (a0.2.2.2.1 : (List (den tPlace)))) : Int)) (Int.tmod (IntKind.wrap .i64 (a2)) ((List.length (a0.2.2.2.1 : (List (den tPlace)))) : Int))) fun r28 =>
                      Option.bind (innkeepref07_Within n a0 (Int.tmod (IntKind.wrap .i64 (a1)) ((List.length (a0.2.2.2.1 : (List (den tPlace)))) : Int)) (Int.tmod (IntKind.wrap .i64 (a2)) ((List.length (a0.2.2.2.1 : (List (den tPlace)))) : Int))) fun r29 =>
                      some (((eqT .bool (r28.1.1 : Bool) (r29.1.1 : Bool)), ()), [])
                    else
                      some ((false, ()), [])
                  else
                    some ((false, ()), [])
                else
                  some ((false, ()), [])
      else
        bif (decide (((List.length (a0.2.2.2.1 : (List (den tPlace)))) : Int) = 0)) then
          some ((true, ()), [])
        else
          if ((List.length (a0.2.2.2.1 : (List (den tPlace)))) : Int) = 0 then none else
          if ((List.length (a0.2.2.2.1 : (List (den tPlace)))) : Int) = 0 then none else
          Option.bind (tree_Root n a0 (Int.tmod (IntKind.wrap .i64 (a1)) ((List.length (a0.2.2.2.1 : (List (den tPlace)))) : Int))) fun r30 =>
          Option.bind (innkeepref07_Root n a0 (Int.tmod (IntKind.wrap .i64 (a1)) ((List.length (a0.2.2.2.1 : (List (den tPlace)))) : Int))) fun r31 =>
          bif (eqT tPlace r30.1.1 r31.1.1) then
            Option.bind (tree_Depth n a0 (Int.tmod (IntKind.wrap .i64 (a1)) ((List.length (a0.2.2.2.1 : (List (den tPlace)))) : Int))) fun r32 =>
            Option.bind (innkeepref07_Depth n a0 (Int.tmod (IntKind.wrap .i64 (a1)) ((List.length (a0.2.2.2.1 : (List (den tPlace)))) : Int))) fun r33 =>
            bif (decide ((r32.1.1 : Int) = (r33.1.1 : Int))) then
              Option.bind (tree_Height n a0 (Int.tmod (IntKind.wrap .i64 (a1)) ((List.length (a0.2.2.2.1 : (List (den tPlace)))) : Int))) fun r34 =>
              Option.bind (innkeepref07_Height n a0 (Int.tmod (IntKind.wrap .i64 (a1)) ((List.length (a0.2.2.2.1 : (List (den tPlace)))) : Int))) fun r35 =>
              bif (decide ((r34.1.1 : Int) = (r35.1.1 : Int))) then
                Option.bind (tree_Within n a0 (Int.tmod (IntKind.wrap .i64 (a1)) ((List.length (a0.2.2.2.1 : (List (den tPlace)))) : Int)) (Int.tmod (IntKind.wrap .i64 (a2)) ((List.length (a0.2.2.2.1 : (List (den tPlace)))) : Int))) fun r36 =>
                Option.bind (innkeepref07_Within n a0 (Int.tmod (IntKind.wrap .i64 (a1)) ((List.length (a0.2.2.2.1 : (List (den tPlace)))) : Int)) (Int.tmod (IntKind.wrap .i64 (a2)) ((List.length (a0.2.2.2.1 : (List (den tPlace)))) : Int))) fun r37 =>
                some (((eqT .bool (r36.1.1 : Bool) (r37.1.1 : Bool)), ()), [])
              else
                some ((false, ()), [])
            else
              some ((false, ()), [])
          else
            some ((false, ()), []) := by kernel_rfl
def innkeeplaw07_TreeRoots.res : List Sh := [.d .bool]
@[reducible] def innkeeplaw07_TreeRoots.R : Type := dShL [.d .bool] × Fresh
def innkeeplaw07_TreeRoots (n : Nat) (a0 : (den tWorld)) : Option innkeeplaw07_TreeRoots.R := gc n 4 [.dat tWorld a0 []] [.d .bool]
def innkeeplaw07_TreeRoots.l0 (n m0 : Nat) (t0 : (den tWorld)) (t2 : Bool) (t4 : Int) (o0 : (den tWorld)) (o1 : (List Int)) : Option innkeeplaw07_TreeRoots.R :=
  loopN (fun Kn K s h => run (gc n) n innkeeplaw07_TreeRoots.c12 Kn K s h) m0 (kBlk 0 (kSeq (run (gc n) n) innkeeplaw07_TreeRoots.c10 (retK innkeeplaw07_TreeRoots.fn innkeeplaw07_TreeRoots.res) (retK innkeeplaw07_TreeRoots.fn innkeeplaw07_TreeRoots.res)) (retK innkeeplaw07_TreeRoots.fn innkeeplaw07_TreeRoots.res))
    [(0, .dat tWorld t0 []), (1, .ptr 0 []), (2, .dat .bool t2 []), (3, .dat (.sl (.int .i64)) ([] : List Int) [([], some 1)]), (4, .dat (.int .i64) t4 [])]
    [.box tWorld o0 [], .arr (.int .i64) o1]
def innkeeplaw07_TreeRoots.l1 (n m0 m1 : Nat) (t0_1 : (den tWorld)) (t2_1 : Bool) (t4_1 : Int) (t5_1 : Int) (t6_1 : Int) (o0_1 : (den tWorld)) (o1_1 : (List Int)) : Option innkeeplaw07_TreeRoots.R :=
  loopN (fun Kn K s h => run (gc n) n innkeeplaw07_TreeRoots.c27 Kn K s h) m1 (kBlk 2 (kSeq (run (gc n) n) innkeeplaw07_TreeRoots.c18 (kSeq (run (gc n) n) innkeeplaw07_TreeRoots.c13 (fun _ s h => loopN (fun Kn K s h => run (gc n) n innkeeplaw07_TreeRoots.c12 Kn K s h) m0 (kBlk 0 (kSeq (run (gc n) n) innkeeplaw07_TreeRoots.c10 (retK innkeeplaw07_TreeRoots.fn innkeeplaw07_TreeRoots.res) (retK innkeeplaw07_TreeRoots.fn innkeeplaw07_TreeRoots.res)) (retK innkeeplaw07_TreeRoots.fn innkeeplaw07_TreeRoots.res)) s h) (kBlk 0 (kSeq (run (gc n) n) innkeeplaw07_TreeRoots.c10 (retK innkeeplaw07_TreeRoots.fn innkeeplaw07_TreeRoots.res) (retK innkeeplaw07_TreeRoots.fn innkeeplaw07_TreeRoots.res)) (retK innkeeplaw07_TreeRoots.fn innkeeplaw07_TreeRoots.res))) (kBlk 0 (kSeq (run (gc n) n) innkeeplaw07_TreeRoots.c10 (retK innkeeplaw07_TreeRoots.fn innkeeplaw07_TreeRoots.res) (retK innkeeplaw07_TreeRoots.fn innkeeplaw07_TreeRoots.res)) (retK innkeeplaw07_TreeRoots.fn innkeeplaw07_TreeRoots.res))) (kBlk 1 (kSeq (run (gc n) n) innkeeplaw07_TreeRoots.c18 (kSeq (run (gc n) n) innkeeplaw07_TreeRoots.c13 (fun _ s h => loopN (fun Kn K s h => run (gc n) n innkeeplaw07_TreeRoots.c12 Kn K s h) m0 (kBlk 0 (kSeq (run (gc n) n) innkeeplaw07_TreeRoots.c10 (retK innkeeplaw07_TreeRoots.fn innkeeplaw07_TreeRoots.res) (retK innkeeplaw07_TreeRoots.fn innkeeplaw07_TreeRoots.res)) (retK innkeeplaw07_TreeRoots.fn innkeeplaw07_TreeRoots.res)) s h) (kBlk 0 (kSeq (run (gc n) n) innkeeplaw07_TreeRoots.c10 (retK innkeeplaw07_TreeRoots.fn innkeeplaw07_TreeRoots.res) (retK innkeeplaw07_TreeRoots.fn innkeeplaw07_TreeRoots.res)) (retK innkeeplaw07_TreeRoots.fn innkeeplaw07_TreeRoots.res))) (kBlk 0 (kSeq (run (gc n) n) innkeeplaw07_TreeRoots.c10 (retK innkeeplaw07_TreeRoots.fn innkeeplaw07_TreeRoots.res) (retK innkeeplaw07_TreeRoots.fn innkeeplaw07_TreeRoots.res)) (retK innkeeplaw07_TreeRoots.fn innkeeplaw07_TreeRoots.res))) (kBlk 0 (kSeq (run (gc n) n) innkeeplaw07_TreeRoots.c10 (retK innkeeplaw07_TreeRoots.fn innkeeplaw07_TreeRoots.res) (retK innkeeplaw07_TreeRoots.fn innkeeplaw07_TreeRoots.res)) (retK innkeeplaw07_TreeRoots.fn innkeeplaw07_TreeRoots.res))))
    [(0, .dat tWorld t0_1 []), (1, .ptr 0 []), (2, .dat .bool t2_1 []), (3, .dat (.sl (.int .i64)) ([] : List Int) [([], some 1)]), (4, .dat (.int .i64) t4_1 []), (5, .dat (.int .i64) t5_1 []), (6, .dat (.int .i64) t6_1 [])]
    [.box tWorld o0_1 [], .arr (.int .i64) o1_1]
def innkeeplaw07_TreeRoots.l2 (n m0 m1 m2 : Nat) (t0_2 : (den tWorld)) (t2_2 : Bool) (t4_2 : Int) (t5_2 : Int) (t6_2 : Int) (t8_2 : (List (den tSeen))) (t9_2 : Int) (o0_2 : (den tWorld)) (o1_2 : (List Int)) (o2_2 : (den tPlace)) : Option innkeeplaw07_TreeRoots.R :=
  loopN (fun Kn K s h => run (gc n) n innkeeplaw07_TreeRoots.c40 Kn K s h) m2 (kBlk 4 (kSeq (run (gc n) n) innkeeplaw07_TreeRoots.c38 (kSeq (run (gc n) n) innkeeplaw07_TreeRoots.c33 (kSeq (run (gc n) n) innkeeplaw07_TreeRoots.c28 (fun _ s h => loopN (fun Kn K s h => run (gc n) n innkeeplaw07_TreeRoots.c27 Kn K s h) m1 (kBlk 2 (kSeq (run (gc n) n) innkeeplaw07_TreeRoots.c18 (kSeq (run (gc n) n) innkeeplaw07_TreeRoots.c13 (fun _ s h => loopN (fun Kn K s h => run (gc n) n innkeeplaw07_TreeRoots.c12 Kn K s h) m0 (kBlk 0 (kSeq (run (gc n) n) innkeeplaw07_TreeRoots.c10 (retK innkeeplaw07_TreeRoots.fn innkeeplaw07_TreeRoots.res) (retK innkeeplaw07_TreeRoots.fn innkeeplaw07_TreeRoots.res)) (retK innkeeplaw07_TreeRoots.fn innkeeplaw07_TreeRoots.res)) s h) (kBlk 0 (kSeq (run (gc n) n) innkeeplaw07_TreeRoots.c10 (retK innkeeplaw07_TreeRoots.fn innkeeplaw07_TreeRoots.res) (retK innkeeplaw07_TreeRoots.fn innkeeplaw07_TreeRoots.res)) (retK innkeeplaw07_TreeRoots.fn innkeeplaw07_TreeRoots.res))) (kBlk 0 (kSeq (run (gc n) n) innkeeplaw07_TreeRoots.c10 (retK innkeeplaw07_TreeRoots.fn innkeeplaw07_TreeRoots.res) (retK innkeeplaw07_TreeRoots.fn innkeeplaw07_TreeRoots.res)) (retK innkeeplaw07_TreeRoots.fn innkeeplaw07_TreeRoots.res))) (kBlk 1 (kSeq (run (gc n) n) innkeeplaw07_TreeRoots.c18 (kSeq (run (gc n) n) innkeeplaw07_TreeRoots.c13 (fun _ s h => loopN (fun Kn K s h => run (gc n) n innkeeplaw07_TreeRoots.c12 Kn K s h) m0 (kBlk 0 (kSeq (run (gc n) n) innkeeplaw07_TreeRoots.c10 (retK innkeeplaw07_TreeRoots.fn innkeeplaw07_TreeRoots.res) (retK innkeeplaw07_TreeRoots.fn innkeeplaw07_TreeRoots.res)) (retK innkeeplaw07_TreeRoots.fn innkeeplaw07_TreeRoots.res)) s h) (kBlk 0 (kSeq (run (gc n) n) innkeeplaw07_TreeRoots.c10 (retK innkeeplaw07_TreeRoots.fn innkeeplaw07_TreeRoots.res) (retK innkeeplaw07_TreeRoots.fn innkeeplaw07_TreeRoots.res)) (retK innkeeplaw07_TreeRoots.fn innkeeplaw07_TreeRoots.res))) (kBlk 0 (kSeq (run (gc n) n) innkeeplaw07_TreeRoots.c10 (retK innkeeplaw07_TreeRoots.fn innkeeplaw07_TreeRoots.res) (retK innkeeplaw07_TreeRoots.fn innkeeplaw07_TreeRoots.res)) (retK innkeeplaw07_TreeRoots.fn innkeeplaw07_TreeRoots.res))) (kBlk 0 (kSeq (run (gc n) n) innkeeplaw07_TreeRoots.c10 (retK innkeeplaw07_TreeRoots.fn innkeeplaw07_TreeRoots.res) (retK innkeeplaw07_TreeRoots.fn innkeeplaw07_TreeRoots.res)) (retK innkeeplaw07_TreeRoots.fn innkeeplaw07_TreeRoots.res)))) s h) (kBlk 2 (kSeq (run (gc n) n) innkeeplaw07_TreeRoots.c18 (kSeq (run (gc n) n) innkeeplaw07_TreeRoots.c13 (fun _ s h => loopN (fun Kn K s h => run (gc n) n innkeeplaw07_TreeRoots.c12 Kn K s h) m0 (kBlk 0 (kSeq (run (gc n) n) innkeeplaw07_TreeRoots.c10 (retK innkeeplaw07_TreeRoots.fn innkeeplaw07_TreeRoots.res) (retK innkeeplaw07_TreeRoots.fn innkeeplaw07_TreeRoots.res)) (retK innkeeplaw07_TreeRoots.fn innkeeplaw07_TreeRoots.res)) s h) (kBlk 0 (kSeq (run (gc n) n) innkeeplaw07_TreeRoots.c10 (retK innkeeplaw07_TreeRoots.fn innkeeplaw07_TreeRoots.res) (retK innkeeplaw07_TreeRoots.fn innkeeplaw07_TreeRoots.res)) (retK innkeeplaw07_TreeRoots.fn innkeeplaw07_TreeRoots.res))) (kBlk 0 (kSeq (run (gc n) n) innkeeplaw07_TreeRoots.c10 (retK innkeeplaw07_TreeRoots.fn innkeeplaw07_TreeRoots.res) (retK innkeeplaw07_TreeRoots.fn innkeeplaw07_TreeRoots.res)) (retK innkeeplaw07_TreeRoots.fn innkeeplaw07_TreeRoots.res))) (kBlk 1 (kSeq (run (gc n) n) innkeeplaw07_TreeRoots.c18 (kSeq (run (gc n) n) innkeeplaw07_TreeRoots.c13 (fun _ s h => loopN (fun Kn K s h => run (gc n) n innkeeplaw07_TreeRoots.c12 Kn K s h) m0 (kBlk 0 (kSeq (run (gc n) n) innkeeplaw07_TreeRoots.c10 (retK innkeeplaw07_TreeRoots.fn innkeeplaw07_TreeRoots.res) (retK innkeeplaw07_TreeRoots.fn innkeeplaw07_TreeRoots.res)) (retK innkeeplaw07_TreeRoots.fn innkeeplaw07_TreeRoots.res)) s h) (kBlk 0 (kSeq (run (gc n) n) innkeeplaw07_TreeRoots.c10 (retK innkeeplaw07_TreeRoots.fn innkeeplaw07_TreeRoots.res) (retK innkeeplaw07_TreeRoots.fn innkeeplaw07_TreeRoots.res)) (retK innkeeplaw07_TreeRoots.fn innkeeplaw07_TreeRoots.res))) (kBlk 0 (kSeq (run (gc n) n) innkeeplaw07_TreeRoots.c10 (retK innkeeplaw07_TreeRoots.fn innkeeplaw07_TreeRoots.res) (retK innkeeplaw07_TreeRoots.fn innkeeplaw07_TreeRoots.res)) (retK innkeeplaw07_TreeRoots.fn innkeeplaw07_TreeRoots.res))) (kBlk 0 (kSeq (run (gc n) n) innkeeplaw07_TreeRoots.c10 (retK innkeeplaw07_TreeRoots.fn innkeeplaw07_TreeRoots.res) (retK innkeeplaw07_TreeRoots.fn innkeeplaw07_TreeRoots.res)) (retK innkeeplaw07_TreeRoots.fn innkeeplaw07_TreeRoots.res))))) (kBlk 2 (kSeq (run (gc n) n) innkeeplaw07_TreeRoots.c18 (kSeq (run (gc n) n) innkeeplaw07_TreeRoots.c13 (fun _ s h => loopN (fun Kn K s h => run (gc n) n innkeeplaw07_TreeRoots.c12 Kn K s h) m0 (kBlk 0 (kSeq (run (gc n) n) innkeeplaw07_TreeRoots.c10 (retK innkeeplaw07_TreeRoots.fn innkeeplaw07_TreeRoots.res) (retK innkeeplaw07_TreeRoots.fn innkeeplaw07_TreeRoots.res)) (retK innkeeplaw07_TreeRoots.fn innkeeplaw07_TreeRoots.res)) s h) (kBlk 0 (kSeq (run (gc n) n) innkeeplaw07_TreeRoots.c10 (retK innkeeplaw07_TreeRoots.fn innkeeplaw07_TreeRoots.res) (retK innkeeplaw07_TreeRoots.fn innkeeplaw07_TreeRoots.res)) (retK innkeeplaw07_TreeRoots.fn innkeeplaw07_TreeRoots.res))) (kBlk 0 (kSeq (run (gc n) n) innkeeplaw07_TreeRoots.c10 (retK innkeeplaw07_TreeRoots.fn innkeeplaw07_TreeRoots.res) (retK innkeeplaw07_TreeRoots.fn innkeeplaw07_TreeRoots.res)) (retK innkeeplaw07_TreeRoots.fn innkeeplaw07_TreeRoots.res))) (kBlk 1 (kSeq (run (gc n) n) innkeeplaw07_TreeRoots.c18 (kSeq (run (gc n) n) innkeeplaw07_TreeRoots.c13 (fun _ s h => loopN (fun Kn K s h => run (gc n) n innkeeplaw07_TreeRoots.c12 Kn K s h) m0 (kBlk 0 (kSeq (run (gc n) n) innkeeplaw07_TreeRoots.c10 (retK innkeeplaw07_TreeRoots.fn innkeeplaw07_TreeRoots.res) (retK innkeeplaw07_TreeRoots.fn innkeeplaw07_TreeRoots.res)) (retK innkeeplaw07_TreeRoots.fn innkeeplaw07_TreeRoots.res)) s h) (kBlk 0 (kSeq (run (gc n) n) innkeeplaw07_TreeRoots.c10 (retK innkeeplaw07_TreeRoots.fn innkeeplaw07_TreeRoots.res) (retK innkeeplaw07_TreeRoots.fn innkeeplaw07_TreeRoots.res)) (retK innkeeplaw07_TreeRoots.fn innkeeplaw07_TreeRoots.res))) (kBlk 0 (kSeq (run (gc n) n) innkeeplaw07_TreeRoots.c10 (retK innkeeplaw07_TreeRoots.fn innkeeplaw07_TreeRoots.res) (retK innkeeplaw07_TreeRoots.fn innkeeplaw07_TreeRoots.res)) (retK innkeeplaw07_TreeRoots.fn innkeeplaw07_TreeRoots.res))) (kBlk 0 (kSeq (run (gc n) n) innkeeplaw07_TreeRoots.c10 (retK innkeeplaw07_TreeRoots.fn innkeeplaw07_TreeRoots.res) (retK innkeeplaw07_TreeRoots.fn innkeeplaw07_TreeRoots.res)) (retK innkeeplaw07_TreeRoots.fn innkeeplaw07_TreeRoots.res))))) (kBlk 3 (kSeq (run (gc n) n) innkeeplaw07_TreeRoots.c33 (kSeq (run (gc n) n) innkeeplaw07_TreeRoots.c28 (fun _ s h => loopN (fun Kn K s h => run (gc n) n innkeeplaw07_TreeRoots.c27 Kn K s h) m1 (kBlk 2 (kSeq (run (gc n) n) innkeeplaw07_TreeRoots.c18 (kSeq (run (gc n) n) innkeeplaw07_TreeRoots.c13 (fun _ s h => loopN (fun Kn K s h => run (gc n) n innkeeplaw07_TreeRoots.c12 Kn K s h) m0 (kBlk 0 (kSeq (run (gc n) n) innkeeplaw07_TreeRoots.c10 (retK innkeeplaw07_TreeRoots.fn innkeeplaw07_TreeRoots.res) (retK innkeeplaw07_TreeRoots.fn innkeeplaw07_TreeRoots.res)) (retK innkeeplaw07_TreeRoots.fn innkeeplaw07_TreeRoots.res)) s h) (kBlk 0 (kSeq (run (gc n) n) innkeeplaw07_TreeRoots.c10 (retK innkeeplaw07_TreeRoots.fn innkeeplaw07_TreeRoots.res) (retK innkeeplaw07_TreeRoots.fn innkeeplaw07_TreeRoots.res)) (retK innkeeplaw07_TreeRoots.fn innkeeplaw07_TreeRoots.res))) (kBlk 0 (kSeq (run (gc n) n) innkeeplaw07_TreeRoots.c10 (retK innkeeplaw07_TreeRoots.fn innkeeplaw07_TreeRoots.res) (retK innkeeplaw07_TreeRoots.fn innkeeplaw07_TreeRoots.res)) (retK innkeeplaw07_TreeRoots.fn innkeeplaw07_TreeRoots.res))) (kBlk 1 (kSeq (run (gc n) n) innkeeplaw07_TreeRoots.c18 (kSeq (run (gc n) n) innkeeplaw07_TreeRoots.c13 (fun _ s h => loopN (fun Kn K s h => run (gc n) n innkeeplaw07_TreeRoots.c12 Kn K s h) m0 (kBlk 0 (kSeq (run (gc n) n) innkeeplaw07_TreeRoots.c10 (retK innkeeplaw07_TreeRoots.fn innkeeplaw07_TreeRoots.res) (retK innkeeplaw07_TreeRoots.fn innkeeplaw07_TreeRoots.res)) (retK innkeeplaw07_TreeRoots.fn innkeeplaw07_TreeRoots.res)) s h) (kBlk 0 (kSeq (run (gc n) n) innkeeplaw07_TreeRoots.c10 (retK innkeeplaw07_TreeRoots.fn innkeeplaw07_TreeRoots.res) (retK innkeeplaw07_TreeRoots.fn innkeeplaw07_TreeRoots.res)) (retK innkeeplaw07_TreeRoots.fn innkeeplaw07_TreeRoots.res))) (kBlk 0 (kSeq (run (gc n) n) innkeeplaw07_TreeRoots.c10 (retK innkeeplaw07_TreeRoots.fn innkeeplaw07_TreeRoots.res) (retK innkeeplaw07_TreeRoots.fn innkeeplaw07_TreeRoots.res)) (retK innkeeplaw07_TreeRoots.fn innkeeplaw07_TreeRoots.res))) (kBlk 0 (kSeq (run (gc n) n) innkeeplaw07_TreeRoots.c10 (retK innkeeplaw07_TreeRoots.fn innkeeplaw07_TreeRoots.res) (retK innkeeplaw07_TreeRoots.fn innkeeplaw07_TreeRoots.res)) (retK innkeeplaw07_TreeRoots.fn innkeeplaw07_TreeRoots.res)))) s h) (kBlk 2 (kSeq (run (gc n) n) innkeeplaw07_TreeRoots.c18 (kSeq (run (gc n) n) innkeeplaw07_TreeRoots.c13 (fun _ s h => loopN (fun Kn K s h => run (gc n) n innkeeplaw07_TreeRoots.c12 Kn K s h) m0 (kBlk 0 (kSeq (run (gc n) n) innkeeplaw07_TreeRoots.c10 (retK innkeeplaw07_TreeRoots.fn innkeeplaw07_TreeRoots.res) (retK innkeeplaw07_TreeRoots.fn innkeeplaw07_TreeRoots.res)) (retK innkeeplaw07_TreeRoots.fn innkeeplaw07_TreeRoots.res)) s h) (kBlk 0 (kSeq (run (gc n) n) innkeeplaw07_TreeRoots.c10 (retK innkeeplaw07_TreeRoots.fn innkeeplaw07_TreeRoots.res) (retK innkeeplaw07_TreeRoots.fn innkeeplaw07_TreeRoots.res)) (retK innkeeplaw07_TreeRoots.fn innkeeplaw07_TreeRoots.res))) (kBlk 0 (kSeq (run (gc n) n) innkeeplaw07_TreeRoots.c10 (retK innkeeplaw07_TreeRoots.fn innkeeplaw07_TreeRoots.res) (retK innkeeplaw07_TreeRoots.fn innkeeplaw07_TreeRoots.res)) (retK innkeeplaw07_TreeRoots.fn innkeeplaw07_TreeRoots.res))) (kBlk 1 (kSeq (run (gc n) n) innkeeplaw07_TreeRoots.c18 (kSeq (run (gc n) n) innkeeplaw07_TreeRoots.c13 (fun _ s h => loopN (fun Kn K s h => run (gc n) n innkeeplaw07_TreeRoots.c12 Kn K s h) m0 (kBlk 0 (kSeq (run (gc n) n) innkeeplaw07_TreeRoots.c10 (retK innkeeplaw07_TreeRoots.fn innkeeplaw07_TreeRoots.res) (retK innkeeplaw07_TreeRoots.fn innkeeplaw07_TreeRoots.res)) (retK innkeeplaw07_TreeRoots.fn innkeeplaw07_TreeRoots.res)) s h) (kBlk 0 (kSeq (run (gc n) n) innkeeplaw07_TreeRoots.c10 (retK innkeeplaw07_TreeRoots.fn innkeeplaw07_TreeRoots.res) (retK innkeeplaw07_TreeRoots.fn innkeeplaw07_TreeRoots.res)) (retK innkeeplaw07_TreeRoots.fn innkeeplaw07_TreeRoots.res))) (kBlk 0 (kSeq (run (gc n) n) innkeeplaw07_TreeRoots.c10 (retK innkeeplaw07_TreeRoots.fn innkeeplaw07_TreeRoots.res) (retK innkeeplaw07_TreeRoots.fn innkeeplaw07_TreeRoots.res)) (retK innkeeplaw07_TreeRoots.fn innkeeplaw07_TreeRoots.res))) (kBlk 0 (kSeq (run (gc n) n) innkeeplaw07_TreeRoots.c10 (retK innkeeplaw07_TreeRoots.fn innkeeplaw07_TreeRoots.res) (retK innkeeplaw07_TreeRoots.fn innkeeplaw07_TreeRoots.res)) (retK innkeeplaw07_TreeRoots.fn innkeeplaw07_TreeRoots.res))))) (kBlk 2 (kSeq (run (gc n) n) innkeeplaw07_TreeRoots.c18 (kSeq (run (gc n) n) innkeeplaw07_TreeRoots.c13 (fun _ s h => loopN (fun Kn K s h => run (gc n) n innkeeplaw07_TreeRoots.c12 Kn K s h) m0 (kBlk 0 (kSeq (run (gc n) n) innkeeplaw07_TreeRoots.c10 (retK innkeeplaw07_TreeRoots.fn innkeeplaw07_TreeRoots.res) (retK innkeeplaw07_TreeRoots.fn innkeeplaw07_TreeRoots.res)) (retK innkeeplaw07_TreeRoots.fn innkeeplaw07_TreeRoots.res)) s h) (kBlk 0 (kSeq (run (gc n) n) innkeeplaw07_TreeRoots.c10 (retK innkeeplaw07_TreeRoots.fn innkeeplaw07_TreeRoots.res) (retK innkeeplaw07_TreeRoots.fn innkeeplaw07_TreeRoots.res)) (retK innkeeplaw07_TreeRoots.fn innkeeplaw07_TreeRoots.res))) (kBlk 0 (kSeq (run (gc n) n) innkeeplaw07_TreeRoots.c10 (retK innkeeplaw07_TreeRoots.fn innkeeplaw07_TreeRoots.res) (retK innkeeplaw07_TreeRoots.fn innkeeplaw07_TreeRoots.res)) (retK innkeeplaw07_TreeRoots.fn innkeeplaw07_TreeRoots.res))) (kBlk 1 (kSeq (run (gc n) n) innkeeplaw07_TreeRoots.c18 (kSeq (run (gc n) n) innkeeplaw07_TreeRoots.c13 (fun _ s h => loopN (fun Kn K s h => run (gc n) n innkeeplaw07_TreeRoots.c12 Kn K s h) m0 (kBlk 0 (kSeq (run (gc n) n) innkeeplaw07_TreeRoots.c10 (retK innkeeplaw07_TreeRoots.fn innkeeplaw07_TreeRoots.res) (retK innkeeplaw07_TreeRoots.fn innkeeplaw07_TreeRoots.res)) (retK innkeeplaw07_TreeRoots.fn innkeeplaw07_TreeRoots.res)) s h) (kBlk 0 (kSeq (run (gc n) n) innkeeplaw07_TreeRoots.c10 (retK innkeeplaw07_TreeRoots.fn innkeeplaw07_TreeRoots.res) (retK innkeeplaw07_TreeRoots.fn innkeeplaw07_TreeRoots.res)) (retK innkeeplaw07_TreeRoots.fn innkeeplaw07_TreeRoots.res))) (kBlk 0 (kSeq (run (gc n) n) innkeeplaw07_TreeRoots.c10 (retK innkeeplaw07_TreeRoots.fn innkeeplaw07_TreeRoots.res) (retK innkeeplaw07_TreeRoots.fn innkeeplaw07_TreeRoots.res)) (retK innkeeplaw07_TreeRoots.fn innkeeplaw07_TreeRoots.res))) (kBlk 0 (kSeq (run (gc n) n) innkeeplaw07_TreeRoots.c10 (retK innkeeplaw07_TreeRoots.fn innkeeplaw07_TreeRoots.res) (retK innkeeplaw07_TreeRoots.fn innkeeplaw07_TreeRoots.res)) (retK innkeeplaw07_TreeRoots.fn innkeeplaw07_TreeRoots.res))))) (kBlk 2 (kSeq (run (gc n) n) innkeeplaw07_TreeRoots.c18 (kSeq (run (gc n) n) innkeeplaw07_TreeRoots.c13 (fun _ s h => loopN (fun Kn K s h => run (gc n) n innkeeplaw07_TreeRoots.c12 Kn K s h) m0 (kBlk 0 (kSeq (run (gc n) n) innkeeplaw07_TreeRoots.c10 (retK innkeeplaw07_TreeRoots.fn innkeeplaw07_TreeRoots.res) (retK innkeeplaw07_TreeRoots.fn innkeeplaw07_TreeRoots.res)) (retK innkeeplaw07_TreeRoots.fn innkeeplaw07_TreeRoots.res)) s h) (kBlk 0 (kSeq (run (gc n) n) innkeeplaw07_TreeRoots.c10 (retK innkeeplaw07_TreeRoots.fn innkeeplaw07_TreeRoots.res) (retK innkeeplaw07_TreeRoots.fn innkeeplaw07_TreeRoots.res)) (retK innkeeplaw07_TreeRoots.fn innkeeplaw07_TreeRoots.res))) (kBlk 0 (kSeq (run (gc n) n) innkeeplaw07_TreeRoots.c10 (retK innkeeplaw07_TreeRoots.fn innkeeplaw07_TreeRoots.res) (retK innkeeplaw07_TreeRoots.fn innkeeplaw07_TreeRoots.res)) (retK innkeeplaw07_TreeRoots.fn innkeeplaw07_TreeRoots.res))) (kBlk 1 (kSeq (run (gc n) n) innkeeplaw07_TreeRoots.c18 (kSeq (run (gc n) n) innkeeplaw07_TreeRoots.c13 (fun _ s h => loopN (fun Kn K s h => run (gc n) n innkeeplaw07_TreeRoots.c12 Kn K s h) m0 (kBlk 0 (kSeq (run (gc n) n) innkeeplaw07_TreeRoots.c10 (retK innkeeplaw07_TreeRoots.fn innkeeplaw07_TreeRoots.res) (retK innkeeplaw07_TreeRoots.fn innkeeplaw07_TreeRoots.res)) (retK innkeeplaw07_TreeRoots.fn innkeeplaw07_TreeRoots.res)) s h) (kBlk 0 (kSeq (run (gc n) n) innkeeplaw07_TreeRoots.c10 (retK innkeeplaw07_TreeRoots.fn innkeeplaw07_TreeRoots.res) (retK innkeeplaw07_TreeRoots.fn innkeeplaw07_TreeRoots.res)) (retK innkeeplaw07_TreeRoots.fn innkeeplaw07_TreeRoots.res))) (kBlk 0 (kSeq (run (gc n) n) innkeeplaw07_TreeRoots.c10 (retK innkeeplaw07_TreeRoots.fn innkeeplaw07_TreeRoots.res) (retK innkeeplaw07_TreeRoots.fn innkeeplaw07_TreeRoots.res)) (retK innkeeplaw07_TreeRoots.fn innkeeplaw07_TreeRoots.res))) (kBlk 0 (kSeq (run (gc n) n) innkeeplaw07_TreeRoots.c10 (retK innkeeplaw07_TreeRoots.fn innkeeplaw07_TreeRoots.res) (retK innkeeplaw07_TreeRoots.fn innkeeplaw07_TreeRoots.res)) (retK innkeeplaw07_TreeRoots.fn innkeeplaw07_TreeRoots.res)))))) (kBlk 3 (kSeq (run (gc n) n) innkeeplaw07_TreeRoots.c33 (kSeq (run (gc n) n) innkeeplaw07_TreeRoots.c28 (fun _ s h => loopN (fun Kn K s h => run (gc n) n innkeeplaw07_TreeRoots.c27 Kn K s h) m1 (kBlk 2 (kSeq (run (gc n) n) innkeeplaw07_TreeRoots.c18 (kSeq (run (gc n) n) innkeeplaw07_TreeRoots.c13 (fun _ s h => loopN (fun Kn K s h => run (gc n) n innkeeplaw07_TreeRoots.c12 Kn K s h) m0 (kBlk 0 (kSeq (run (gc n) n) innkeeplaw07_TreeRoots.c10 (retK innkeeplaw07_TreeRoots.fn innkeeplaw07_TreeRoots.res) (retK innkeeplaw07_TreeRoots.fn innkeeplaw07_TreeRoots.res)) (retK innkeeplaw07_TreeRoots.fn innkeeplaw07_TreeRoots.res)) s h) (kBlk 0 (kSeq (run (gc n) n) innkeeplaw07_TreeRoots.c10 (retK innkeeplaw07_TreeRoots.fn innkeeplaw07_TreeRoots.res) (retK innkeeplaw07_TreeRoots.fn innkeeplaw07_TreeRoots.res)) (retK innkeeplaw07_TreeRoots.fn innkeeplaw07_TreeRoots.res))) (kBlk 0 (kSeq (run (gc n) n) innkeeplaw07_TreeRoots.c10 (retK innkeeplaw07_TreeRoots.fn innkeeplaw07_TreeRoots.res) (retK innkeeplaw07_TreeRoots.fn innkeeplaw07_TreeRoots.res)) (retK innkeeplaw07_TreeRoots.fn innkeeplaw07_TreeRoots.res))) (kBlk 1 (kSeq (run (gc n) n) innkeeplaw07_TreeRoots.c18 (kSeq (run (gc n) n) innkeeplaw07_TreeRoots.c13 (fun _ s h => loopN (fun Kn K s h => run (gc n) n innkeeplaw07_TreeRoots.c12 Kn K s h) m0 (kBlk 0 (kSeq (run (gc n) n) innkeeplaw07_TreeRoots.c10 (retK innkeeplaw07_TreeRoots.fn innkeeplaw07_TreeRoots.res) (retK innkeeplaw07_TreeRoots.fn innkeeplaw07_TreeRoots.res)) (retK innkeeplaw07_TreeRoots.fn innkeeplaw07_TreeRoots.res)) s h) (kBlk 0 (kSeq (run (gc n) n) innkeeplaw07_TreeRoots.c10 (retK innkeeplaw07_TreeRoots.fn innkeeplaw07_TreeRoots.res) (retK innkeeplaw07_TreeRoots.fn innkeeplaw07_TreeRoots.res)) (retK innkeeplaw07_TreeRoots.fn innkeeplaw07_TreeRoots.res))) (kBlk 0 (kSeq (run (gc n) n) innkeeplaw07_TreeRoots.c10 (retK innkeeplaw07_TreeRoots.fn innkeeplaw07_TreeRoots.res) (retK innkeeplaw07_TreeRoots.fn innkeeplaw07_TreeRoots.res)) (retK innkeeplaw07_TreeRoots.fn innkeeplaw07_TreeRoots.res))) (kBlk 0 (kSeq (run (gc n) n) innkeeplaw07_TreeRoots.c10 (retK innkeeplaw07_TreeRoots.fn innkeeplaw07_TreeRoots.res) (retK innkeeplaw07_TreeRoots.fn innkeeplaw07_TreeRoots.res)) (retK innkeeplaw07_TreeRoots.fn innkeeplaw07_TreeRoots.res)))) s h) (kBlk 2 (kSeq (run (gc n) n) innkeeplaw07_TreeRoots.c18 (kSeq (run (gc n) n) innkeeplaw07_TreeRoots.c13 (fun _ s h => loopN (fun Kn K s h => run (gc n) n innkeeplaw07_TreeRoots.c12 Kn K s h) m0 (kBlk 0 (kSeq (run (gc n) n) innkeeplaw07_TreeRoots.c10 (retK innkeeplaw07_TreeRoots.fn innkeeplaw07_TreeRoots.res) (retK innkeeplaw07_TreeRoots.fn innkeeplaw07_TreeRoots.res)) (retK innkeeplaw07_TreeRoots.fn innkeeplaw07_TreeRoots.res)) s h) (kBlk 0 (kSeq (run (gc n) n) innkeeplaw07_TreeRoots.c10 (retK innkeeplaw07_TreeRoots.fn innkeeplaw07_TreeRoots.res) (retK innkeeplaw07_TreeRoots.fn innkeeplaw07_TreeRoots.res)) (retK innkeeplaw07_TreeRoots.fn innkeeplaw07_TreeRoots.res))) (kBlk 0 (kSeq (run (gc n) n) innkeeplaw07_TreeRoots.c10 (retK innkeeplaw07_TreeRoots.fn innkeeplaw07_TreeRoots.res) (retK innkeeplaw07_TreeRoots.fn innkeeplaw07_TreeRoots.res)) (retK innkeeplaw07_TreeRoots.fn innkeeplaw07_TreeRoots.res))) (kBlk 1 (kSeq (run (gc n) n) innkeeplaw07_TreeRoots.c18 (kSeq (run (gc n) n) innkeeplaw07_TreeRoots.c13 (fun _ s h => loopN (fun Kn K s h => run (gc n) n innkeeplaw07_TreeRoots.c12 Kn K s h) m0 (kBlk 0 (kSeq (run (gc n) n) innkeeplaw07_TreeRoots.c10 (retK innkeeplaw07_TreeRoots.fn innkeeplaw07_TreeRoots.res) (retK innkeeplaw07_TreeRoots.fn innkeeplaw07_TreeRoots.res)) (retK innkeeplaw07_TreeRoots.fn innkeeplaw07_TreeRoots.res)) s h) (kBlk 0 (kSeq (run (gc n) n) innkeeplaw07_TreeRoots.c10 (retK innkeeplaw07_TreeRoots.fn innkeeplaw07_TreeRoots.res) (retK innkeeplaw07_TreeRoots.fn innkeeplaw07_TreeRoots.res)) (retK innkeeplaw07_TreeRoots.fn innkeeplaw07_TreeRoots.res))) (kBlk 0 (kSeq (run (gc n) n) innkeeplaw07_TreeRoots.c10 (retK innkeeplaw07_TreeRoots.fn innkeeplaw07_TreeRoots.res) (retK innkeeplaw07_TreeRoots.fn innkeeplaw07_TreeRoots.res)) (retK innkeeplaw07_TreeRoots.fn innkeeplaw07_TreeRoots.res))) (kBlk 0 (kSeq (run (gc n) n) innkeeplaw07_TreeRoots.c10 (retK innkeeplaw07_TreeRoots.fn innkeeplaw07_TreeRoots.res) (retK innkeeplaw07_TreeRoots.fn innkeeplaw07_TreeRoots.res)) (retK innkeeplaw07_TreeRoots.fn innkeeplaw07_TreeRoots.res))))) (kBlk 2 (kSeq (run (gc n) n) innkeeplaw07_TreeRoots.c18 (kSeq (run (gc n) n) innkeeplaw07_TreeRoots.c13 (fun _ s h => loopN (fun Kn K s h => run (gc n) n innkeeplaw07_TreeRoots.c12 Kn K s h) m0 (kBlk 0 (kSeq (run (gc n) n) innkeeplaw07_TreeRoots.c10 (retK innkeeplaw07_TreeRoots.fn innkeeplaw07_TreeRoots.res) (retK innkeeplaw07_TreeRoots.fn innkeeplaw07_TreeRoots.res)) (retK innkeeplaw07_TreeRoots.fn innkeeplaw07_TreeRoots.res)) s h) (kBlk 0 (kSeq (run (gc n) n) innkeeplaw07_TreeRoots.c10 (retK innkeeplaw07_TreeRoots.fn innkeeplaw07_TreeRoots.res) (retK innkeeplaw07_TreeRoots.fn innkeeplaw07_TreeRoots.res)) (retK innkeeplaw07_TreeRoots.fn innkeeplaw07_TreeRoots.res))) (kBlk 0 (kSeq (run (gc n) n) innkeeplaw07_TreeRoots.c10 (retK innkeeplaw07_TreeRoots.fn innkeeplaw07_TreeRoots.res) (retK innkeeplaw07_TreeRoots.fn innkeeplaw07_TreeRoots.res)) (retK innkeeplaw07_TreeRoots.fn innkeeplaw07_TreeRoots.res))) (kBlk 1 (kSeq (run (gc n) n) innkeeplaw07_TreeRoots.c18 (kSeq (run (gc n) n) innkeeplaw07_TreeRoots.c13 (fun _ s h => loopN (fun Kn K s h => run (gc n) n innkeeplaw07_TreeRoots.c12 Kn K s h) m0 (kBlk 0 (kSeq (run (gc n) n) innkeeplaw07_TreeRoots.c10 (retK innkeeplaw07_TreeRoots.fn innkeeplaw07_TreeRoots.res) (retK innkeeplaw07_TreeRoots.fn innkeeplaw07_TreeRoots.res)) (retK innkeeplaw07_TreeRoots.fn innkeeplaw07_TreeRoots.res)) s h) (kBlk 0 (kSeq (run (gc n) n) innkeeplaw07_TreeRoots.c10 (retK innkeeplaw07_TreeRoots.fn innkeeplaw07_TreeRoots.res) (retK innkeeplaw07_TreeRoots.fn innkeeplaw07_TreeRoots.res)) (retK innkeeplaw07_TreeRoots.fn innkeeplaw07_TreeRoots.res))) (kBlk 0 (kSeq (run (gc n) n) innkeeplaw07_TreeRoots.c10 (retK innkeeplaw07_TreeRoots.fn innkeeplaw07_TreeRoots.res) (retK innkeeplaw07_TreeRoots.fn innkeeplaw07_TreeRoots.res)) (retK innkeeplaw07_TreeRoots.fn innkeeplaw07_TreeRoots.res))) (kBlk 0 (kSeq (run (gc n) n) innkeeplaw07_TreeRoots.c10 (retK innkeeplaw07_TreeRoots.fn innkeeplaw07_TreeRoots.res) (retK innkeeplaw07_TreeRoots.fn innkeeplaw07_TreeRoots.res)) (retK innkeeplaw07_TreeRoots.fn innkeeplaw07_TreeRoots.res))))) (kBlk 2 (kSeq (run (gc n) n) innkeeplaw07_TreeRoots.c18 (kSeq (run (gc n) n) innkeeplaw07_TreeRoots.c13 (fun _ s h => loopN (fun Kn K s h => run (gc n) n innkeeplaw07_TreeRoots.c12 Kn K s h) m0 (kBlk 0 (kSeq (run (gc n) n) innkeeplaw07_TreeRoots.c10 (retK innkeeplaw07_TreeRoots.fn innkeeplaw07_TreeRoots.res) (retK innkeeplaw07_TreeRoots.fn innkeeplaw07_TreeRoots.res)) (retK innkeeplaw07_TreeRoots.fn innkeeplaw07_TreeRoots.res)) s h) (kBlk 0 (kSeq (run (gc n) n) innkeeplaw07_TreeRoots.c10 (retK innkeeplaw07_TreeRoots.fn innkeeplaw07_TreeRoots.res) (retK innkeeplaw07_TreeRoots.fn innkeeplaw07_TreeRoots.res)) (retK innkeeplaw07_TreeRoots.fn innkeeplaw07_TreeRoots.res))) (kBlk 0 (kSeq (run (gc n) n) innkeeplaw07_TreeRoots.c10 (retK innkeeplaw07_TreeRoots.fn innkeeplaw07_TreeRoots.res) (retK innkeeplaw07_TreeRoots.fn innkeeplaw07_TreeRoots.res)) (retK innkeeplaw07_TreeRoots.fn innkeeplaw07_TreeRoots.res))) (kBlk 1 (kSeq (run (gc n) n) innkeeplaw07_TreeRoots.c18 (kSeq (run (gc n) n) innkeeplaw07_TreeRoots.c13 (fun _ s h => loopN (fun Kn K s h => run (gc n) n innkeeplaw07_TreeRoots.c12 Kn K s h) m0 (kBlk 0 (kSeq (run (gc n) n) innkeeplaw07_TreeRoots.c10 (retK innkeeplaw07_TreeRoots.fn innkeeplaw07_TreeRoots.res) (retK innkeeplaw07_TreeRoots.fn innkeeplaw07_TreeRoots.res)) (retK innkeeplaw07_TreeRoots.fn innkeeplaw07_TreeRoots.res)) s h) (kBlk 0 (kSeq (run (gc n) n) innkeeplaw07_TreeRoots.c10 (retK innkeeplaw07_TreeRoots.fn innkeeplaw07_TreeRoots.res) (retK innkeeplaw07_TreeRoots.fn innkeeplaw07_TreeRoots.res)) (retK innkeeplaw07_TreeRoots.fn innkeeplaw07_TreeRoots.res))) (kBlk 0 (kSeq (run (gc n) n) innkeeplaw07_TreeRoots.c10 (retK innkeeplaw07_TreeRoots.fn innkeeplaw07_TreeRoots.res) (retK innkeeplaw07_TreeRoots.fn innkeeplaw07_TreeRoots.res)) (retK innkeeplaw07_TreeRoots.fn innkeeplaw07_TreeRoots.res))) (kBlk 0 (kSeq (run (gc n) n) innkeeplaw07_TreeRoots.c10 (retK innkeeplaw07_TreeRoots.fn innkeeplaw07_TreeRoots.res) (retK innkeeplaw07_TreeRoots.fn innkeeplaw07_TreeRoots.res)) (retK innkeeplaw07_TreeRoots.fn innkeeplaw07_TreeRoots.res))))))
    [(0, .dat tWorld t0_2 []), (1, .ptr 0 []), (2, .dat .bool t2_2 []), (3, .dat (.sl (.int .i64)) ([] : List Int) [([], some 1)]), (4, .dat (.int .i64) t4_2 []), (5, .dat (.int .i64) t5_2 []), (6, .dat (.int .i64) t6_2 []), (7, .ptr 2 []), (8, .dat (.sl tSeen) t8_2 []), (9, .dat (.int .i64) t9_2 [])]
    [.box tWorld o0_2 [], .arr (.int .i64) o1_2, .box tPlace o2_2 []]
def innkeeplaw07_TreeRoots.l3 (n m0 : Nat) (t0_3 : (den tWorld)) (t2_3 : Bool) (t4_3 : Int) (t10_3 : Int) (o0_3 : (den tWorld)) (o1_3 : (List Int)) : Option innkeeplaw07_TreeRoots.R :=
  loopN (fun Kn K s h => run (gc n) n innkeeplaw07_TreeRoots.c68 Kn K s h) m0 (kBlk 6 (kSeq (run (gc n) n) innkeeplaw07_TreeRoots.c66 (retK innkeeplaw07_TreeRoots.fn innkeeplaw07_TreeRoots.res) (retK innkeeplaw07_TreeRoots.fn innkeeplaw07_TreeRoots.res)) (retK innkeeplaw07_TreeRoots.fn innkeeplaw07_TreeRoots.res))
    [(0, .dat tWorld t0_3 []), (1, .ptr 0 []), (2, .dat .bool t2_3 []), (3, .dat (.sl (.int .i64)) ([] : List Int) [([], some 1)]), (4, .dat (.int .i64) t4_3 []), (10, .dat (.int .i64) t10_3 [])]
    [.box tWorld o0_3 [], .arr (.int .i64) o1_3]
theorem innkeeplaw07_TreeRoots.l0_eq (n m0 : Nat) (t0 : (den tWorld)) (t2 : Bool) (t4 : Int) (o0 : (den tWorld)) (o1 : (List Int)) : innkeeplaw07_TreeRoots.l0 n (m0 + 1) t0 t2 t4 o0 o1 =
  bif (decide (t4 < 2)) then
    bif (decide (t4 = 1)) then
      innkeeplaw07_TreeRoots.l1 n m0 n t0 t2 t4 ((List.length (o0.2.1 : (List Int))) : Int) 0 o0 o1
    else
      innkeeplaw07_TreeRoots.l1 n m0 n t0 t2 t4 ((List.length (o0.1.1 : (List (List Int)))) : Int) 0 o0 o1
  else
    innkeeplaw07_TreeRoots.l3 n n t0 t2 t4 0 o0 o1 := by kernel_rfl
theorem innkeeplaw07_TreeRoots.l1_eq (n m0 m1 : Nat) (t0_1 : (den tWorld)) (t2_1 : Bool) (t4_1 : Int) (t5_1 : Int) (t6_1 : Int) (o0_1 : (den tWorld)) (o1_1 : (List Int)) : innkeeplaw07_TreeRoots.l1 n m0 (m1 + 1) t0_1 t2_1 t4_1 t5_1 t6_1 o0_1 o1_1 =
  bif (decide (t6_1 < t5_1)) then
    Option.bind (tree_Under n o0_1 (t4_1, t6_1, ())) fun r5 =>
    innkeeplaw07_TreeRoots.l2 n m0 m1 n t0_1 t2_1 t4_1 t5_1 t6_1 (r5.1.1 : (List (den tSeen))) 0 o0_1 o1_1 (t4_1, t6_1, ())
  else
    innkeeplaw07_TreeRoots.l0 n m0 t0_1 t2_1 (IntKind.wrap .i64 (t4_1 + 1)) o0_1 o1_1 := by kernel_rfl
theorem innkeeplaw07_TreeRoots.l2_eq (n m0 m1 m2 : Nat) (t0_2 : (den tWorld)) (t2_2 : Bool) (t4_2 : Int) (t5_2 : Int) (t6_2 : Int) (t8_2 : (List (den tSeen))) (t9_2 : Int) (o0_2 : (den tWorld)) (o1_2 : (List Int)) (o2_2 : (den tPlace)) : innkeeplaw07_TreeRoots.l2 n m0 m1 (m2 + 1) t0_2 t2_2 t4_2 t5_2 t6_2 t8_2 t9_2 o0_2 o1_2 o2_2 =
  bif (decide (t9_2 < ((List.length t8_2) : Int))) then
    if (0 : Int) ≤ t9_2 ∧ t9_2 < (((List.length t8_2) : Nat) : Int) then
    bif (decide (((List.getD t8_2 (Int.toNat t9_2) (dft tSeen) : (den tSeen)).1 : Int) < 0)) then
      some ((false, ()), [])
    else
      if (0 : Int) ≤ t9_2 ∧ t9_2 < (((List.length t8_2) : Nat) : Int) then
      bif (decide (((List.length (o0_2.2.2.2.1 : (List (den tPlace)))) : Int) ≤ ((List.getD t8_2 (Int.toNat t9_2) (dft tSeen) : (den tSeen)).1 : Int))) then
        some ((false, ()), [])
      else
        if (0 : Int) ≤ t9_2 ∧ t9_2 < (((List.length t8_2) : Nat) : Int) then
        Option.bind (tree_Root n o0_2 ((List.getD t8_2 (Int.toNat t9_2) (dft tSeen) : (den tSeen)).1 : Int)) fun r6 =>
        bif (!(eqT tPlace r6.1.1 o2_2)) then
          some ((false, ()), [])
        else
          if (0 : Int) ≤ t9_2 ∧ t9_2 < (((List.length t8_2) : Nat) : Int) then
          if (0 : Int) ≤ t9_2 ∧ t9_2 < (((List.length t8_2) : Nat) : Int) then
          if (0 : Int) ≤ ((List.getD t8_2 (Int.toNat t9_2) (dft tSeen) : (den tSeen)).1 : Int) ∧ ((List.getD t8_2 (Int.toNat t9_2) (dft tSeen) : (den tSeen)).1 : Int) < (((List.length (o0_2.2.2.2.1 : (List (den tPlace)))) : Nat) : Int) then
          bif (!(eqT tPlace ((List.getD t8_2 (Int.toNat t9_2) (dft tSeen) : (den tSeen)).2.1) (List.getD (o0_2.2.2.2.1 : (List (den tPlace))) (Int.toNat ((List.getD t8_2 (Int.toNat t9_2) (dft tSeen) : (den tSeen)).1 : Int)) (dft tPlace) : (den tPlace)))) then
            some ((false, ()), [])
          else
            bif (decide (0 < t9_2)) then
              if (0 : Int) ≤ (IntKind.wrap .i64 (t9_2 - 1)) ∧ (IntKind.wrap .i64 (t9_2 - 1)) < (((List.length t8_2) : Nat) : Int) then
              if (0 : Int) ≤ t9_2 ∧ t9_2 < (((List.length t8_2) : Nat) : Int) then
              bif (decide (((List.getD t8_2 (Int.toNat t9_2) (dft tSeen) : (den tSeen)).1 : Int) ≤ ((List.getD t8_2 (Int.toNat (IntKind.wrap .i64 (t9_2 - 1))) (dft tSeen) : (den tSeen)).1 : Int))) then
                some ((false, ()), [])
              else
                if (0 : Int) ≤ t9_2 ∧ t9_2 < (((List.length t8_2) : Nat) : Int) then
                if (0 : Int) ≤ ((List.getD t8_2 (Int.toNat t9_2) (dft tSeen) : (den tSeen)).1 : Int) ∧ ((List.getD t8_2 (Int.toNat t9_2) (dft tSeen) : (den tSeen)).1 : Int) < (((List.length o1_2) : Nat) : Int) then
                if (0 : Int) ≤ ((List.getD t8_2 (Int.toNat t9_2) (dft tSeen) : (den tSeen)).1 : Int) ∧ ((List.getD t8_2 (Int.toNat t9_2) (dft tSeen) : (den tSeen)).1 : Int) < (((List.length o1_2) : Nat) : Int) then
                innkeeplaw07_TreeRoots.l2 n m0 m1 m2 t0_2 t2_2 t4_2 t5_2 t6_2 t8_2 (IntKind.wrap .i64 (t9_2 + 1)) o0_2 (List.set o1_2 (Int.toNat ((List.getD t8_2 (Int.toNat t9_2) (dft tSeen) : (den tSeen)).1 : Int)) (IntKind.wrap .i64 ((List.getD o1_2 (Int.toNat ((List.getD t8_2 (Int.toNat t9_2) (dft tSeen) : (den tSeen)).1 : Int)) (0 : Int) : Int) + 1)) : (List Int)) o2_2
                else none
                else none
                else none
              else none
              else none
            else
              if (0 : Int) ≤ t9_2 ∧ t9_2 < (((List.length t8_2) : Nat) : Int) then
              if (0 : Int) ≤ ((List.getD t8_2 (Int.toNat t9_2) (dft tSeen) : (den tSeen)).1 : Int) ∧ ((List.getD t8_2 (Int.toNat t9_2) (dft tSeen) : (den tSeen)).1 : Int) < (((List.length o1_2) : Nat) : Int) then
              if (0 : Int) ≤ ((List.getD t8_2 (Int.toNat t9_2) (dft tSeen) : (den tSeen)).1 : Int) ∧ ((List.getD t8_2 (Int.toNat t9_2) (dft tSeen) : (den tSeen)).1 : Int) < (((List.length o1_2) : Nat) : Int) then
              innkeeplaw07_TreeRoots.l2 n m0 m1 m2 t0_2 t2_2 t4_2 t5_2 t6_2 t8_2 (IntKind.wrap .i64 (t9_2 + 1)) o0_2 (List.set o1_2 (Int.toNat ((List.getD t8_2 (Int.toNat t9_2) (dft tSeen) : (den tSeen)).1 : Int)) (IntKind.wrap .i64 ((List.getD o1_2 (Int.toNat ((List.getD t8_2 (Int.toNat t9_2) (dft tSeen) : (den tSeen)).1 : Int)) (0 : Int) : Int) + 1)) : (List Int)) o2_2
              else none
              else none
              else none
          else none
          else none
          else none
        else none
      else none
    else none
  else
    Option.bind (tree_Room n o0_2 o2_2) fun r7 =>
    bif (decide ((r7.1.1 : Int) < 0)) then
      some ((false, ()), [])
    else
      innkeeplaw07_TreeRoots.l1 n m0 m1 t0_2 t2_2 t4_2 t5_2 (IntKind.wrap .i64 (t6_2 + 1)) o0_2 o1_2 := by kernel_rfl
theorem innkeeplaw07_TreeRoots.l3_eq (n m0 : Nat) (t0_3 : (den tWorld)) (t2_3 : Bool) (t4_3 : Int) (t10_3 : Int) (o0_3 : (den tWorld)) (o1_3 : (List Int)) : innkeeplaw07_TreeRoots.l3 n (m0 + 1) t0_3 t2_3 t4_3 t10_3 o0_3 o1_3 =
  bif (decide (t10_3 < ((List.length (o0_3.2.2.2.1 : (List (den tPlace)))) : Int))) then
    if (0 : Int) ≤ t10_3 ∧ t10_3 < (((List.length (o0_3.2.2.2.1 : (List (den tPlace)))) : Nat) : Int) then
    if (0 : Int) ≤ t10_3 ∧ t10_3 < (((List.length o1_3) : Nat) : Int) then
    bif (!(decide ((List.getD o1_3 (Int.toNat t10_3) (0 : Int) : Int) = 1))) then
      some ((false, ()), [])
    else
      Option.bind (tree_Depth n o0_3 t10_3) fun r8 =>
      Option.bind (tree_Height n o0_3 t10_3) fun r9 =>
      bif (decide (4 < (IntKind.wrap .i64 ((r8.1.1 : Int) + (r9.1.1 : Int))))) then
        some ((false, ()), [])
      else
        bif (decide (((List.getD (o0_3.2.2.2.1 : (List (den tPlace))) (Int.toNat t10_3) (dft tPlace) : (den tPlace)).1 : Int) = 2)) then
          Option.bind (tree_Root n o0_3 t10_3) fun r10 =>
          Option.bind (tree_Root n o0_3 ((List.getD (o0_3.2.2.2.1 : (List (den tPlace))) (Int.toNat t10_3) (dft tPlace) : (den tPlace)).2.1 : Int)) fun r11 =>
          bif (!(eqT tPlace r10.1.1 r11.1.1)) then
            some ((false, ()), [])
          else
            Option.bind (tree_Depth n o0_3 t10_3) fun r12 =>
            Option.bind (tree_Depth n o0_3 ((List.getD (o0_3.2.2.2.1 : (List (den tPlace))) (Int.toNat t10_3) (dft tPlace) : (den tPlace)).2.1 : Int)) fun r13 =>
            bif (!(decide ((r12.1.1 : Int) = (IntKind.wrap .i64 ((r13.1.1 : Int) + 1))))) then
              some ((false, ()), [])
            else
              Option.bind (tree_Within n o0_3 t10_3 ((List.getD (o0_3.2.2.2.1 : (List (den tPlace))) (Int.toNat t10_3) (dft tPlace) : (den tPlace)).2.1 : Int)) fun r14 =>
              bif (!(r14.1.1 : Bool)) then
                some ((false, ()), [])
              else
                bif (!(decide (((List.getD (o0_3.2.2.2.1 : (List (den tPlace))) (Int.toNat t10_3) (dft tPlace) : (den tPlace)).1 : Int) = 2))) then
                  Option.bind (tree_Root n o0_3 t10_3) fun r15 =>
                  bif (!(eqT tPlace r15.1.1 (List.getD (o0_3.2.2.2.1 : (List (den tPlace))) (Int.toNat t10_3) (dft tPlace) : (den tPlace)))) then
                    some ((false, ()), [])
                  else
                    Option.bind (tree_Depth n o0_3 t10_3) fun r16 =>
                    bif (!(decide ((r16.1.1 : Int) = 0))) then
                      some ((false, ()), [])
                    else
                      innkeeplaw07_TreeRoots.l3 n m0 t0_3 t2_3 t4_3 (IntKind.wrap .i64 (t10_3 + 1)) o0_3 o1_3
                else
                  innkeeplaw07_TreeRoots.l3 n m0 t0_3 t2_3 t4_3 (IntKind.wrap .i64 (t10_3 + 1)) o0_3 o1_3
        else
          bif (!(decide (((List.getD (o0_3.2.2.2.1 : (List (den tPlace))) (Int.toNat t10_3) (dft tPlace) : (den tPlace)).1 : Int) = 2))) then
            Option.bind (tree_Root n o0_3 t10_3) fun r17 =>
            bif (!(eqT tPlace r17.1.1 (List.getD (o0_3.2.2.2.1 : (List (den tPlace))) (Int.toNat t10_3) (dft tPlace) : (den tPlace)))) then
              some ((false, ()), [])
            else
              Option.bind (tree_Depth n o0_3 t10_3) fun r18 =>
              bif (!(decide ((r18.1.1 : Int) = 0))) then
                some ((false, ()), [])
              else
                innkeeplaw07_TreeRoots.l3 n m0 t0_3 t2_3 t4_3 (IntKind.wrap .i64 (t10_3 + 1)) o0_3 o1_3
          else
            innkeeplaw07_TreeRoots.l3 n m0 t0_3 t2_3 t4_3 (IntKind.wrap .i64 (t10_3 + 1)) o0_3 o1_3
    else none
    else none
  else
    some ((true, ()), []) := by kernel_rfl
theorem innkeeplaw07_TreeRoots.eq (n : Nat) (a0 : (den tWorld)) : innkeeplaw07_TreeRoots (n + 1) a0 =
  Option.bind (innkeeplaw07_awake n) fun r1 =>
  bif (!(r1.1.1 : Bool)) then
    Option.bind (innkeeplaw07_awake n) fun r2 =>
    some (((r2.1.1 : Bool), ()), [])
  else
    Option.bind (innkeeplaw07_fits n a0) fun r3 =>
    bif (!(r3.1.1 : Bool)) then
      Option.bind (innkeeplaw07_awake n) fun r4 =>
      some (((r4.1.1 : Bool), ()), [])
    else
      if (0 : Int) ≤ ((List.length (a0.2.2.2.1 : (List (den tPlace)))) : Int) ∧ ((List.length (a0.2.2.2.1 : (List (den tPlace)))) : Int) ≤ 1048576 then
      innkeeplaw07_TreeRoots.l0 n n a0 false 0 a0 (List.replicate (Int.toNat ((List.length (a0.2.2.2.1 : (List (den tPlace)))) : Int)) (0 : Int))
      else none := by kernel_rfl
def innkeeplaw07_TreeWithin.res : List Sh := [.d .bool]
@[reducible] def innkeeplaw07_TreeWithin.R : Type := dShL [.d .bool] × Fresh
def innkeeplaw07_TreeWithin (n : Nat) (a0 : (den tWorld)) (a1 : Int) (a2 : Int) (a3 : Int) : Option innkeeplaw07_TreeWithin.R := gc n 5 [.dat tWorld a0 [], .dat (.int .u8) a1 [], .dat (.int .u8) a2 [], .dat (.int .u8) a3 []] [.d .bool]
theorem innkeeplaw07_TreeWithin.eq (n : Nat) (a0 : (den tWorld)) (a1 : Int) (a2 : Int) (a3 : Int) : innkeeplaw07_TreeWithin (n + 1) a0 a1 a2 a3 =
  Option.bind (innkeeplaw07_awake n) fun r1 =>
  bif (!(r1.1.1 : Bool)) then
    Option.bind (innkeeplaw07_awake n) fun r2 =>
    some (((r2.1.1 : Bool), ()), [])
  else
    Option.bind (innkeeplaw07_fits n a0) fun r3 =>
    bif (!(r3.1.1 : Bool)) then
      Option.bind (innkeeplaw07_awake n) fun r4 =>
      some (((r4.1.1 : Bool), ()), [])
    else
      bif (decide (((List.length (a0.2.2.2.1 : (List (den tPlace)))) : Int) = 0)) then
        Option.bind (innkeeplaw07_awake n) fun r5 =>
        some (((r5.1.1 : Bool), ()), [])
      else
        if ((List.length (a0.2.2.2.1 : (List (den tPlace)))) : Int) = 0 then none else
        if ((List.length (a0.2.2.2.1 : (List (den tPlace)))) : Int) = 0 then none else
        if ((List.length (a0.2.2.2.1 : (List (den tPlace)))) : Int) = 0 then none else
        Option.bind (tree_Within n a0 (Int.tmod (IntKind.wrap .i64 (a1)) ((List.length (a0.2.2.2.1 : (List (den tPlace)))) : Int)) (Int.tmod (IntKind.wrap .i64 (a1)) ((List.length (a0.2.2.2.1 : (List (den tPlace)))) : Int))) fun r6 =>
        bif (!(r6.1.1 : Bool)) then
          some ((false, ()), [])
        else
          Option.bind (tree_Within n a0 (Int.tmod (IntKind.wrap .i64 (a1)) ((List.length (a0.2.2.2.1 : (List (den tPlace)))) : Int)) (Int.tmod (IntKind.wrap .i64 (a2)) ((List.length (a0.2.2.2.1 : (List (den tPlace)))) : Int))) fun r7 =>
          bif (r7.1.1 : Bool) then
            Option.bind (tree_Within n a0 (Int.tmod (IntKind.wrap .i64 (a2)) ((List.length (a0.2.2.2.1 : (List (den tPlace)))) : Int)) (Int.tmod (IntKind.wrap .i64 (a1)) ((List.length (a0.2.2.2.1 : (List (den tPlace)))) : Int))) fun r8 =>
            bif (r8.1.1 : Bool) then
              bif (!(decide ((Int.tmod (IntKind.wrap .i64 (a1)) ((List.length (a0.2.2.2.1 : (List (den tPlace)))) : Int)) = (Int.tmod (IntKind.wrap .i64 (a2)) ((List.length (a0.2.2.2.1 : (List (den tPlace)))) : Int))))) then
                some ((false, ()), [])
              else
                Option.bind (tree_Within n a0 (Int.tmod (IntKind.wrap .i64 (a1)) ((List.length (a0.2.2.2.1 : (List (den tPlace)))) : Int)) (Int.tmod (IntKind.wrap .i64 (a2)) ((List.length (a0.2.2.2.1 : (List (den tPlace)))) : Int))) fun r9 =>
                bif (r9.1.1 : Bool) then
                  Option.bind (tree_Within n a0 (Int.tmod (IntKind.wrap .i64 (a2)) ((List.length (a0.2.2.2.1 : (List (den tPlace)))) : Int)) (Int.tmod (IntKind.wrap .i64 (a3)) ((List.length (a0.2.2.2.1 : (List (den tPlace)))) : Int))) fun r10 =>
                  bif (r10.1.1 : Bool) then
                    Option.bind (tree_Within n a0 (Int.tmod (IntKind.wrap .i64 (a1)) ((List.length (a0.2.2.2.1 : (List (den tPlace)))) : Int)) (Int.tmod (IntKind.wrap .i64 (a3)) ((List.length (a0.2.2.2.1 : (List (den tPlace)))) : Int))) fun r11 =>
                    bif (!(r11.1.1 : Bool)) then
                      some ((false, ()), [])
                    else
                      Option.bind (tree_Within n a0 (Int.tmod (IntKind.wrap .i64 (a1)) ((List.length (a0.2.2.2.1 : (List (den tPlace)))) : Int)) (Int.tmod (IntKind.wrap .i64 (a2)) ((List.length (a0.2.2.2.1 : (List (den tPlace)))) : Int))) fun r12 =>
                      bif (!(r12.1.1 : Bool)) then
                        some ((true, ()), [])
                      else
                        Option.bind (tree_Root n a0 (Int.tmod (IntKind.wrap .i64 (a1)) ((List.length (a0.2.2.2.1 : (List (den tPlace)))) : Int))) fun r13 =>
                        Option.bind (tree_Root n a0 (Int.tmod (IntKind.wrap .i64 (a2)) ((List.length (a0.2.2.2.1 : (List (den tPlace)))) : Int))) fun r14 =>
                        bif (eqT tPlace r13.1.1 r14.1.1) then
                          Option.bind (tree_Depth n a0 (Int.tmod (IntKind.wrap .i64 (a1)) ((List.length (a0.2.2.2.1 : (List (den tPlace)))) : Int))) fun r15 =>
                          Option.bind (tree_Depth n a0 (Int.tmod (IntKind.wrap .i64 (a2)) ((List.length (a0.2.2.2.1 : (List (den tPlace)))) : Int))) fun r16 =>
                          bif (decide ((r16.1.1 : Int) ≤ (r15.1.1 : Int))) then
                            Option.bind (tree_Depth n a0 (Int.tmod (IntKind.wrap .i64 (a1)) ((List.length (a0.2.2.2.1 : (List (den tPlace)))) : Int))) fun r17 =>
                            Option.bind (tree_Depth n a0 (Int.tmod (IntKind.wrap .i64 (a2)) ((List.length (a0.2.2.2.1 : (List (den tPlace)))) : Int))) fun r18 =>
                            Option.bind (tree_Height n a0 (Int.tmod (IntKind.wrap .i64 (a2)) ((List.length (a0.2.2.2.1 : (List (den tPlace)))) : Int))) fun r19 =>
                            some (((decide ((r17.1.1 : Int) ≤ (IntKind.wrap .i64 ((r18.1.1 : Int) + (r19.1.1 : Int))))), ()), [])
                          else
                            some ((false, ()), [])
                        else
                          some ((false, ()), [])
                  else
                    Option.bind (tree_Within n a0 (Int.tmod (IntKind.wrap .i64 (a1)) ((List.length (a0.2.2.2.1 : (List (den tPlace)))) : Int)) (Int.tmod (IntKind.wrap .i64 (a2)) ((List.length (a0.2.2.2.1 : (List (den tPlace)))) : Int))) fun r20 =>
                    bif (!(r20.1.1 : Bool)) then
                      some ((true, ()), [])
                    else
                      Option.bind (tree_Root n a0 (Int.tmod (IntKind.wrap .i64 (a1)) ((List.length (a0.2.2.2.1 : (List (den tPlace)))) : Int))) fun r21 =>
                      Option.bind (tree_Root n a0 (Int.tmod (IntKind.wrap .i64 (a2)) ((List.length (a0.2.2.2.1 : (List (den tPlace)))) : Int))) fun r22 =>
                      bif (eqT tPlace r21.1.1 r22.1.1) then
                        Option.bind (tree_Depth n a0 (Int.tmod (IntKind.wrap .i64 (a1)) ((List.length (a0.2.2.2.1 : (List (den tPlace)))) : Int))) fun r23 =>
                        Option.bind (tree_Depth n a0 (Int.tmod (IntKind.wrap .i64 (a2)) ((List.length (a0.2.2.2.1 : (List (den tPlace)))) : Int))) fun r24 =>
                        bif (decide ((r24.1.1 : Int) ≤ (r23.1.1 : Int))) then
                          Option.bind (tree_Depth n a0 (Int.tmod (IntKind.wrap .i64 (a1)) ((List.length (a0.2.2.2.1 : (List (den tPlace)))) : Int))) fun r25 =>
                          Option.bind (tree_Depth n a0 (Int.tmod (IntKind.wrap .i64 (a2)) ((List.length (a0.2.2.2.1 : (List (den tPlace)))) : Int))) fun r26 =>
                          Option.bind (tree_Height n a0 (Int.tmod (IntKind.wrap .i64 (a2)) ((List.length (a0.2.2.2.1 : (List (den tPlace)))) : Int))) fun r27 =>
                          some (((decide ((r25.1.1 : Int) ≤ (IntKind.wrap .i64 ((r26.1.1 : Int) + (r27.1.1 : Int))))), ()), [])
                        else
                          some ((false, ()), [])
                      else
                        some ((false, ()), [])
                else
                  Option.bind (tree_Within n a0 (Int.tmod (IntKind.wrap .i64 (a1)) ((List.length (a0.2.2.2.1 : (List (den tPlace)))) : Int)) (Int.tmod (IntKind.wrap .i64 (a2)) ((List.length (a0.2.2.2.1 : (List (den tPlace)))) : Int))) fun r28 =>
                  bif (!(r28.1.1 : Bool)) then
                    some ((true, ()), [])
                  else
                    Option.bind (tree_Root n a0 (Int.tmod (IntKind.wrap .i64 (a1)) ((List.length (a0.2.2.2.1 : (List (den tPlace)))) : Int))) fun r29 =>
                    Option.bind (tree_Root n a0 (Int.tmod (IntKind.wrap .i64 (a2)) ((List.length (a0.2.2.2.1 : (List (den tPlace)))) : Int))) fun r30 =>
                    bif (eqT tPlace r29.1.1 r30.1.1) then
                      Option.bind (tree_Depth n a0 (Int.tmod (IntKind.wrap .i64 (a1)) ((List.length (a0.2.2.2.1 : (List (den tPlace)))) : Int))) fun r31 =>
                      Option.bind (tree_Depth n a0 (Int.tmod (IntKind.wrap .i64 (a2)) ((List.length (a0.2.2.2.1 : (List (den tPlace)))) : Int))) fun r32 =>
                      bif (decide ((r32.1.1 : Int) ≤ (r31.1.1 : Int))) then
                        Option.bind (tree_Depth n a0 (Int.tmod (IntKind.wrap .i64 (a1)) ((List.length (a0.2.2.2.1 : (List (den tPlace)))) : Int))) fun r33 =>
                        Option.bind (tree_Depth n a0 (Int.tmod (IntKind.wrap .i64 (a2)) ((List.length (a0.2.2.2.1 : (List (den tPlace)))) : Int))) fun r34 =>
                        Option.bind (tree_Height n a0 (Int.tmod (IntKind.wrap .i64 (a2)) ((List.length (a0.2.2.2.1 : (List (den tPlace)))) : Int))) fun r35 =>
                        some (((decide ((r33.1.1 : Int) ≤ (IntKind.wrap .i64 ((r34.1.1 : Int) + (r35.1.1 : Int))))), ()), [])
                      else
                        some ((false, ()), [])
                    else
                      some ((false, ()), [])
            else
              Option.bind (tree_Within n a0 (Int.tmod (IntKind.wrap .i64 (a1)) ((List.length (a0.2.2.2.1 : (List (den tPlace)))) : Int)) (Int.tmod (IntKind.wrap .i64 (a2)) ((List.length (a0.2.2.2.1 : (List (den tPlace)))) : Int))) fun r36 =>
              bif (r36.1.1 : Bool) then
                Option.bind (tree_Within n a0 (Int.tmod (IntKind.wrap .i64 (a2)) ((List.length (a0.2.2.2.1 : (List (den tPlace)))) : Int)) (Int.tmod (IntKind.wrap .i64 (a3)) ((List.length (a0.2.2.2.1 : (List (den tPlace)))) : Int))) fun r37 =>
                bif (r37.1.1 : Bool) then
                  Option.bind (tree_Within n a0 (Int.tmod (IntKind.wrap .i64 (a1)) ((List.length (a0.2.2.2.1 : (List (den tPlace)))) : Int)) (Int.tmod (IntKind.wrap .i64 (a3)) ((List.length (a0.2.2.2.1 : (List (den tPlace)))) : Int))) fun r38 =>
                  bif (!(r38.1.1 : Bool)) then
                    some ((false, ()), [])
                  else
                    Option.bind (tree_Within n a0 (Int.tmod (IntKind.wrap .i64 (a1)) ((List.length (a0.2.2.2.1 : (List (den tPlace)))) : Int)) (Int.tmod (IntKind.wrap .i64 (a2)) ((List.length (a0.2.2.2.1 : (List (den tPlace)))) : Int))) fun r39 =>
                    bif (!(r39.1.1 : Bool)) then
                      some ((true, ()), [])
                    else
                      Option.bind (tree_Root n a0 (Int.tmod (IntKind.wrap .i64 (a1)) ((List.length (a0.2.2.2.1 : (List (den tPlace)))) : Int))) fun r40 =>
                      Option.bind (tree_Root n a0 (Int.tmod (IntKind.wrap .i64 (a2)) ((List.length (a0.2.2.2.1 : (List (den tPlace)))) : Int))) fun r41 =>
                      bif (eqT tPlace r40.1.1 r41.1.1) then
                        Option.bind (tree_Depth n a0 (Int.tmod (IntKind.wrap .i64 (a1)) ((List.length (a0.2.2.2.1 : (List (den tPlace)))) : Int))) fun r42 =>
                        Option.bind (tree_Depth n a0 (Int.tmod (IntKind.wrap .i64 (a2)) ((List.length (a0.2.2.2.1 : (List (den tPlace)))) : Int))) fun r43 =>
                        bif (decide ((r43.1.1 : Int) ≤ (r42.1.1 : Int))) then
                          Option.bind (tree_Depth n a0 (Int.tmod (IntKind.wrap .i64 (a1)) ((List.length (a0.2.2.2.1 : (List (den tPlace)))) : Int))) fun r44 =>
                          Option.bind (tree_Depth n a0 (Int.tmod (IntKind.wrap .i64 (a2)) ((List.length (a0.2.2.2.1 : (List (den tPlace)))) : Int))) fun r45 =>
                          Option.bind (tree_Height n a0 (Int.tmod (IntKind.wrap .i64 (a2)) ((List.length (a0.2.2.2.1 : (List (den tPlace)))) : Int))) fun r46 =>
                          some (((decide ((r44.1.1 : Int) ≤ (IntKind.wrap .i64 ((r45.1.1 : Int) + (r46.1.1 : Int))))), ()), [])
                        else
                          some ((false, ()), [])
                      else
                        some ((false, ()), [])
                else
                  Option.bind (tree_Within n a0 (Int.tmod (IntKind.wrap .i64 (a1)) ((List.length (a0.2.2.2.1 : (List (den tPlace)))) : Int)) (Int.tmod (IntKind.wrap .i64 (a2)) ((List.length (a0.2.2.2.1 : (List (den tPlace)))) : Int))) fun r47 =>
                  bif (!(r47.1.1 : Bool)) then
                    some ((true, ()), [])
                  else
                    Option.bind (tree_Root n a0 (Int.tmod (IntKind.wrap .i64 (a1)) ((List.length (a0.2.2.2.1 : (List (den tPlace)))) : Int))) fun r48 =>
                    Option.bind (tree_Root n a0 (Int.tmod (IntKind.wrap .i64 (a2)) ((List.length (a0.2.2.2.1 : (List (den tPlace)))) : Int))) fun r49 =>
                    bif (eqT tPlace r48.1.1 r49.1.1) then
                      Option.bind (tree_Depth n a0 (Int.tmod (IntKind.wrap .i64 (a1)) ((List.length (a0.2.2.2.1 : (List (den tPlace)))) : Int))) fun r50 =>
                      Option.bind (tree_Depth n a0 (Int.tmod (IntKind.wrap .i64 (a2)) ((List.length (a0.2.2.2.1 : (List (den tPlace)))) : Int))) fun r51 =>
                      bif (decide ((r51.1.1 : Int) ≤ (r50.1.1 : Int))) then
                        Option.bind (tree_Depth n a0 (Int.tmod (IntKind.wrap .i64 (a1)) ((List.length (a0.2.2.2.1 : (List (den tPlace)))) : Int))) fun r52 =>
                        Option.bind (tree_Depth n a0 (Int.tmod (IntKind.wrap .i64 (a2)) ((List.length (a0.2.2.2.1 : (List (den tPlace)))) : Int))) fun r53 =>
                        Option.bind (tree_Height n a0 (Int.tmod (IntKind.wrap .i64 (a2)) ((List.length (a0.2.2.2.1 : (List (den tPlace)))) : Int))) fun r54 =>
                        some (((decide ((r52.1.1 : Int) ≤ (IntKind.wrap .i64 ((r53.1.1 : Int) + (r54.1.1 : Int))))), ()), [])
                      else
                        some ((false, ()), [])
                    else
                      some ((false, ()), [])
              else
                Option.bind (tree_Within n a0 (Int.tmod (IntKind.wrap .i64 (a1)) ((List.length (a0.2.2.2.1 : (List (den tPlace)))) : Int)) (Int.tmod (IntKind.wrap .i64 (a2)) ((List.length (a0.2.2.2.1 : (List (den tPlace)))) : Int))) fun r55 =>
                bif (!(r55.1.1 : Bool)) then
                  some ((true, ()), [])
                else
                  Option.bind (tree_Root n a0 (Int.tmod (IntKind.wrap .i64 (a1)) ((List.length (a0.2.2.2.1 : (List (den tPlace)))) : Int))) fun r56 =>
                  Option.bind (tree_Root n a0 (Int.tmod (IntKind.wrap .i64 (a2)) ((List.length (a0.2.2.2.1 : (List (den tPlace)))) : Int))) fun r57 =>
                  bif (eqT tPlace r56.1.1 r57.1.1) then
                    Option.bind (tree_Depth n a0 (Int.tmod (IntKind.wrap .i64 (a1)) ((List.length (a0.2.2.2.1 : (List (den tPlace)))) : Int))) fun r58 =>
                    Option.bind (tree_Depth n a0 (Int.tmod (IntKind.wrap .i64 (a2)) ((List.length (a0.2.2.2.1 : (List (den tPlace)))) : Int))) fun r59 =>
                    bif (decide ((r59.1.1 : Int) ≤ (r58.1.1 : Int))) then
                      Option.bind (tree_Depth n a0 (Int.tmod (IntKind.wrap .i64 (a1)) ((List.length (a0.2.2.2.1 : (List (den tPlace)))) : Int))) fun r60 =>
                      Option.bind (tree_Depth n a0 (Int.tmod (IntKind.wrap .i64 (a2)) ((List.length (a0.2.2.2.1 : (List (den tPlace)))) : Int))) fun r61 =>
                      Option.bind (tree_Height n a0 (Int.tmod (IntKind.wrap .i64 (a2)) ((List.length (a0.2.2.2.1 : (List (den tPlace)))) : Int))) fun r62 =>
                      some (((decide ((r60.1.1 : Int) ≤ (IntKind.wrap .i64 ((r61.1.1 : Int) + (r62.1.1 : Int))))), ()), [])
                    else
                      some ((false, ()), [])
                  else
                    some ((false, ()), [])
          else
            Option.bind (tree_Within n a0 (Int.tmod (IntKind.wrap .i64 (a1)) ((List.length (a0.2.2.2.1 : (List (den tPlace)))) : Int)) (Int.tmod (IntKind.wrap .i64 (a2)) ((List.length (a0.2.2.2.1 : (List (den tPlace)))) : Int))) fun r63 =>
            bif (r63.1.1 : Bool) then
              Option.bind (tree_Within n a0 (Int.tmod (IntKind.wrap .i64 (a2)) ((List.length (a0.2.2.2.1 : (List (den tPlace)))) : Int)) (Int.tmod (IntKind.wrap .i64 (a3)) ((List.length (a0.2.2.2.1 : (List (den tPlace)))) : Int))) fun r64 =>
              bif (r64.1.1 : Bool) then
                Option.bind (tree_Within n a0 (Int.tmod (IntKind.wrap .i64 (a1)) ((List.length (a0.2.2.2.1 : (List (den tPlace)))) : Int)) (Int.tmod (IntKind.wrap .i64 (a3)) ((List.length (a0.2.2.2.1 : (List (den tPlace)))) : Int))) fun r65 =>
                bif (!(r65.1.1 : Bool)) then
                  some ((false, ()), [])
                else
                  Option.bind (tree_Within n a0 (Int.tmod (IntKind.wrap .i64 (a1)) ((List.length (a0.2.2.2.1 : (List (den tPlace)))) : Int)) (Int.tmod (IntKind.wrap .i64 (a2)) ((List.length (a0.2.2.2.1 : (List (den tPlace)))) : Int))) fun r66 =>
                  bif (!(r66.1.1 : Bool)) then
                    some ((true, ()), [])
                  else
                    Option.bind (tree_Root n a0 (Int.tmod (IntKind.wrap .i64 (a1)) ((List.length (a0.2.2.2.1 : (List (den tPlace)))) : Int))) fun r67 =>
                    Option.bind (tree_Root n a0 (Int.tmod (IntKind.wrap .i64 (a2)) ((List.length (a0.2.2.2.1 : (List (den tPlace)))) : Int))) fun r68 =>
                    bif (eqT tPlace r67.1.1 r68.1.1) then
                      Option.bind (tree_Depth n a0 (Int.tmod (IntKind.wrap .i64 (a1)) ((List.length (a0.2.2.2.1 : (List (den tPlace)))) : Int))) fun r69 =>
                      Option.bind (tree_Depth n a0 (Int.tmod (IntKind.wrap .i64 (a2)) ((List.length (a0.2.2.2.1 : (List (den tPlace)))) : Int))) fun r70 =>
                      bif (decide ((r70.1.1 : Int) ≤ (r69.1.1 : Int))) then
                        Option.bind (tree_Depth n a0 (Int.tmod (IntKind.wrap .i64 (a1)) ((List.length (a0.2.2.2.1 : (List (den tPlace)))) : Int))) fun r71 =>
                        Option.bind (tree_Depth n a0 (Int.tmod (IntKind.wrap .i64 (a2)) ((List.length (a0.2.2.2.1 : (List (den tPlace)))) : Int))) fun r72 =>
                        Option.bind (tree_Height n a0 (Int.tmod (IntKind.wrap .i64 (a2)) ((List.length (a0.2.2.2.1 : (List (den tPlace)))) : Int))) fun r73 =>
                        some (((decide ((r71.1.1 : Int) ≤ (IntKind.wrap .i64 ((r72.1.1 : Int) + (r73.1.1 : Int))))), ()), [])
                      else
                        some ((false, ()), [])
                    else
                      some ((false, ()), [])
              else
                Option.bind (tree_Within n a0 (Int.tmod (IntKind.wrap .i64 (a1)) ((List.length (a0.2.2.2.1 : (List (den tPlace)))) : Int)) (Int.tmod (IntKind.wrap .i64 (a2)) ((List.length (a0.2.2.2.1 : (List (den tPlace)))) : Int))) fun r74 =>
                bif (!(r74.1.1 : Bool)) then
                  some ((true, ()), [])
                else
                  Option.bind (tree_Root n a0 (Int.tmod (IntKind.wrap .i64 (a1)) ((List.length (a0.2.2.2.1 : (List (den tPlace)))) : Int))) fun r75 =>
                  Option.bind (tree_Root n a0 (Int.tmod (IntKind.wrap .i64 (a2)) ((List.length (a0.2.2.2.1 : (List (den tPlace)))) : Int))) fun r76 =>
                  bif (eqT tPlace r75.1.1 r76.1.1) then
                    Option.bind (tree_Depth n a0 (Int.tmod (IntKind.wrap .i64 (a1)) ((List.length (a0.2.2.2.1 : (List (den tPlace)))) : Int))) fun r77 =>
                    Option.bind (tree_Depth n a0 (Int.tmod (IntKind.wrap .i64 (a2)) ((List.length (a0.2.2.2.1 : (List (den tPlace)))) : Int))) fun r78 =>
                    bif (decide ((r78.1.1 : Int) ≤ (r77.1.1 : Int))) then
                      Option.bind (tree_Depth n a0 (Int.tmod (IntKind.wrap .i64 (a1)) ((List.length (a0.2.2.2.1 : (List (den tPlace)))) : Int))) fun r79 =>
                      Option.bind (tree_Depth n a0 (Int.tmod (IntKind.wrap .i64 (a2)) ((List.length (a0.2.2.2.1 : (List (den tPlace)))) : Int))) fun r80 =>
                      Option.bind (tree_Height n a0 (Int.tmod (IntKind.wrap .i64 (a2)) ((List.length (a0.2.2.2.1 : (List (den tPlace)))) : Int))) fun r81 =>
                      some (((decide ((r79.1.1 : Int) ≤ (IntKind.wrap .i64 ((r80.1.1 : Int) + (r81.1.1 : Int))))), ()), [])
                    else
                      some ((false, ()), [])
                  else
                    some ((false, ()), [])
            else
              Option.bind (tree_Within n a0 (Int.tmod (IntKind.wrap .i64 (a1)) ((List.length (a0.2.2.2.1 : (List (den tPlace)))) : Int)) (Int.tmod (IntKind.wrap .i64 (a2)) ((List.length (a0.2.2.2.1 : (List (den tPlace)))) : Int))) fun r82 =>
              bif (!(r82.1.1 : Bool)) then
                some ((true, ()), [])
              else
                Option.bind (tree_Root n a0 (Int.tmod (IntKind.wrap .i64 (a1)) ((List.length (a0.2.2.2.1 : (List (den tPlace)))) : Int))) fun r83 =>
                Option.bind (tree_Root n a0 (Int.tmod (IntKind.wrap .i64 (a2)) ((List.length (a0.2.2.2.1 : (List (den tPlace)))) : Int))) fun r84 =>
                bif (eqT tPlace r83.1.1 r84.1.1) then
                  Option.bind (tree_Depth n a0 (Int.tmod (IntKind.wrap .i64 (a1)) ((List.length (a0.2.2.2.1 : (List (den tPlace)))) : Int))) fun r85 =>
                  Option.bind (tree_Depth n a0 (Int.tmod (IntKind.wrap .i64 (a2)) ((List.length (a0.2.2.2.1 : (List (den tPlace)))) : Int))) fun r86 =>
                  bif (decide ((r86.1.1 : Int) ≤ (r85.1.1 : Int))) then
                    Option.bind (tree_Depth n a0 (Int.tmod (IntKind.wrap .i64 (a1)) ((List.length (a0.2.2.2.1 : (List (den tPlace)))) : Int))) fun r87 =>
                    Option.bind (tree_Depth n a0 (Int.tmod (IntKind.wrap .i64 (a2)) ((List.length (a0.2.2.2.1 : (List (den tPlace)))) : Int))) fun r88 =>
                    Option.bind (tree_Height n a0 (Int.tmod (IntKind.wrap .i64 (a2)) ((List.length (a0.2.2.2.1 : (List (den tPlace)))) : Int))) fun r89 =>
                    some (((decide ((r87.1.1 : Int) ≤ (IntKind.wrap .i64 ((r88.1.1 : Int) + (r89.1.1 : Int))))), ()), [])
                  else
                    some ((false, ()), [])
                else
                  some ((false, ()), []) := by kernel_rfl
def innkeepref06_Copied.res : List Sh := [.d tWorld]
@[reducible] def innkeepref06_Copied.R : Type := dShL [.d tWorld] × Fresh
def innkeepref06_Copied (n : Nat) (a0 : (den tWorld)) : Option innkeepref06_Copied.R := gc n 27 [.dat tWorld a0 []] [.d tWorld]
theorem innkeepref06_Copied.eq (n : Nat) (a0 : (den tWorld)) : innkeepref06_Copied (n + 1) a0 =
  if 0 + (List.length (a0.2.1 : (List Int))) ≤ 1048576 then
  if 0 + (List.length (a0.2.2.1 : (List Int))) ≤ 1048576 then
  if 0 + (List.length (a0.2.2.2.1 : (List (den tPlace)))) ≤ 1048576 then
  some (((a0.1, (([] : List Int) ++ (a0.2.1 : (List Int))), (([] : List Int) ++ (a0.2.2.1 : (List Int))), (([] : List (den tPlace)) ++ (a0.2.2.2.1 : (List (den tPlace)))), ()), ()), [(0, [1]), (0, [2]), (0, [3])])
  else none
  else none
  else none := by kernel_rfl
def innkeepref06_Places.res : List Sh := [.d .bool]
@[reducible] def innkeepref06_Places.R : Type := dShL [.d .bool] × Fresh
def innkeepref06_Places (n : Nat) (a0 : (List (den tPlace))) (a1 : (List (den tPlace))) : Option innkeepref06_Places.R := gc n 37 [.dat (.sl tPlace) a0 [], .dat (.sl tPlace) a1 []] [.d .bool]
def innkeepref06_Places.l0 (n m0 : Nat) (t0 : (List (den tPlace))) (t1 : (List (den tPlace))) (t4 : Bool) (t5 : Int) : Option innkeepref06_Places.R :=
  loopN (fun Kn K s h => run (gc n) n innkeepref06_Places.c9 Kn K s h) m0 (kBlk 0 (kSeq (run (gc n) n) innkeepref06_Places.c7 (retK innkeepref06_Places.fn innkeepref06_Places.res) (retK innkeepref06_Places.fn innkeepref06_Places.res)) (retK innkeepref06_Places.fn innkeepref06_Places.res))
    [(0, .dat (.sl tPlace) t0 []), (1, .dat (.sl tPlace) t1 []), (4, .dat .bool t4 []), (5, .dat (.int .i64) t5 [])]
    []
theorem innkeepref06_Places.l0_eq (n m0 : Nat) (t0 : (List (den tPlace))) (t1 : (List (den tPlace))) (t4 : Bool) (t5 : Int) : innkeepref06_Places.l0 n (m0 + 1) t0 t1 t4 t5 =
  bif (decide (t5 < ((List.length t0) : Int))) then
    if (0 : Int) ≤ t5 ∧ t5 < (((List.length t0) : Nat) : Int) then
    if (0 : Int) ≤ t5 ∧ t5 < (((List.length t1) : Nat) : Int) then
    bif (!(eqT tPlace (List.getD t0 (Int.toNat t5) (dft tPlace) : (den tPlace)) (List.getD t1 (Int.toNat t5) (dft tPlace) : (den tPlace)))) then
      some ((false, ()), [])
    else
      innkeepref06_Places.l0 n m0 t0 t1 t4 (IntKind.wrap .i64 (t5 + 1))
    else none
    else none
  else
    some ((true, ()), []) := by kernel_rfl
theorem innkeepref06_Places.eq (n : Nat) (a0 : (List (den tPlace))) (a1 : (List (den tPlace))) : innkeepref06_Places (n + 1) a0 a1 =
  bif (!(decide (((List.length a0) : Int) = ((List.length a1) : Int)))) then
    some ((false, ()), [])
  else
    innkeepref06_Places.l0 n n a0 a1 false 0 := by kernel_rfl
def innkeepref06_Same.res : List Sh := [.d .bool]
@[reducible] def innkeepref06_Same.R : Type := dShL [.d .bool] × Fresh
def innkeepref06_Same (n : Nat) (a0 : (den tWorld)) (a1 : (den tWorld)) : Option innkeepref06_Same.R := gc n 28 [.dat tWorld a0 [], .dat tWorld a1 []] [.d .bool]
def innkeepref06_Same.l0 (n m0 : Nat) (t0 : (den tWorld)) (t1 : (den tWorld)) (t4 : Bool) (t7 : Int) (o0 : (den tWorld)) (o1 : (den tWorld)) (o2 : (den tDesc)) (o3 : (den tDesc)) : Option innkeepref06_Same.R :=
  loopN (fun Kn K s h => run (gc n) n innkeepref06_Same.c13 Kn K s h) m0 (kBlk 0 (kSeq (run (gc n) n) innkeepref06_Same.c11 (retK innkeepref06_Same.fn innkeepref06_Same.res) (retK innkeepref06_Same.fn innkeepref06_Same.res)) (retK innkeepref06_Same.fn innkeepref06_Same.res))
    [(0, .dat tWorld t0 []), (1, .dat tWorld t1 []), (2, .ptr 0 []), (3, .ptr 1 []), (4, .dat .bool t4 []), (5, .ptr 2 []), (6, .ptr 3 []), (7, .dat (.int .i64) t7 [])]
    [.box tWorld o0 [], .box tWorld o1 [], .box tDesc o2 [], .box tDesc o3 []]
def innkeepref06_Same.l1 (n m0 : Nat) (t0_1 : (den tWorld)) (t1_1 : (den tWorld)) (t4_1 : Bool) (t7_1 : Int) (t8_1 : Int) (o0_1 : (den tWorld)) (o1_1 : (den tWorld)) (o2_1 : (den tDesc)) (o3_1 : (den tDesc)) : Option innkeepref06_Same.R :=
  loopN (fun Kn K s h => run (gc n) n innkeepref06_Same.c29 Kn K s h) m0 (kBlk 2 (kSeq (run (gc n) n) innkeepref06_Same.c27 (retK innkeepref06_Same.fn innkeepref06_Same.res) (retK innkeepref06_Same.fn innkeepref06_Same.res)) (retK innkeepref06_Same.fn innkeepref06_Same.res))
    [(0, .dat tWorld t0_1 []), (1, .dat tWorld t1_1 []), (2, .ptr 0 []), (3, .ptr 1 []), (4, .dat .bool t4_1 []), (5, .ptr 2 []), (6, .ptr 3 []), (7, .dat (.int .i64) t7_1 []), (8, .dat (.int .i64) t8_1 [])]
    [.box tWorld o0_1 [], .box tWorld o1_1 [], .box tDesc o2_1 [], .box tDesc o3_1 []]
theorem innkeepref06_Same.l0_eq (n m0 : Nat) (t0 : (den tWorld)) (t1 : (den tWorld)) (t4 : Bool) (t7 : Int) (o0 : (den tWorld)) (o1 : (den tWorld)) (o2 : (den tDesc)) (o3 : (den tDesc)) : innkeepref06_Same.l0 n (m0 + 1) t0 t1 t4 t7 o0 o1 o2 o3 =
  bif (decide (t7 < ((List.length (o2.1 : (List (List Int)))) : Int))) then
    if (0 : Int) ≤ t7 ∧ t7 < (((List.length (o2.1 : (List (List Int)))) : Nat) : Int) then
    if (0 : Int) ≤ t7 ∧ t7 < (((List.length (o3.1 : (List (List Int)))) : Nat) : Int) then
    bif (!(eqT (.arr 4 (.int .i64)) (List.getD (o2.1 : (List (List Int))) (Int.toNat t7) (dft (.arr 4 (.int .i64))) : (List Int)) (List.getD (o3.1 : (List (List Int))) (Int.toNat t7) (dft (.arr 4 (.int .i64))) : (List Int)))) then
      some ((false, ()), [])
    else
      innkeepref06_Same.l0 n m0 t0 t1 t4 (IntKind.wrap .i64 (t7 + 1)) o0 o1 o2 o3
    else none
    else none
  else
    innkeepref06_Same.l1 n n t0 t1 t4 t7 0 o0 o1 o2 o3 := by kernel_rfl
theorem innkeepref06_Same.l1_eq (n m0 : Nat) (t0_1 : (den tWorld)) (t1_1 : (den tWorld)) (t4_1 : Bool) (t7_1 : Int) (t8_1 : Int) (o0_1 : (den tWorld)) (o1_1 : (den tWorld)) (o2_1 : (den tDesc)) (o3_1 : (den tDesc)) : innkeepref06_Same.l1 n (m0 + 1) t0_1 t1_1 t4_1 t7_1 t8_1 o0_1 o1_1 o2_1 o3_1 =
  bif (decide (t8_1 < ((List.length (o2_1.2.2.2.2.1 : (List Bool))) : Int))) then
    if (0 : Int) ≤ t8_1 ∧ t8_1 < (((List.length (o2_1.2.2.2.2.1 : (List Bool))) : Nat) : Int) then
    if (0 : Int) ≤ t8_1 ∧ t8_1 < (((List.length (o3_1.2.2.2.2.1 : (List Bool))) : Nat) : Int) then
    bif (!(eqT .bool (List.getD (o2_1.2.2.2.2.1 : (List Bool)) (Int.toNat t8_1) false : Bool) (List.getD (o3_1.2.2.2.2.1 : (List Bool)) (Int.toNat t8_1) false : Bool))) then
      some ((false, ()), [])
    else
      innkeepref06_Same.l1 n m0 t0_1 t1_1 t4_1 t7_1 (IntKind.wrap .i64 (t8_1 + 1)) o0_1 o1_1 o2_1 o3_1
    else none
    else none
  else
    Option.bind (innkeepref03_Ints n (o2_1.2.1 : (List Int)) (o3_1.2.1 : (List Int))) fun r1 =>
    bif (r1.1.1 : Bool) then
      Option.bind (innkeepref03_Ints n (o2_1.2.2.1 : (List Int)) (o3_1.2.2.1 : (List Int))) fun r2 =>
      bif (r2.1.1 : Bool) then
        Option.bind (innkeepref03_Ints n (o2_1.2.2.2.1 : (List Int)) (o3_1.2.2.2.1 : (List Int))) fun r3 =>
        bif (r3.1.1 : Bool) then
          Option.bind (innkeepref03_Ints n (o0_1.2.1 : (List Int)) (o1_1.2.1 : (List Int))) fun r4 =>
          bif (r4.1.1 : Bool) then
            Option.bind (innkeepref03_Ints n (o0_1.2.2.1 : (List Int)) (o1_1.2.2.1 : (List Int))) fun r5 =>
            bif (r5.1.1 : Bool) then
              Option.bind (innkeepref06_Places n (o0_1.2.2.2.1 : (List (den tPlace))) (o1_1.2.2.2.1 : (List (den tPlace)))) fun r6 =>
              some (((r6.1.1 : Bool), ()), [])
            else
              some ((false, ()), [])
          else
            some ((false, ()), [])
        else
          some ((false, ()), [])
      else
        some ((false, ()), [])
    else
      some ((false, ()), []) := by kernel_rfl
theorem innkeepref06_Same.eq (n : Nat) (a0 : (den tWorld)) (a1 : (den tWorld)) : innkeepref06_Same (n + 1) a0 a1 =
  bif (!(decide ((a0.1.2.2.2.2.2.1 : Int) = (a1.1.2.2.2.2.2.1 : Int)))) then
    some ((false, ()), [])
  else
    bif (!(decide ((a0.1.2.2.2.2.2.2.1 : Int) = (a1.1.2.2.2.2.2.2.1 : Int)))) then
      some ((false, ()), [])
    else
      bif (!(decide ((a0.1.2.2.2.2.2.2.2.1 : Int) = (a1.1.2.2.2.2.2.2.2.1 : Int)))) then
        some ((false, ()), [])
      else
        bif (!(decide (((List.length (a0.1.1 : (List (List Int)))) : Int) = ((List.length (a1.1.1 : (List (List Int)))) : Int)))) then
          some ((false, ()), [])
        else
          bif (!(decide (((List.length (a0.1.2.2.2.2.1 : (List Bool))) : Int) = ((List.length (a1.1.2.2.2.2.1 : (List Bool))) : Int)))) then
            some ((false, ()), [])
          else
            innkeepref06_Same.l0 n n a0 a1 false 0 a0 a1 a0.1 a1.1 := by kernel_rfl
def innkeeplaw07_TreeKeeps.res : List Sh := [.d .bool]
@[reducible] def innkeeplaw07_TreeKeeps.R : Type := dShL [.d .bool] × Fresh
def innkeeplaw07_TreeKeeps (n : Nat) (a0 : (den tWorld)) (a1 : (den tPlace)) : Option innkeeplaw07_TreeKeeps.R := gc n 6 [.dat tWorld a0 [], .dat tPlace a1 []] [.d .bool]
def innkeeplaw07_TreeKeeps.l0 (n m0 : Nat) (t0 : (den tWorld)) (t1 : (den tPlace)) (t4 : Bool) (t7 : Int) (o0 : (den tWorld)) (o1 : (den tPlace)) (o2 : (den tWorld)) (o3 : (List (den tSeen))) : Option innkeeplaw07_TreeKeeps.R :=
  loopN (fun Kn K s h => run (gc n) n innkeeplaw07_TreeKeeps.c14 Kn K s h) m0 (kBlk 0 (kSeq (run (gc n) n) innkeeplaw07_TreeKeeps.c12 (retK innkeeplaw07_TreeKeeps.fn innkeeplaw07_TreeKeeps.res) (retK innkeeplaw07_TreeKeeps.fn innkeeplaw07_TreeKeeps.res)) (retK innkeeplaw07_TreeKeeps.fn innkeeplaw07_TreeKeeps.res))
    [(0, .dat tWorld t0 []), (1, .dat tPlace t1 []), (2, .ptr 0 []), (3, .ptr 1 []), (4, .dat .bool t4 []), (5, .ptr 2 []), (6, .dat (.sl tSeen) ([] : List (den tSeen)) [([], some 3)]), (7, .dat (.int .i64) t7 [])]
    [.box tWorld o0 [], .box tPlace o1 [], .box tWorld o2 [], .arr tSeen o3]
def innkeeplaw07_TreeKeeps.l1 (n m0 : Nat) (t0_1 : (den tWorld)) (t1_1 : (den tPlace)) (t4_1 : Bool) (t7_1 : Int) (t9_1 : Int) (o0_1 : (den tWorld)) (o1_1 : (den tPlace)) (o2_1 : (den tWorld)) (o3_1 : (List (den tSeen))) (o4_1 : (List Int)) : Option innkeeplaw07_TreeKeeps.R :=
  loopN (fun Kn K s h => run (gc n) n innkeeplaw07_TreeKeeps.c28 Kn K s h) m0 (kBlk 2 (kSeq (run (gc n) n) innkeeplaw07_TreeKeeps.c26 (retK innkeeplaw07_TreeKeeps.fn innkeeplaw07_TreeKeeps.res) (retK innkeeplaw07_TreeKeeps.fn innkeeplaw07_TreeKeeps.res)) (retK innkeeplaw07_TreeKeeps.fn innkeeplaw07_TreeKeeps.res))
    [(0, .dat tWorld t0_1 []), (1, .dat tPlace t1_1 []), (2, .ptr 0 []), (3, .ptr 1 []), (4, .dat .bool t4_1 []), (5, .ptr 2 []), (6, .dat (.sl tSeen) ([] : List (den tSeen)) [([], some 3)]), (7, .dat (.int .i64) t7_1 []), (8, .dat (.sl (.int .i64)) ([] : List Int) [([], some 4)]), (9, .dat (.int .i64) t9_1 [])]
    [.box tWorld o0_1 [], .box tPlace o1_1 [], .box tWorld o2_1 [], .arr tSeen o3_1, .arr (.int .i64) o4_1]
theorem innkeeplaw07_TreeKeeps.l0_eq (n m0 : Nat) (t0 : (den tWorld)) (t1 : (den tPlace)) (t4 : Bool) (t7 : Int) (o0 : (den tWorld)) (o1 : (den tPlace)) (o2 : (den tWorld)) (o3 : (List (den tSeen))) : innkeeplaw07_TreeKeeps.l0 n (m0 + 1) t0 t1 t4 t7 o0 o1 o2 o3 =
  bif (decide (t7 < ((List.length o3) : Int))) then
    if (0 : Int) ≤ t7 ∧ t7 < (((List.length o3) : Nat) : Int) then
    innkeeplaw07_TreeKeeps.l0 n m0 t0 t1 t4 (IntKind.wrap .i64 (t7 + 1)) o0 o1 o2 (List.set o3 (Int.toNat t7) (99, (0, 0, ()), ()) : (List (den tSeen)))
    else none
  else
    Option.bind (tree_In n o2 o1) fun r10 =>
    bif (keepAll r10.2 [((0, []), 4)]) then
      innkeeplaw07_TreeKeeps.l1 n n t0 t1 t4 t7 0 o0 o1 o2 o3 (r10.1.1 : (List Int))
    else
      none := by kernel_rfl
theorem innkeeplaw07_TreeKeeps.l1_eq (n m0 : Nat) (t0_1 : (den tWorld)) (t1_1 : (den tPlace)) (t4_1 : Bool) (t7_1 : Int) (t9_1 : Int) (o0_1 : (den tWorld)) (o1_1 : (den tPlace)) (o2_1 : (den tWorld)) (o3_1 : (List (den tSeen))) (o4_1 : (List Int)) : innkeeplaw07_TreeKeeps.l1 n (m0 + 1) t0_1 t1_1 t4_1 t7_1 t9_1 o0_1 o1_1 o2_1 o3_1 o4_1 =
  bif (decide (t9_1 < ((List.length o4_1) : Int))) then
    if (0 : Int) ≤ t9_1 ∧ t9_1 < (((List.length o4_1) : Nat) : Int) then
    innkeeplaw07_TreeKeeps.l1 n m0 t0_1 t1_1 t4_1 t7_1 (IntKind.wrap .i64 (t9_1 + 1)) o0_1 o1_1 o2_1 o3_1 (List.set o4_1 (Int.toNat t9_1) 99 : (List Int))
    else none
  else
    Option.bind (innkeepref06_Same n o2_1 o0_1) fun r11 =>
    bif (r11.1.1 : Bool) then
      Option.bind (tree_Under n o2_1 o1_1) fun r12 =>
      Option.bind (innkeepref07_Under n o0_1 o1_1) fun r13 =>
      Option.bind (innkeepref05_Seens n (r12.1.1 : (List (den tSeen))) (r13.1.1 : (List (den tSeen)))) fun r14 =>
      some (((r14.1.1 : Bool), ()), [])
    else
      some ((false, ()), []) := by kernel_rfl
theorem innkeeplaw07_TreeKeeps.eq (n : Nat) (a0 : (den tWorld)) (a1 : (den tPlace)) : innkeeplaw07_TreeKeeps (n + 1) a0 a1 =
  Option.bind (innkeeplaw07_awake n) fun r1 =>
  bif (!(r1.1.1 : Bool)) then
    Option.bind (innkeeplaw07_awake n) fun r2 =>
    some (((r2.1.1 : Bool), ()), [])
  else
    Option.bind (innkeeplaw07_fits n a0) fun r3 =>
    bif (!(r3.1.1 : Bool)) then
      Option.bind (innkeeplaw07_awake n) fun r4 =>
      some (((r4.1.1 : Bool), ()), [])
    else
      Option.bind (innkeepref07_Is n a0 a1) fun r5 =>
      bif (!(r5.1.1 : Bool)) then
        Option.bind (innkeeplaw07_awake n) fun r6 =>
        some (((r6.1.1 : Bool), ()), [])
      else
        bif (decide ((a1.1 : Int) = 2)) then
          Option.bind (innkeeplaw07_awake n) fun r7 =>
          some (((r7.1.1 : Bool), ()), [])
        else
          Option.bind (innkeepref06_Copied n a0) fun r8 =>
          Option.bind (tree_Under n r8.1.1 a1) fun r9 =>
          bif (keepAll r9.2 [((0, []), 3)]) then
            innkeeplaw07_TreeKeeps.l0 n n a0 a1 false 0 a0 a1 r8.1.1 (r9.1.1 : (List (den tSeen)))
          else
            none := by kernel_rfl
def innkeeplaw07_TreeMoved.res : List Sh := [.d .bool]
@[reducible] def innkeeplaw07_TreeMoved.R : Type := dShL [.d .bool] × Fresh
def innkeeplaw07_TreeMoved (n : Nat) (a0 : (den tWorld)) (a1 : Int) (a2 : Int) : Option innkeeplaw07_TreeMoved.R := gc n 7 [.dat tWorld a0 [], .dat (.int .u8) a1 [], .dat (.int .u8) a2 []] [.d .bool]
def innkeeplaw07_TreeMoved.l0 (n m0 : Nat) (t0 : (den tWorld)) (t1 : Int) (t2 : Int) (t6 : Bool) (t7 : Int) (t10 : Int) (o0 : (den tWorld)) (o1 : (den tWorld)) (o2 : (den tPlace)) (o3 : (List (den tPlace))) : Option innkeeplaw07_TreeMoved.R :=
  loopN (fun Kn K s h => run (gc n) n innkeeplaw07_TreeMoved.c24 Kn K s h) m0 (kBlk 0 (kSeq (run (gc n) n) innkeeplaw07_TreeMoved.c22 (retK innkeeplaw07_TreeMoved.fn innkeeplaw07_TreeMoved.res) (retK innkeeplaw07_TreeMoved.fn innkeeplaw07_TreeMoved.res)) (retK innkeeplaw07_TreeMoved.fn innkeeplaw07_TreeMoved.res))
    [(0, .dat tWorld t0 []), (1, .dat (.int .u8) t1 []), (2, .dat (.int .u8) t2 []), (3, .ptr 0 []), (6, .dat .bool t6 []), (7, .dat (.int .i64) t7 []), (8, .ptr 1 []), (9, .ptr 2 []), (10, .dat (.int .i64) t10 [])]
    [.box tWorld o0 [], .box tWorld o1 [([3], some 3)], .box tPlace o2 [], .arr tPlace o3]
theorem innkeeplaw07_TreeMoved.l0_eq (n m0 : Nat) (t0 : (den tWorld)) (t1 : Int) (t2 : Int) (t6 : Bool) (t7 : Int) (t10 : Int) (o0 : (den tWorld)) (o1 : (den tWorld)) (o2 : (den tPlace)) (o3 : (List (den tPlace))) : innkeeplaw07_TreeMoved.l0 n (m0 + 1) t0 t1 t2 t6 t7 t10 o0 o1 o2 o3 =
  bif (decide (t10 < ((List.length (o0.2.2.2.1 : (List (den tPlace)))) : Int))) then
    Option.bind (tree_Within n o0 t10 t7) fun r8 =>
    Option.bind (tree_Within n (o1.1, (o1.2.1 : (List Int)), (o1.2.2.1 : (List Int)), o3, ()) t10 t7) fun r9 =>
    bif (!(eqT .bool (r8.1.1 : Bool) (r9.1.1 : Bool))) then
      some ((false, ()), [])
    else
      bif (r8.1.1 : Bool) then
        Option.bind (tree_Root n (o1.1, (o1.2.1 : (List Int)), (o1.2.2.1 : (List Int)), o3, ()) t10) fun r10 =>
        bif (!(eqT tPlace r10.1.1 o2)) then
          some ((false, ()), [])
        else
          Option.bind (tree_Depth n (o1.1, (o1.2.1 : (List Int)), (o1.2.2.1 : (List Int)), o3, ()) t10) fun r11 =>
          Option.bind (tree_Depth n o0 t10) fun r12 =>
          Option.bind (tree_Depth n o0 t7) fun r13 =>
          bif (!(decide ((r11.1.1 : Int) = (IntKind.wrap .i64 ((r12.1.1 : Int) - (r13.1.1 : Int)))))) then
            some ((false, ()), [])
          else
            bif (!(r8.1.1 : Bool)) then
              Option.bind (tree_Root n (o1.1, (o1.2.1 : (List Int)), (o1.2.2.1 : (List Int)), o3, ()) t10) fun r14 =>
              Option.bind (tree_Root n o0 t10) fun r15 =>
              bif (!(eqT tPlace r14.1.1 r15.1.1)) then
                some ((false, ()), [])
              else
                Option.bind (tree_Depth n (o1.1, (o1.2.1 : (List Int)), (o1.2.2.1 : (List Int)), o3, ()) t10) fun r16 =>
                Option.bind (tree_Depth n o0 t10) fun r17 =>
                bif (!(decide ((r16.1.1 : Int) = (r17.1.1 : Int)))) then
                  some ((false, ()), [])
                else
                  innkeeplaw07_TreeMoved.l0 n m0 t0 t1 t2 t6 t7 (IntKind.wrap .i64 (t10 + 1)) o0 o1 o2 o3
            else
              innkeeplaw07_TreeMoved.l0 n m0 t0 t1 t2 t6 t7 (IntKind.wrap .i64 (t10 + 1)) o0 o1 o2 o3
      else
        bif (!(r8.1.1 : Bool)) then
          Option.bind (tree_Root n (o1.1, (o1.2.1 : (List Int)), (o1.2.2.1 : (List Int)), o3, ()) t10) fun r18 =>
          Option.bind (tree_Root n o0 t10) fun r19 =>
          bif (!(eqT tPlace r18.1.1 r19.1.1)) then
            some ((false, ()), [])
          else
            Option.bind (tree_Depth n (o1.1, (o1.2.1 : (List Int)), (o1.2.2.1 : (List Int)), o3, ()) t10) fun r20 =>
            Option.bind (tree_Depth n o0 t10) fun r21 =>
            bif (!(decide ((r20.1.1 : Int) = (r21.1.1 : Int)))) then
              some ((false, ()), [])
            else
              innkeeplaw07_TreeMoved.l0 n m0 t0 t1 t2 t6 t7 (IntKind.wrap .i64 (t10 + 1)) o0 o1 o2 o3
        else
          innkeeplaw07_TreeMoved.l0 n m0 t0 t1 t2 t6 t7 (IntKind.wrap .i64 (t10 + 1)) o0 o1 o2 o3
  else
    Option.bind (tree_Height n (o1.1, (o1.2.1 : (List Int)), (o1.2.2.1 : (List Int)), o3, ()) t7) fun r22 =>
    Option.bind (tree_Height n o0 t7) fun r23 =>
    some (((decide ((r22.1.1 : Int) = (r23.1.1 : Int))), ()), []) := by kernel_rfl
theorem innkeeplaw07_TreeMoved.eq (n : Nat) (a0 : (den tWorld)) (a1 : Int) (a2 : Int) : innkeeplaw07_TreeMoved (n + 1) a0 a1 a2 =
  Option.bind (innkeeplaw07_awake n) fun r1 =>
  bif (!(r1.1.1 : Bool)) then
    Option.bind (innkeeplaw07_awake n) fun r2 =>
    some (((r2.1.1 : Bool), ()), [])
  else
    Option.bind (innkeeplaw07_fits n a0) fun r3 =>
    bif (!(r3.1.1 : Bool)) then
      Option.bind (innkeeplaw07_awake n) fun r4 =>
      some (((r4.1.1 : Bool), ()), [])
    else
      bif (decide (((List.length (a0.2.2.2.1 : (List (den tPlace)))) : Int) = 0)) then
        Option.bind (innkeeplaw07_awake n) fun r5 =>
        some (((r5.1.1 : Bool), ()), [])
      else
        if ((List.length (a0.2.2.2.1 : (List (den tPlace)))) : Int) = 0 then none else
        Option.bind (innkeepref06_Copied n a0) fun r6 =>
        bif (keepAll r6.2 [((0, [3]), 3)]) then
          if ((List.length (a0.1.1 : (List (List Int)))) : Int) = 0 then none else
          if (0 : Int) ≤ (Int.tmod (IntKind.wrap .i64 (a1)) ((List.length (a0.2.2.2.1 : (List (den tPlace)))) : Int)) ∧ (Int.tmod (IntKind.wrap .i64 (a1)) ((List.length (a0.2.2.2.1 : (List (den tPlace)))) : Int)) < (((List.length (r6.1.1.2.2.2.1 : (List (den tPlace)))) : Nat) : Int) then
          Option.bind (innkeepref06_Right n (r6.1.1.1, (r6.1.1.2.1 : (List Int)), (r6.1.1.2.2.1 : (List Int)), (List.set (r6.1.1.2.2.2.1 : (List (den tPlace))) (Int.toNat (Int.tmod (IntKind.wrap .i64 (a1)) ((List.length (a0.2.2.2.1 : (List (den tPlace)))) : Int))) (0, (Int.tmod (IntKind.wrap .i64 (a2)) ((List.length (a0.1.1 : (List (List Int)))) : Int)), ()) : (List (den tPlace))), ())) fun r7 =>
          bif (!(r7.1.1 : Bool)) then
            some ((true, ()), [])
          else
            innkeeplaw07_TreeMoved.l0 n n a0 a1 a2 false (Int.tmod (IntKind.wrap .i64 (a1)) ((List.length (a0.2.2.2.1 : (List (den tPlace)))) : Int)) 0 a0 (r6.1.1.1, (r6.1.1.2.1 : (List Int)), (r6.1.1.2.2.1 : (List Int)), ([] : List (den tPlace)), ()) (0, (Int.tmod (IntKind.wrap .i64 (a2)) ((List.length (a0.1.1 : (List (List Int)))) : Int)), ()) (List.set (r6.1.1.2.2.2.1 : (List (den tPlace))) (Int.toNat (Int.tmod (IntKind.wrap .i64 (a1)) ((List.length (a0.2.2.2.1 : (List (den tPlace)))) : Int))) (0, (Int.tmod (IntKind.wrap .i64 (a2)) ((List.length (a0.1.1 : (List (List Int)))) : Int)), ()) : (List (den tPlace)))
          else none
        else
          none := by kernel_rfl
end Go.Proofs.Ytlnnpcgfhcaafaa.Ghost
