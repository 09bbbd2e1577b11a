/- What each function and each loop comes to, one step. Conditions: none. -/
import Derived.Test.YtkoefhpkdghpnaaGSp
import Derived.KernelRfl
set_option linter.unusedVariables false
set_option linter.unusedSimpArgs false
set_option linter.unusedSectionVars false
set_option linter.unnecessarySimpa false
namespace Go.Proofs.Ytkoefhpkdghpnaa.Ghost
open Go
abbrev gc (n : Nat) : Calls := gcall prog sp n
def innkeepref06_New.res : List Sh := [.d tWorld]
@[reducible] def innkeepref06_New.R : Type := dShL [.d tWorld] × Fresh
def innkeepref06_New (n : Nat) (a0 : (den tDesc)) : Option innkeepref06_New.R := gc n 22 [.dat tDesc a0 []] [.d tWorld]
def innkeepref06_New.l0 (n m0 : Nat) (t0 : (den tDesc)) (t4 : Int) (o0 : (den tDesc)) (o1 : (den tWorld)) (o2 : (den tWorld)) (o3 : (List Int)) (o4 : (List Int)) (o9 : (List (den tPlace))) : Option innkeepref06_New.R :=
  loopN (fun Kn K s h => run (gc n) n innkeepref06_New.c9 Kn K s h) m0 (kBlk 0 (kSeq (run (gc n) n) innkeepref06_New.c7 (retK innkeepref06_New.fn innkeepref06_New.res) (retK innkeepref06_New.fn innkeepref06_New.res)) (retK innkeepref06_New.fn innkeepref06_New.res))
    [(0, .dat tDesc t0 []), (1, .ptr 0 []), (2, .ptr 1 []), (3, .ptr 2 []), (4, .dat (.int .i64) t4 [])]
    [.box tDesc o0 [], .box tWorld o1 [], .box tWorld o2 [([1], some 3), ([2], some 4), ([3], some 9)], .arr (.int .i64) o3, .arr (.int .i64) o4, .none, .none, .dead, .dead, .arr tPlace o9]
theorem innkeepref06_New.l0_eq (n m0 : Nat) (t0 : (den tDesc)) (t4 : Int) (o0 : (den tDesc)) (o1 : (den tWorld)) (o2 : (den tWorld)) (o3 : (List Int)) (o4 : (List Int)) (o9 : (List (den tPlace))) : innkeepref06_New.l0 n (m0 + 1) t0 t4 o0 o1 o2 o3 o4 o9 =
  bif (decide (t4 < ((List.length (o0.2.2.2.1 : (List Int))) : Int))) then
    if (0 : Int) ≤ t4 ∧ t4 < (((List.length (o0.2.2.2.1 : (List Int))) : Nat) : Int) then
    if (List.length o9) + 1 ≤ 1048576 then
    innkeepref06_New.l0 n m0 t0 (IntKind.wrap .i64 (t4 + 1)) o0 o1 (o2.1, (o2.2.1 : (List Int)), (o2.2.2.1 : (List Int)), ([] : List (den tPlace)), ()) o3 o4 (o9 ++ ([(0, (List.getD (o0.2.2.2.1 : (List Int)) (Int.toNat t4) (0 : Int) : Int), ())] : List (den tPlace)))
    else none
    else none
  else
    some (((o2.1, o3, o4, o9, ()), ()), [(0, [1]), (0, [2]), (0, [3])]) := by kernel_rfl
theorem innkeepref06_New.eq (n : Nat) (a0 : (den tDesc)) : innkeepref06_New (n + 1) a0 =
  if 0 + (List.length (a0.2.1 : (List Int))) ≤ 1048576 then
  if 0 + (List.length (a0.2.2.1 : (List Int))) ≤ 1048576 then
  innkeepref06_New.l0 n n a0 0 a0 ((([] : List (List Int)), ([] : List Int), ([] : List Int), ([] : List Int), ([] : List Bool), 0, 0, 0, ()), ([] : List Int), ([] : List Int), ([] : List (den tPlace)), ()) (a0, ([] : List Int), ([] : List Int), ([] : List (den tPlace)), ()) (([] : List Int) ++ (a0.2.1 : (List Int))) (([] : List Int) ++ (a0.2.2.1 : (List Int))) ([] : List (den tPlace))
  else none
  else none := by kernel_rfl
def sight_Present.res : List Sh := [.d (.sl (.int .i64))]
@[reducible] def sight_Present.R : Type := dShL [.d (.sl (.int .i64))] × Fresh
def sight_Present (n : Nat) (a0 : (den tWorld)) (a1 : Int) : Option sight_Present.R := gc n 16 [.dat tWorld a0 [], .dat (.int .i64) a1 []] [.d (.sl (.int .i64))]
def sight_Present.l0 (n m0 : Nat) (t0 : (den tWorld)) (t1 : Int) (t4 : (List Int)) (t9 : Int) (t10 : Int) (o0 : (den tWorld)) (o3 : (List Int)) : Option sight_Present.R :=
  loopN (fun Kn K s h => run (gc n) n sight_Present.c5 Kn K s h) m0 (kBlk 0 (kSeq (run (gc n) n) sight_Present.c2 (retK sight_Present.fn sight_Present.res) (retK sight_Present.fn sight_Present.res)) (retK sight_Present.fn sight_Present.res))
    [(0, .dat tWorld t0 []), (1, .dat (.int .i64) t1 []), (2, .ptr 0 []), (4, .dat (.sl (.int .i64)) t4 []), (5, .dat (.sl (.int .i64)) ([] : List Int) [([], some 3)]), (9, .dat (.int .i64) t9 []), (10, .dat (.int .i64) t10 [])]
    [.box tWorld o0 [], .none, .none, .arr (.int .i64) o3]
theorem sight_Present.l0_eq (n m0 : Nat) (t0 : (den tWorld)) (t1 : Int) (t4 : (List Int)) (t9 : Int) (t10 : Int) (o0 : (den tWorld)) (o3 : (List Int)) : sight_Present.l0 n (m0 + 1) t0 t1 t4 t9 t10 o0 o3 =
  bif (decide (t10 < t9)) then
    if (0 : Int) ≤ t10 ∧ t10 < (((List.length (o0.2.1 : (List Int))) : Nat) : Int) then
    bif (decide ((List.getD (o0.2.1 : (List Int)) (Int.toNat t10) (0 : Int) : Int) = t1)) then
      if (List.length o3) + 1 ≤ 1048576 then
      sight_Present.l0 n m0 t0 t1 t4 t9 (IntKind.wrap .i64 (t10 + 1)) o0 (o3 ++ ([t10] : List Int))
      else none
    else
      sight_Present.l0 n m0 t0 t1 t4 t9 (IntKind.wrap .i64 (t10 + 1)) o0 o3
    else none
  else
    some ((o3, ()), [(0, [])]) := by kernel_rfl
theorem sight_Present.eq (n : Nat) (a0 : (den tWorld)) (a1 : Int) : sight_Present (n + 1) a0 a1 =
  sight_Present.l0 n n a0 a1 ([] : List Int) ((List.length (a0.2.1 : (List Int))) : Int) 0 a0 ([] : List Int) := by kernel_rfl
def tree_up.res : List Sh := [.clo 40 [.ref tWorld, .ref (.int .i64)]]
@[reducible] def tree_up.R : Type := dShL [.clo 40 [.ref tWorld, .ref (.int .i64)]] × Fresh
def tree_up (n : Nat) (a0 : (den tWorld)) (a1 : Int) : Option tree_up.R := gc n 38 [.dat tWorld a0 [], .dat (.int .i64) a1 []] [.clo 40 [.ref tWorld, .ref (.int .i64)]]
theorem tree_up.eq (n : Nat) (a0 : (den tWorld)) (a1 : Int) : tree_up (n + 1) a0 a1 =
  some (((a0, a1, ()), ()), []) := by kernel_rfl
def slices_Collect_api_Place.res : List Sh := [.d (.sl tPlace)]
@[reducible] def slices_Collect_api_Place.R : Type := dShL [.d (.sl tPlace)] × Fresh
def slices_Collect_api_Place (n : Nat) (a0 : (den tWorld)) (a1 : Int) : Option slices_Collect_api_Place.R := gc n 37 [.clo 40 [.ref tWorld a0, .ref (.int .i64) a1]] [.d (.sl tPlace)]
def tree_Root.res : List Sh := [.d tPlace]
@[reducible] def tree_Root.R : Type := dShL [.d tPlace] × Fresh
def tree_Root (n : Nat) (a0 : (den tWorld)) (a1 : Int) : Option tree_Root.R := gc n 35 [.dat tWorld a0 [], .dat (.int .i64) a1 []] [.d tPlace]
theorem tree_Root.eq (n : Nat) (a0 : (den tWorld)) (a1 : Int) : tree_Root (n + 1) a0 a1 =
  Option.bind (tree_up n a0 a1) fun r1 =>
  Option.bind (slices_Collect_api_Place n r1.1.1.1 (r1.1.1.2.1 : Int)) fun r2 =>
  if (0 : Int) ≤ (IntKind.wrap .i64 (((List.length (r2.1.1 : (List (den tPlace)))) : Int) - 1)) ∧ (IntKind.wrap .i64 (((List.length (r2.1.1 : (List (den tPlace)))) : Int) - 1)) < (((List.length (r2.1.1 : (List (den tPlace)))) : Nat) : Int) then
  some (((List.getD (r2.1.1 : (List (den tPlace))) (Int.toNat (IntKind.wrap .i64 (((List.length (r2.1.1 : (List (den tPlace)))) : Int) - 1))) (dft tPlace) : (den tPlace)), ()), [])
  else none := by kernel_rfl
def tree_Under.res : List Sh := [.d (.sl tSeen)]
@[reducible] def tree_Under.R : Type := dShL [.d (.sl tSeen)] × Fresh
def tree_Under (n : Nat) (a0 : (den tWorld)) (a1 : (den tPlace)) : Option tree_Under.R := gc n 25 [.dat tWorld a0 [], .dat tPlace a1 []] [.d (.sl tSeen)]
def tree_Under.l0 (n m0 : Nat) (t0 : (den tWorld)) (t1 : (den tPlace)) (t4 : (List (den tSeen))) (t9 : (List (den tPlace))) (t10 : Int) (t11 : Int) (o0 : (den tWorld)) (o1 : (den tPlace)) (o5 : (List (den tSeen))) : Option tree_Under.R :=
  loopN (fun Kn K s h => run (gc n) n tree_Under.c5 Kn K s h) m0 (kBlk 0 (kSeq (run (gc n) n) tree_Under.c2 (retK tree_Under.fn tree_Under.res) (retK tree_Under.fn tree_Under.res)) (retK tree_Under.fn tree_Under.res))
    [(0, .dat tWorld t0 []), (1, .dat tPlace t1 []), (2, .ptr 0 []), (3, .ptr 1 []), (4, .dat (.sl tSeen) t4 []), (5, .dat (.sl tSeen) ([] : List (den tSeen)) [([], some 5)]), (9, .dat (.sl tPlace) t9 []), (10, .dat (.int .i64) t10 []), (11, .dat (.int .i64) t11 [])]
    [.box tWorld o0 [], .box tPlace o1 [], .none, .none, .none, .arr tSeen o5]
theorem tree_Under.l0_eq (n m0 : Nat) (t0 : (den tWorld)) (t1 : (den tPlace)) (t4 : (List (den tSeen))) (t9 : (List (den tPlace))) (t10 : Int) (t11 : Int) (o0 : (den tWorld)) (o1 : (den tPlace)) (o5 : (List (den tSeen))) : tree_Under.l0 n (m0 + 1) t0 t1 t4 t9 t10 t11 o0 o1 o5 =
  bif (decide (t11 < t10)) then
    if (0 : Int) ≤ t11 ∧ t11 < (((List.length t9) : Nat) : Int) then
    Option.bind (tree_Root n o0 t11) fun r1 =>
    bif (eqT tPlace r1.1.1 o1) then
      if (List.length o5) + 1 ≤ 1048576 then
      tree_Under.l0 n m0 t0 t1 t4 t9 t10 (IntKind.wrap .i64 (t11 + 1)) o0 o1 (o5 ++ ([(t11, (List.getD t9 (Int.toNat t11) (dft tPlace) : (den tPlace)), ())] : List (den tSeen)))
      else none
    else
      tree_Under.l0 n m0 t0 t1 t4 t9 t10 (IntKind.wrap .i64 (t11 + 1)) o0 o1 o5
    else none
  else
    some ((o5, ()), [(0, [])]) := by kernel_rfl
theorem tree_Under.eq (n : Nat) (a0 : (den tWorld)) (a1 : (den tPlace)) : tree_Under (n + 1) a0 a1 =
  tree_Under.l0 n n a0 a1 ([] : List (den tSeen)) (a0.2.2.2.1 : (List (den tPlace))) ((List.length (a0.2.2.2.1 : (List (den tPlace)))) : Int) 0 a0 a1 ([] : List (den tSeen)) := by kernel_rfl
def sight_Look.res : List Sh := [.d tReply]
@[reducible] def sight_Look.R : Type := dShL [.d tReply] × Fresh
def sight_Look (n : Nat) (a0 : (den tWorld)) (a1 : Int) : Option sight_Look.R := gc n 11 [.dat tWorld a0 [], .dat (.int .i64) a1 []] [.d tReply]
theorem sight_Look.eq (n : Nat) (a0 : (den tWorld)) (a1 : Int) : sight_Look (n + 1) a0 a1 =
  if (0 : Int) ≤ a1 ∧ a1 < (((List.length (a0.2.1 : (List Int))) : Nat) : Int) then
  Option.bind (sight_Present n a0 (List.getD (a0.2.1 : (List Int)) (Int.toNat a1) (0 : Int) : Int)) fun r1 =>
  bif (keepAll r1.2 [((0, []), 2)]) then
    Option.bind (tree_Under n a0 (0, (List.getD (a0.2.1 : (List Int)) (Int.toNat a1) (0 : Int) : Int), ())) fun r2 =>
    bif (keepAll r2.2 [((0, []), 3)]) then
      some (((0, 9, (List.getD (a0.2.1 : (List Int)) (Int.toNat a1) (0 : Int) : Int), (r1.1.1 : (List Int)), (r2.1.1 : (List (den tSeen))), 0, ()), ()), [(0, [3]), (0, [4])])
    else
      none
  else
    none
  else none := by kernel_rfl
def sight_Own.res : List Sh := [.d tReply]
@[reducible] def sight_Own.R : Type := dShL [.d tReply] × Fresh
def sight_Own (n : Nat) (a0 : (den tWorld)) (a1 : Int) : Option sight_Own.R := gc n 13 [.dat tWorld a0 [], .dat (.int .i64) a1 []] [.d tReply]
theorem sight_Own.eq (n : Nat) (a0 : (den tWorld)) (a1 : Int) : sight_Own (n + 1) a0 a1 =
  if (0 : Int) ≤ a1 ∧ a1 < (((List.length (a0.2.2.1 : (List Int))) : Nat) : Int) then
  Option.bind (tree_Under n a0 (1, a1, ())) fun r1 =>
  bif (keepAll r1.2 [((0, []), 2)]) then
    some (((0, 10, 0, ([] : List Int), (r1.1.1 : (List (den tSeen))), (List.getD (a0.2.2.1 : (List Int)) (Int.toNat a1) (0 : Int) : Int), ()), ()), [(0, [4])])
  else
    none
  else none := by kernel_rfl
def innkeepref03_Ints.res : List Sh := [.d .bool]
@[reducible] def innkeepref03_Ints.R : Type := dShL [.d .bool] × Fresh
def innkeepref03_Ints (n : Nat) (a0 : (List Int)) (a1 : (List Int)) : Option innkeepref03_Ints.R := gc n 15 [.dat (.sl (.int .i64)) a0 [], .dat (.sl (.int .i64)) a1 []] [.d .bool]
def innkeepref03_Ints.l0 (n m0 : Nat) (t0 : (List Int)) (t1 : (List Int)) (t4 : Bool) (t5 : Int) : Option innkeepref03_Ints.R :=
  loopN (fun Kn K s h => run (gc n) n innkeepref03_Ints.c9 Kn K s h) m0 (kBlk 0 (kSeq (run (gc n) n) innkeepref03_Ints.c7 (retK innkeepref03_Ints.fn innkeepref03_Ints.res) (retK innkeepref03_Ints.fn innkeepref03_Ints.res)) (retK innkeepref03_Ints.fn innkeepref03_Ints.res))
    [(0, .dat (.sl (.int .i64)) t0 []), (1, .dat (.sl (.int .i64)) t1 []), (4, .dat .bool t4 []), (5, .dat (.int .i64) t5 [])]
    []
theorem innkeepref03_Ints.l0_eq (n m0 : Nat) (t0 : (List Int)) (t1 : (List Int)) (t4 : Bool) (t5 : Int) : innkeepref03_Ints.l0 n (m0 + 1) t0 t1 t4 t5 =
  bif (decide (t5 < ((List.length t0) : Int))) then
    if (0 : Int) ≤ t5 ∧ t5 < (((List.length t0) : Nat) : Int) then
    if (0 : Int) ≤ t5 ∧ t5 < (((List.length t1) : Nat) : Int) then
    bif (!(decide ((List.getD t0 (Int.toNat t5) (0 : Int) : Int) = (List.getD t1 (Int.toNat t5) (0 : Int) : Int)))) then
      some ((false, ()), [])
    else
      innkeepref03_Ints.l0 n m0 t0 t1 t4 (IntKind.wrap .i64 (t5 + 1))
    else none
    else none
  else
    some ((true, ()), []) := by kernel_rfl
theorem innkeepref03_Ints.eq (n : Nat) (a0 : (List Int)) (a1 : (List Int)) : innkeepref03_Ints (n + 1) a0 a1 =
  bif (!(decide (((List.length a0) : Int) = ((List.length a1) : Int)))) then
    some ((false, ()), [])
  else
    innkeepref03_Ints.l0 n n a0 a1 false 0 := by kernel_rfl
def innkeepref05_Seens.res : List Sh := [.d .bool]
@[reducible] def innkeepref05_Seens.R : Type := dShL [.d .bool] × Fresh
def innkeepref05_Seens (n : Nat) (a0 : (List (den tSeen))) (a1 : (List (den tSeen))) : Option innkeepref05_Seens.R := gc n 24 [.dat (.sl tSeen) a0 [], .dat (.sl tSeen) a1 []] [.d .bool]
def innkeepref05_Seens.l0 (n m0 : Nat) (t0 : (List (den tSeen))) (t1 : (List (den tSeen))) (t4 : Bool) (t5 : Int) : Option innkeepref05_Seens.R :=
  loopN (fun Kn K s h => run (gc n) n innkeepref05_Seens.c9 Kn K s h) m0 (kBlk 0 (kSeq (run (gc n) n) innkeepref05_Seens.c7 (retK innkeepref05_Seens.fn innkeepref05_Seens.res) (retK innkeepref05_Seens.fn innkeepref05_Seens.res)) (retK innkeepref05_Seens.fn innkeepref05_Seens.res))
    [(0, .dat (.sl tSeen) t0 []), (1, .dat (.sl tSeen) t1 []), (4, .dat .bool t4 []), (5, .dat (.int .i64) t5 [])]
    []
theorem innkeepref05_Seens.l0_eq (n m0 : Nat) (t0 : (List (den tSeen))) (t1 : (List (den tSeen))) (t4 : Bool) (t5 : Int) : innkeepref05_Seens.l0 n (m0 + 1) t0 t1 t4 t5 =
  bif (decide (t5 < ((List.length t0) : Int))) then
    if (0 : Int) ≤ t5 ∧ t5 < (((List.length t0) : Nat) : Int) then
    if (0 : Int) ≤ t5 ∧ t5 < (((List.length t1) : Nat) : Int) then
    bif (!(eqT tSeen (List.getD t0 (Int.toNat t5) (dft tSeen) : (den tSeen)) (List.getD t1 (Int.toNat t5) (dft tSeen) : (den tSeen)))) then
      some ((false, ()), [])
    else
      innkeepref05_Seens.l0 n m0 t0 t1 t4 (IntKind.wrap .i64 (t5 + 1))
    else none
    else none
  else
    some ((true, ()), []) := by kernel_rfl
theorem innkeepref05_Seens.eq (n : Nat) (a0 : (List (den tSeen))) (a1 : (List (den tSeen))) : innkeepref05_Seens (n + 1) a0 a1 =
  bif (!(decide (((List.length a0) : Int) = ((List.length a1) : Int)))) then
    some ((false, ()), [])
  else
    innkeepref05_Seens.l0 n n a0 a1 false 0 := by kernel_rfl
def innkeepref05_Same.res : List Sh := [.d .bool]
@[reducible] def innkeepref05_Same.R : Type := dShL [.d .bool] × Fresh
def innkeepref05_Same (n : Nat) (a0 : (den tReply)) (a1 : (den tReply)) : Option innkeepref05_Same.R := gc n 10 [.dat tReply a0 [], .dat tReply a1 []] [.d .bool]
theorem innkeepref05_Same.eq (n : Nat) (a0 : (den tReply)) (a1 : (den tReply)) : innkeepref05_Same (n + 1) a0 a1 =
  bif (decide ((a0.1 : Int) = (a1.1 : Int))) then
    bif (decide ((a0.2.1 : Int) = (a1.2.1 : Int))) then
      bif (decide ((a0.2.2.1 : Int) = (a1.2.2.1 : Int))) then
        bif (decide ((a0.2.2.2.2.2.1 : Int) = (a1.2.2.2.2.2.1 : Int))) then
          Option.bind (innkeepref03_Ints n (a0.2.2.2.1 : (List Int)) (a1.2.2.2.1 : (List Int))) fun r1 =>
          bif (r1.1.1 : Bool) then
            Option.bind (innkeepref05_Seens n (a0.2.2.2.2.1 : (List (den tSeen))) (a1.2.2.2.2.1 : (List (den tSeen)))) fun r2 =>
            some (((r2.1.1 : Bool), ()), [])
          else
            some ((false, ()), [])
        else
          some ((false, ()), [])
      else
        some ((false, ()), [])
    else
      some ((false, ()), [])
  else
    some ((false, ()), []) := by kernel_rfl
def innkeeplaw12_awake.res : List Sh := [.d .bool]
@[reducible] def innkeeplaw12_awake.R : Type := dShL [.d .bool] × Fresh
def innkeeplaw12_awake (n : Nat) : Option innkeeplaw12_awake.R := gc n 8 [] [.d .bool]
theorem innkeeplaw12_awake.eq (n : Nat) : innkeeplaw12_awake (n + 1) =
  Option.bind (innkeepref06_New n ((List.replicate 2 (dft (.arr 4 (.int .i64)))), ([0, 1, 0] : List Int), ([5, 2, 5] : List Int), ([0, 0, 1] : List Int), ([true, false, false] : List Bool), 4, 2, 1, ())) fun r1 =>
  bif (keepAll r1.2 [((0, [3]), 12)]) then
    if (0 : Int) ≤ 1 ∧ 1 < (((List.length (r1.1.1.2.2.2.1 : (List (den tPlace)))) : Nat) : Int) then
    if (0 : Int) ≤ 2 ∧ 2 < (((List.length (List.set (r1.1.1.2.2.2.1 : (List (den tPlace))) 1 (2, 0, ()) : (List (den tPlace)))) : Nat) : Int) then
    Option.bind (sight_Look n (r1.1.1.1, (r1.1.1.2.1 : (List Int)), (r1.1.1.2.2.1 : (List Int)), (List.set (List.set (r1.1.1.2.2.2.1 : (List (den tPlace))) 1 (2, 0, ()) : (List (den tPlace))) 2 (1, 1, ()) : (List (den tPlace))), ()) 2) fun r2 =>
    Option.bind (sight_Own n (r1.1.1.1, (r1.1.1.2.1 : (List Int)), (r1.1.1.2.2.1 : (List Int)), (List.set (List.set (r1.1.1.2.2.2.1 : (List (den tPlace))) 1 (2, 0, ()) : (List (den tPlace))) 2 (1, 1, ()) : (List (den tPlace))), ()) 1) fun r3 =>
    Option.bind (innkeepref05_Same n r2.1.1 (0, 9, 0, ([0, 2] : List Int), ([(0, (0, 0, ()), ()), (1, (2, 0, ()), ())] : List (den tSeen)), 0, ())) fun r4 =>
    bif (r4.1.1 : Bool) then
      Option.bind (innkeepref05_Same n r3.1.1 (0, 10, 0, ([] : List Int), ([(2, (1, 1, ()), ())] : List (den tSeen)), 2, ())) fun r5 =>
      bif (r5.1.1 : Bool) then
        Option.bind (sight_Present n (r1.1.1.1, (r1.1.1.2.1 : (List Int)), (r1.1.1.2.2.1 : (List Int)), (List.set (List.set (r1.1.1.2.2.2.1 : (List (den tPlace))) 1 (2, 0, ()) : (List (den tPlace))) 2 (1, 1, ()) : (List (den tPlace))), ()) 1) fun r6 =>
        Option.bind (innkeepref03_Ints n (r6.1.1 : (List Int)) ([1] : List Int)) fun r7 =>
        some (((r7.1.1 : Bool), ()), [])
      else
        some ((false, ()), [])
    else
      some ((false, ()), [])
    else none
    else none
  else
    none := by kernel_rfl
def innkeepref06_Few.res : List Sh := [.d .bool]
@[reducible] def innkeepref06_Few.R : Type := dShL [.d .bool] × Fresh
def innkeepref06_Few (n : Nat) (a0 : (den tWorld)) : Option innkeepref06_Few.R := gc n 23 [.dat tWorld a0 []] [.d .bool]
theorem innkeepref06_Few.eq (n : Nat) (a0 : (den tWorld)) : innkeepref06_Few (n + 1) a0 =
  bif (decide (((List.length (a0.1.1 : (List (List Int)))) : Int) ≤ 20)) then
    bif (decide (((List.length (a0.1.2.1 : (List Int))) : Int) ≤ 20)) then
      bif (decide (((List.length (a0.1.2.2.1 : (List Int))) : Int) ≤ 20)) then
        bif (decide (((List.length (a0.1.2.2.2.1 : (List Int))) : Int) ≤ 40)) then
          bif (decide (((List.length (a0.1.2.2.2.2.1 : (List Bool))) : Int) ≤ 40)) then
            bif (decide (((List.length (a0.2.1 : (List Int))) : Int) ≤ 40)) then
              bif (decide (((List.length (a0.2.2.1 : (List Int))) : Int) ≤ 40)) then
                some (((decide (((List.length (a0.2.2.2.1 : (List (den tPlace)))) : Int) ≤ 40)), ()), [])
              else
                some ((false, ()), [])
            else
              some ((false, ()), [])
          else
            some ((false, ()), [])
        else
          some ((false, ()), [])
      else
        some ((false, ()), [])
    else
      some ((false, ()), [])
  else
    some ((false, ()), []) := by kernel_rfl
def innkeepref06_in.res : List Sh := [.d .bool]
@[reducible] def innkeepref06_in.R : Type := dShL [.d .bool] × Fresh
def innkeepref06_in (n : Nat) (a0 : Int) (a1 : Int) : Option innkeepref06_in.R := gc n 30 [.dat (.int .i64) a0 [], .dat (.int .i64) a1 []] [.d .bool]
theorem innkeepref06_in.eq (n : Nat) (a0 : Int) (a1 : Int) : innkeepref06_in (n + 1) a0 a1 =
  bif (decide (0 ≤ a0)) then
    some (((decide (a0 < a1)), ()), [])
  else
    some ((false, ()), []) := by kernel_rfl
def innkeepref01_Is.res : List Sh := [.d .bool]
@[reducible] def innkeepref01_Is.R : Type := dShL [.d .bool] × Fresh
def innkeepref01_Is (n : Nat) (a0 : Int) : Option innkeepref01_Is.R := gc n 31 [.dat (.int .i64) a0 []] [.d .bool]
theorem innkeepref01_Is.eq (n : Nat) (a0 : Int) : innkeepref01_Is (n + 1) a0 =
  bif (decide (0 ≤ a0)) then
    some (((decide (a0 ≤ 1073741824)), ()), [])
  else
    some ((false, ()), []) := by kernel_rfl
def innkeepref06_May.res : List Sh := [.d .bool]
@[reducible] def innkeepref06_May.R : Type := dShL [.d .bool] × Fresh
def innkeepref06_May (n : Nat) (a0 : (den tDesc)) : Option innkeepref06_May.R := gc n 29 [.dat tDesc a0 []] [.d .bool]
def innkeepref06_May.l0 (n m0 : Nat) (t0 : (den tDesc)) (t2 : Bool) (t3 : Int) (t4 : Int) (o0 : (den tDesc)) : Option innkeepref06_May.R :=
  loopN (fun Kn K s h => run (gc n) n innkeepref06_May.c17 Kn K s h) m0 (kBlk 0 (kSeq (run (gc n) n) innkeepref06_May.c15 (retK innkeepref06_May.fn innkeepref06_May.res) (retK innkeepref06_May.fn innkeepref06_May.res)) (retK innkeepref06_May.fn innkeepref06_May.res))
    [(0, .dat tDesc t0 []), (1, .ptr 0 []), (2, .dat .bool t2 []), (3, .dat (.int .i64) t3 []), (4, .dat (.int .i64) t4 [])]
    [.box tDesc o0 []]
def innkeepref06_May.l1 (n m0 m1 : Nat) (t0_1 : (den tDesc)) (t2_1 : Bool) (t3_1 : Int) (t4_1 : Int) (t5_1 : Int) (o0_1 : (den tDesc)) : Option innkeepref06_May.R :=
  loopN (fun Kn K s h => run (gc n) n innkeepref06_May.c26 Kn K s h) m1 (kBlk 2 (kSeq (run (gc n) n) innkeepref06_May.c24 (kSeq (run (gc n) n) innkeepref06_May.c23 (kSeq (run (gc n) n) innkeepref06_May.c18 (fun _ s h => loopN (fun Kn K s h => run (gc n) n innkeepref06_May.c17 Kn K s h) m0 (kBlk 0 (kSeq (run (gc n) n) innkeepref06_May.c15 (retK innkeepref06_May.fn innkeepref06_May.res) (retK innkeepref06_May.fn innkeepref06_May.res)) (retK innkeepref06_May.fn innkeepref06_May.res)) s h) (kBlk 0 (kSeq (run (gc n) n) innkeepref06_May.c15 (retK innkeepref06_May.fn innkeepref06_May.res) (retK innkeepref06_May.fn innkeepref06_May.res)) (retK innkeepref06_May.fn innkeepref06_May.res))) (kBlk 0 (kSeq (run (gc n) n) innkeepref06_May.c15 (retK innkeepref06_May.fn innkeepref06_May.res) (retK innkeepref06_May.fn innkeepref06_May.res)) (retK innkeepref06_May.fn innkeepref06_May.res))) (kBlk 1 (kSeq (run (gc n) n) innkeepref06_May.c23 (kSeq (run (gc n) n) innkeepref06_May.c18 (fun _ s h => loopN (fun Kn K s h => run (gc n) n innkeepref06_May.c17 Kn K s h) m0 (kBlk 0 (kSeq (run (gc n) n) innkeepref06_May.c15 (retK innkeepref06_May.fn innkeepref06_May.res) (retK innkeepref06_May.fn innkeepref06_May.res)) (retK innkeepref06_May.fn innkeepref06_May.res)) s h) (kBlk 0 (kSeq (run (gc n) n) innkeepref06_May.c15 (retK innkeepref06_May.fn innkeepref06_May.res) (retK innkeepref06_May.fn innkeepref06_May.res)) (retK innkeepref06_May.fn innkeepref06_May.res))) (kBlk 0 (kSeq (run (gc n) n) innkeepref06_May.c15 (retK innkeepref06_May.fn innkeepref06_May.res) (retK innkeepref06_May.fn innkeepref06_May.res)) (retK innkeepref06_May.fn innkeepref06_May.res))) (kBlk 0 (kSeq (run (gc n) n) innkeepref06_May.c15 (retK innkeepref06_May.fn innkeepref06_May.res) (retK innkeepref06_May.fn innkeepref06_May.res)) (retK innkeepref06_May.fn innkeepref06_May.res)))) (kBlk 1 (kSeq (run (gc n) n) innkeepref06_May.c23 (kSeq (run (gc n) n) innkeepref06_May.c18 (fun _ s h => loopN (fun Kn K s h => run (gc n) n innkeepref06_May.c17 Kn K s h) m0 (kBlk 0 (kSeq (run (gc n) n) innkeepref06_May.c15 (retK innkeepref06_May.fn innkeepref06_May.res) (retK innkeepref06_May.fn innkeepref06_May.res)) (retK innkeepref06_May.fn innkeepref06_May.res)) s h) (kBlk 0 (kSeq (run (gc n) n) innkeepref06_May.c15 (retK innkeepref06_May.fn innkeepref06_May.res) (retK innkeepref06_May.fn innkeepref06_May.res)) (retK innkeepref06_May.fn innkeepref06_May.res))) (kBlk 0 (kSeq (run (gc n) n) innkeepref06_May.c15 (retK innkeepref06_May.fn innkeepref06_May.res) (retK innkeepref06_May.fn innkeepref06_May.res)) (retK innkeepref06_May.fn innkeepref06_May.res))) (kBlk 0 (kSeq (run (gc n) n) innkeepref06_May.c15 (retK innkeepref06_May.fn innkeepref06_May.res) (retK innkeepref06_May.fn innkeepref06_May.res)) (retK innkeepref06_May.fn innkeepref06_May.res))))
    [(0, .dat tDesc t0_1 []), (1, .ptr 0 []), (2, .dat .bool t2_1 []), (3, .dat (.int .i64) t3_1 []), (4, .dat (.int .i64) t4_1 []), (5, .dat (.int .i64) t5_1 [])]
    [.box tDesc o0_1 []]
def innkeepref06_May.l2 (n m0 m1 : Nat) (t0_2 : (den tDesc)) (t2_2 : Bool) (t3_2 : Int) (t4_2 : Int) (t5_2 : Int) (t6_2 : Int) (t7_2 : Int) (o0_2 : (den tDesc)) : Option innkeepref06_May.R :=
  loopN (fun Kn K s h => run (gc n) n innkeepref06_May.c43 Kn K s h) m1 (kBlk 4 (kSeq (run (gc n) n) innkeepref06_May.c41 (kSeq (run (gc n) n) innkeepref06_May.c23 (kSeq (run (gc n) n) innkeepref06_May.c18 (fun _ s h => loopN (fun Kn K s h => run (gc n) n innkeepref06_May.c17 Kn K s h) m0 (kBlk 0 (kSeq (run (gc n) n) innkeepref06_May.c15 (retK innkeepref06_May.fn innkeepref06_May.res) (retK innkeepref06_May.fn innkeepref06_May.res)) (retK innkeepref06_May.fn innkeepref06_May.res)) s h) (kBlk 0 (kSeq (run (gc n) n) innkeepref06_May.c15 (retK innkeepref06_May.fn innkeepref06_May.res) (retK innkeepref06_May.fn innkeepref06_May.res)) (retK innkeepref06_May.fn innkeepref06_May.res))) (kBlk 0 (kSeq (run (gc n) n) innkeepref06_May.c15 (retK innkeepref06_May.fn innkeepref06_May.res) (retK innkeepref06_May.fn innkeepref06_May.res)) (retK innkeepref06_May.fn innkeepref06_May.res))) (kBlk 1 (kSeq (run (gc n) n) innkeepref06_May.c23 (kSeq (run (gc n) n) innkeepref06_May.c18 (fun _ s h => loopN (fun Kn K s h => run (gc n) n innkeepref06_May.c17 Kn K s h) m0 (kBlk 0 (kSeq (run (gc n) n) innkeepref06_May.c15 (retK innkeepref06_May.fn innkeepref06_May.res) (retK innkeepref06_May.fn innkeepref06_May.res)) (retK innkeepref06_May.fn innkeepref06_May.res)) s h) (kBlk 0 (kSeq (run (gc n) n) innkeepref06_May.c15 (retK innkeepref06_May.fn innkeepref06_May.res) (retK innkeepref06_May.fn innkeepref06_May.res)) (retK innkeepref06_May.fn innkeepref06_May.res))) (kBlk 0 (kSeq (run (gc n) n) innkeepref06_May.c15 (retK innkeepref06_May.fn innkeepref06_May.res) (retK innkeepref06_May.fn innkeepref06_May.res)) (retK innkeepref06_May.fn innkeepref06_May.res))) (kBlk 0 (kSeq (run (gc n) n) innkeepref06_May.c15 (retK innkeepref06_May.fn innkeepref06_May.res) (retK innkeepref06_May.fn innkeepref06_May.res)) (retK innkeepref06_May.fn innkeepref06_May.res)))) (kBlk 1 (kSeq (run (gc n) n) innkeepref06_May.c23 (kSeq (run (gc n) n) innkeepref06_May.c18 (fun _ s h => loopN (fun Kn K s h => run (gc n) n innkeepref06_May.c17 Kn K s h) m0 (kBlk 0 (kSeq (run (gc n) n) innkeepref06_May.c15 (retK innkeepref06_May.fn innkeepref06_May.res) (retK innkeepref06_May.fn innkeepref06_May.res)) (retK innkeepref06_May.fn innkeepref06_May.res)) s h) (kBlk 0 (kSeq (run (gc n) n) innkeepref06_May.c15 (retK innkeepref06_May.fn innkeepref06_May.res) (retK innkeepref06_May.fn innkeepref06_May.res)) (retK innkeepref06_May.fn innkeepref06_May.res))) (kBlk 0 (kSeq (run (gc n) n) innkeepref06_May.c15 (retK innkeepref06_May.fn innkeepref06_May.res) (retK innkeepref06_May.fn innkeepref06_May.res)) (retK innkeepref06_May.fn innkeepref06_May.res))) (kBlk 0 (kSeq (run (gc n) n) innkeepref06_May.c15 (retK innkeepref06_May.fn innkeepref06_May.res) (retK innkeepref06_May.fn innkeepref06_May.res)) (retK innkeepref06_May.fn innkeepref06_May.res))))
    [(0, .dat tDesc t0_2 []), (1, .ptr 0 []), (2, .dat .bool t2_2 []), (3, .dat (.int .i64) t3_2 []), (4, .dat (.int .i64) t4_2 []), (5, .dat (.int .i64) t5_2 []), (6, .dat (.int .i64) t6_2 []), (7, .dat (.int .i64) t7_2 [])]
    [.box tDesc o0_2 []]
def innkeepref06_May.l3 (n m0 : Nat) (t0_3 : (den tDesc)) (t2_3 : Bool) (t3_3 : Int) (t4_3 : Int) (t8_3 : Int) (o0_3 : (den tDesc)) : Option innkeepref06_May.R :=
  loopN (fun Kn K s h => run (gc n) n innkeepref06_May.c66 Kn K s h) m0 (kBlk 6 (kSeq (run (gc n) n) innkeepref06_May.c64 (retK innkeepref06_May.fn innkeepref06_May.res) (retK innkeepref06_May.fn innkeepref06_May.res)) (retK innkeepref06_May.fn innkeepref06_May.res))
    [(0, .dat tDesc t0_3 []), (1, .ptr 0 []), (2, .dat .bool t2_3 []), (3, .dat (.int .i64) t3_3 []), (4, .dat (.int .i64) t4_3 []), (8, .dat (.int .i64) t8_3 [])]
    [.box tDesc o0_3 []]
def innkeepref06_May.l4 (n m0 : Nat) (t0_4 : (den tDesc)) (t2_4 : Bool) (t3_4 : Int) (t4_4 : Int) (t8_4 : Int) (t9_4 : Int) (o0_4 : (den tDesc)) : Option innkeepref06_May.R :=
  loopN (fun Kn K s h => run (gc n) n innkeepref06_May.c82 Kn K s h) m0 (kBlk 8 (kSeq (run (gc n) n) innkeepref06_May.c80 (retK innkeepref06_May.fn innkeepref06_May.res) (retK innkeepref06_May.fn innkeepref06_May.res)) (retK innkeepref06_May.fn innkeepref06_May.res))
    [(0, .dat tDesc t0_4 []), (1, .ptr 0 []), (2, .dat .bool t2_4 []), (3, .dat (.int .i64) t3_4 []), (4, .dat (.int .i64) t4_4 []), (8, .dat (.int .i64) t8_4 []), (9, .dat (.int .i64) t9_4 [])]
    [.box tDesc o0_4 []]
theorem innkeepref06_May.l0_eq (n m0 : Nat) (t0 : (den tDesc)) (t2 : Bool) (t3 : Int) (t4 : Int) (o0 : (den tDesc)) : innkeepref06_May.l0 n (m0 + 1) t0 t2 t3 t4 o0 =
  bif (decide (t4 < t3)) then
    innkeepref06_May.l1 n m0 n t0 t2 t3 t4 0 o0
  else
    innkeepref06_May.l3 n n t0 t2 t3 t4 0 o0 := by kernel_rfl
theorem innkeepref06_May.l1_eq (n m0 m1 : Nat) (t0_1 : (den tDesc)) (t2_1 : Bool) (t3_1 : Int) (t4_1 : Int) (t5_1 : Int) (o0_1 : (den tDesc)) : innkeepref06_May.l1 n m0 (m1 + 1) t0_1 t2_1 t3_1 t4_1 t5_1 o0_1 =
  bif (decide (t5_1 < 4)) then
    if (0 : Int) ≤ t4_1 ∧ t4_1 < (((List.length (o0_1.1 : (List (List Int)))) : Nat) : Int) then
    if (0 : Int) ≤ t5_1 ∧ t5_1 < ((4 : Nat) : Int) then
    bif (!(decide ((List.getD (List.getD (o0_1.1 : (List (List Int))) (Int.toNat t4_1) (dft (.arr 4 (.int .i64))) : (List Int)) (Int.toNat t5_1) (0 : Int) : Int) = (-1)))) then
      if (0 : Int) ≤ t4_1 ∧ t4_1 < (((List.length (o0_1.1 : (List (List Int)))) : Nat) : Int) then
      if (0 : Int) ≤ t5_1 ∧ t5_1 < ((4 : Nat) : Int) then
      Option.bind (innkeepref06_in n (List.getD (List.getD (o0_1.1 : (List (List Int))) (Int.toNat t4_1) (dft (.arr 4 (.int .i64))) : (List Int)) (Int.toNat t5_1) (0 : Int) : Int) t3_1) fun r4 =>
      bif (!(r4.1.1 : Bool)) then
        some ((false, ()), [])
      else
        innkeepref06_May.l1 n m0 m1 t0_1 t2_1 t3_1 t4_1 (IntKind.wrap .i64 (t5_1 + 1)) o0_1
      else none
      else none
    else
      innkeepref06_May.l1 n m0 m1 t0_1 t2_1 t3_1 t4_1 (IntKind.wrap .i64 (t5_1 + 1)) o0_1
    else none
    else none
  else
    innkeepref06_May.l2 n m0 n t0_1 t2_1 t3_1 t4_1 t5_1 0 0 o0_1 := by kernel_rfl
theorem innkeepref06_May.l2_eq (n m0 m1 : Nat) (t0_2 : (den tDesc)) (t2_2 : Bool) (t3_2 : Int) (t4_2 : Int) (t5_2 : Int) (t6_2 : Int) (t7_2 : Int) (o0_2 : (den tDesc)) : innkeepref06_May.l2 n m0 (m1 + 1) t0_2 t2_2 t3_2 t4_2 t5_2 t6_2 t7_2 o0_2 =
  bif (decide (t7_2 < ((List.length (o0_2.2.2.2.1 : (List Int))) : Int))) then
    if (0 : Int) ≤ t7_2 ∧ t7_2 < (((List.length (o0_2.2.2.2.1 : (List Int))) : Nat) : Int) then
    bif (decide ((List.getD (o0_2.2.2.2.1 : (List Int)) (Int.toNat t7_2) (0 : Int) : Int) = t4_2)) then
      innkeepref06_May.l2 n m0 m1 t0_2 t2_2 t3_2 t4_2 t5_2 (IntKind.wrap .i64 (t6_2 + 1)) (IntKind.wrap .i64 (t7_2 + 1)) o0_2
    else
      innkeepref06_May.l2 n m0 m1 t0_2 t2_2 t3_2 t4_2 t5_2 t6_2 (IntKind.wrap .i64 (t7_2 + 1)) o0_2
    else none
  else
    bif (decide ((o0_2.2.2.2.2.2.1 : Int) < t6_2)) then
      some ((false, ()), [])
    else
      innkeepref06_May.l0 n m0 t0_2 t2_2 t3_2 (IntKind.wrap .i64 (t4_2 + 1)) o0_2 := by kernel_rfl
theorem innkeepref06_May.l3_eq (n m0 : Nat) (t0_3 : (den tDesc)) (t2_3 : Bool) (t3_3 : Int) (t4_3 : Int) (t8_3 : Int) (o0_3 : (den tDesc)) : innkeepref06_May.l3 n (m0 + 1) t0_3 t2_3 t3_3 t4_3 t8_3 o0_3 =
  bif (decide (t8_3 < ((List.length (o0_3.2.1 : (List Int))) : Int))) then
    if (0 : Int) ≤ t8_3 ∧ t8_3 < (((List.length (o0_3.2.1 : (List Int))) : Nat) : Int) then
    Option.bind (innkeepref06_in n (List.getD (o0_3.2.1 : (List Int)) (Int.toNat t8_3) (0 : Int) : Int) t3_3) fun r5 =>
    bif (!(r5.1.1 : Bool)) then
      some ((false, ()), [])
    else
      if (0 : Int) ≤ t8_3 ∧ t8_3 < (((List.length (o0_3.2.2.1 : (List Int))) : Nat) : Int) then
      Option.bind (innkeepref01_Is n (List.getD (o0_3.2.2.1 : (List Int)) (Int.toNat t8_3) (0 : Int) : Int)) fun r6 =>
      bif (!(r6.1.1 : Bool)) then
        some ((false, ()), [])
      else
        innkeepref06_May.l3 n m0 t0_3 t2_3 t3_3 t4_3 (IntKind.wrap .i64 (t8_3 + 1)) o0_3
      else none
    else none
  else
    innkeepref06_May.l4 n n t0_3 t2_3 t3_3 t4_3 t8_3 0 o0_3 := by kernel_rfl
theorem innkeepref06_May.l4_eq (n m0 : Nat) (t0_4 : (den tDesc)) (t2_4 : Bool) (t3_4 : Int) (t4_4 : Int) (t8_4 : Int) (t9_4 : Int) (o0_4 : (den tDesc)) : innkeepref06_May.l4 n (m0 + 1) t0_4 t2_4 t3_4 t4_4 t8_4 t9_4 o0_4 =
  bif (decide (t9_4 < ((List.length (o0_4.2.2.2.1 : (List Int))) : Int))) then
    if (0 : Int) ≤ t9_4 ∧ t9_4 < (((List.length (o0_4.2.2.2.1 : (List Int))) : Nat) : Int) then
    Option.bind (innkeepref06_in n (List.getD (o0_4.2.2.2.1 : (List Int)) (Int.toNat t9_4) (0 : Int) : Int) t3_4) fun r7 =>
    bif (!(r7.1.1 : Bool)) then
      some ((false, ()), [])
    else
      innkeepref06_May.l4 n m0 t0_4 t2_4 t3_4 t4_4 t8_4 (IntKind.wrap .i64 (t9_4 + 1)) o0_4
    else none
  else
    some ((true, ()), []) := by kernel_rfl
theorem innkeepref06_May.eq (n : Nat) (a0 : (den tDesc)) : innkeepref06_May (n + 1) a0 =
  bif (decide (((List.length (a0.1 : (List (List Int)))) : Int) < 1)) then
    some ((false, ()), [])
  else
    bif (decide (8 < ((List.length (a0.1 : (List (List Int)))) : Int))) then
      some ((false, ()), [])
    else
      bif (decide (((List.length (a0.2.1 : (List Int))) : Int) < 1)) then
        some ((false, ()), [])
      else
        bif (decide (6 < ((List.length (a0.2.1 : (List Int))) : Int))) then
          some ((false, ()), [])
        else
          bif (!(decide (((List.length (a0.2.2.1 : (List Int))) : Int) = ((List.length (a0.2.1 : (List Int))) : Int)))) then
            some ((false, ()), [])
          else
            bif (decide (16 < ((List.length (a0.2.2.2.1 : (List Int))) : Int))) then
              some ((false, ()), [])
            else
              bif (!(decide (((List.length (a0.2.2.2.2.1 : (List Bool))) : Int) = ((List.length (a0.2.2.2.1 : (List Int))) : Int)))) then
                some ((false, ()), [])
              else
                Option.bind (innkeepref06_in n (a0.2.2.2.2.2.1 : Int) 65) fun r1 =>
                bif (!(r1.1.1 : Bool)) then
                  some ((false, ()), [])
                else
                  Option.bind (innkeepref06_in n (a0.2.2.2.2.2.2.1 : Int) 65) fun r2 =>
                  bif (!(r2.1.1 : Bool)) then
                    some ((false, ()), [])
                  else
                    Option.bind (innkeepref06_in n (a0.2.2.2.2.2.2.2.1 : Int) 65) fun r3 =>
                    bif (!(r3.1.1 : Bool)) then
                      some ((false, ()), [])
                    else
                      innkeepref06_May.l0 n n a0 false ((List.length (a0.1 : (List (List Int)))) : Int) 0 a0 := by kernel_rfl
def innkeepref06_Depth.res : List Sh := [.d (.int .i64)]
@[reducible] def innkeepref06_Depth.R : Type := dShL [.d (.int .i64)] × Fresh
def innkeepref06_Depth (n : Nat) (a0 : (den tWorld)) (a1 : (den tPlace)) : Option innkeepref06_Depth.R := gc n 32 [.dat tWorld a0 [], .dat tPlace a1 []] [.d (.int .i64)]
def innkeepref06_Depth.l0 (n m0 : Nat) (t0 : (den tWorld)) (t1 : (den tPlace)) (t4 : Int) (t5 : Int) (o0 : (den tWorld)) (o1 : (den tPlace)) : Option innkeepref06_Depth.R :=
  loopN (fun Kn K s h => run (gc n) n innkeepref06_Depth.c3 Kn K s h) m0 (kBlk 0 (kSeq (run (gc n) n) innkeepref06_Depth.c2 (retK innkeepref06_Depth.fn innkeepref06_Depth.res) (retK innkeepref06_Depth.fn innkeepref06_Depth.res)) (retK innkeepref06_Depth.fn innkeepref06_Depth.res))
    [(0, .dat tWorld t0 []), (1, .dat tPlace t1 []), (2, .ptr 0 []), (3, .ptr 1 []), (4, .dat (.int .i64) t4 []), (5, .dat (.int .i64) t5 [])]
    [.box tWorld o0 [], .box tPlace o1 []]
theorem innkeepref06_Depth.l0_eq (n m0 : Nat) (t0 : (den tWorld)) (t1 : (den tPlace)) (t4 : Int) (t5 : Int) (o0 : (den tWorld)) (o1 : (den tPlace)) : innkeepref06_Depth.l0 n (m0 + 1) t0 t1 t4 t5 o0 o1 =
  bif (decide ((o1.1 : Int) = 2)) then
    bif (decide (50 < (IntKind.wrap .i64 (t5 + 1)))) then
      some ((99, ()), [])
    else
      if (0 : Int) ≤ (o1.2.1 : Int) ∧ (o1.2.1 : Int) < (((List.length (o0.2.2.2.1 : (List (den tPlace)))) : Nat) : Int) then
      innkeepref06_Depth.l0 n m0 t0 t1 t4 (IntKind.wrap .i64 (t5 + 1)) o0 (List.getD (o0.2.2.2.1 : (List (den tPlace))) (Int.toNat (o1.2.1 : Int)) (dft tPlace) : (den tPlace))
      else none
  else
    some ((t5, ()), []) := by kernel_rfl
theorem innkeepref06_Depth.eq (n : Nat) (a0 : (den tWorld)) (a1 : (den tPlace)) : innkeepref06_Depth (n + 1) a0 a1 =
  innkeepref06_Depth.l0 n n a0 a1 0 0 a0 a1 := by kernel_rfl
def innkeepref06_Many.res : List Sh := [.d (.int .i64)]
@[reducible] def innkeepref06_Many.R : Type := dShL [.d (.int .i64)] × Fresh
def innkeepref06_Many (n : Nat) (a0 : (den tWorld)) (a1 : (den tPlace)) : Option innkeepref06_Many.R := gc n 33 [.dat tWorld a0 [], .dat tPlace a1 []] [.d (.int .i64)]
def innkeepref06_Many.l0 (n m0 : Nat) (t0 : (den tWorld)) (t1 : (den tPlace)) (t4 : Int) (t5 : Int) (t6 : Int) (o0 : (den tWorld)) (o1 : (den tPlace)) : Option innkeepref06_Many.R :=
  loopN (fun Kn K s h => run (gc n) n innkeepref06_Many.c4 Kn K s h) m0 (kBlk 0 (kSeq (run (gc n) n) innkeepref06_Many.c2 (retK innkeepref06_Many.fn innkeepref06_Many.res) (retK innkeepref06_Many.fn innkeepref06_Many.res)) (retK innkeepref06_Many.fn innkeepref06_Many.res))
    [(0, .dat tWorld t0 []), (1, .dat tPlace t1 []), (2, .ptr 0 []), (3, .ptr 1 []), (4, .dat (.int .i64) t4 []), (5, .dat (.int .i64) t5 []), (6, .dat (.int .i64) t6 [])]
    [.box tWorld o0 [], .box tPlace o1 []]
theorem innkeepref06_Many.l0_eq (n m0 : Nat) (t0 : (den tWorld)) (t1 : (den tPlace)) (t4 : Int) (t5 : Int) (t6 : Int) (o0 : (den tWorld)) (o1 : (den tPlace)) : innkeepref06_Many.l0 n (m0 + 1) t0 t1 t4 t5 t6 o0 o1 =
  bif (decide (t6 < ((List.length (o0.2.2.2.1 : (List (den tPlace)))) : Int))) then
    if (0 : Int) ≤ t6 ∧ t6 < (((List.length (o0.2.2.2.1 : (List (den tPlace)))) : Nat) : Int) then
    bif (eqT tPlace (List.getD (o0.2.2.2.1 : (List (den tPlace))) (Int.toNat t6) (dft tPlace) : (den tPlace)) o1) then
      innkeepref06_Many.l0 n m0 t0 t1 t4 (IntKind.wrap .i64 (t5 + 1)) (IntKind.wrap .i64 (t6 + 1)) o0 o1
    else
      innkeepref06_Many.l0 n m0 t0 t1 t4 t5 (IntKind.wrap .i64 (t6 + 1)) o0 o1
    else none
  else
    some ((t5, ()), []) := by kernel_rfl
theorem innkeepref06_Many.eq (n : Nat) (a0 : (den tWorld)) (a1 : (den tPlace)) : innkeepref06_Many (n + 1) a0 a1 =
  innkeepref06_Many.l0 n n a0 a1 0 0 0 a0 a1 := by kernel_rfl
def innkeepref06_Cap.res : List Sh := [.d (.int .i64)]
@[reducible] def innkeepref06_Cap.R : Type := dShL [.d (.int .i64)] × Fresh
def innkeepref06_Cap (n : Nat) (a0 : (den tWorld)) (a1 : (den tPlace)) : Option innkeepref06_Cap.R := gc n 34 [.dat tWorld a0 [], .dat tPlace a1 []] [.d (.int .i64)]
theorem innkeepref06_Cap.eq (n : Nat) (a0 : (den tWorld)) (a1 : (den tPlace)) : innkeepref06_Cap (n + 1) a0 a1 =
  if (0 : Int) ≤ (a1.1 : Int) ∧ (a1.1 : Int) < ((3 : Nat) : Int) then
  some (((List.getD ([(a0.1.2.2.2.2.2.1 : Int), (a0.1.2.2.2.2.2.2.1 : Int), (a0.1.2.2.2.2.2.2.2.1 : Int)] : List Int) (Int.toNat (a1.1 : Int)) (0 : Int) : Int), ()), [])
  else none := by kernel_rfl
def innkeepref06_Right.res : List Sh := [.d .bool]
@[reducible] def innkeepref06_Right.R : Type := dShL [.d .bool] × Fresh
def innkeepref06_Right (n : Nat) (a0 : (den tWorld)) : Option innkeepref06_Right.R := gc n 21 [.dat tWorld a0 []] [.d .bool]
def innkeepref06_Right.l0 (n m0 : Nat) (t0 : (den tWorld)) (t2 : Bool) (t4 : Int) (o0 : (den tWorld)) (o1 : (den tDesc)) : Option innkeepref06_Right.R :=
  loopN (fun Kn K s h => run (gc n) n innkeepref06_Right.c11 Kn K s h) m0 (kBlk 0 (kSeq (run (gc n) n) innkeepref06_Right.c9 (retK innkeepref06_Right.fn innkeepref06_Right.res) (retK innkeepref06_Right.fn innkeepref06_Right.res)) (retK innkeepref06_Right.fn innkeepref06_Right.res))
    [(0, .dat tWorld t0 []), (1, .ptr 0 []), (2, .dat .bool t2 []), (3, .ptr 1 []), (4, .dat (.int .i64) t4 [])]
    [.box tWorld o0 [], .box tDesc o1 []]
def innkeepref06_Right.l1 (n m0 : Nat) (t0_1 : (den tWorld)) (t2_1 : Bool) (t4_1 : Int) (t5_1 : Int) (o0_1 : (den tWorld)) (o1_1 : (den tDesc)) : Option innkeepref06_Right.R :=
  loopN (fun Kn K s h => run (gc n) n innkeepref06_Right.c27 Kn K s h) m0 (kBlk 2 (kSeq (run (gc n) n) innkeepref06_Right.c25 (retK innkeepref06_Right.fn innkeepref06_Right.res) (retK innkeepref06_Right.fn innkeepref06_Right.res)) (retK innkeepref06_Right.fn innkeepref06_Right.res))
    [(0, .dat tWorld t0_1 []), (1, .ptr 0 []), (2, .dat .bool t2_1 []), (3, .ptr 1 []), (4, .dat (.int .i64) t4_1 []), (5, .dat (.int .i64) t5_1 [])]
    [.box tWorld o0_1 [], .box tDesc o1_1 []]
def innkeepref06_Right.l2 (n m0 : Nat) (t0_2 : (den tWorld)) (t2_2 : Bool) (t4_2 : Int) (t5_2 : Int) (t8_2 : Int) (o0_2 : (den tWorld)) (o1_2 : (den tDesc)) : Option innkeepref06_Right.R :=
  loopN (fun Kn K s h => run (gc n) n innkeepref06_Right.c47 Kn K s h) m0 (kBlk 4 (kSeq (run (gc n) n) innkeepref06_Right.c45 (retK innkeepref06_Right.fn innkeepref06_Right.res) (retK innkeepref06_Right.fn innkeepref06_Right.res)) (retK innkeepref06_Right.fn innkeepref06_Right.res))
    [(0, .dat tWorld t0_2 []), (1, .ptr 0 []), (2, .dat .bool t2_2 []), (3, .ptr 1 []), (4, .dat (.int .i64) t4_2 []), (5, .dat (.int .i64) t5_2 []), (8, .dat (.int .i64) t8_2 [])]
    [.box tWorld o0_2 [], .box tDesc o1_2 []]
theorem innkeepref06_Right.l0_eq (n m0 : Nat) (t0 : (den tWorld)) (t2 : Bool) (t4 : Int) (o0 : (den tWorld)) (o1 : (den tDesc)) : innkeepref06_Right.l0 n (m0 + 1) t0 t2 t4 o0 o1 =
  bif (decide (t4 < ((List.length (o0.2.1 : (List Int))) : Int))) then
    if (0 : Int) ≤ t4 ∧ t4 < (((List.length (o0.2.1 : (List Int))) : Nat) : Int) then
    Option.bind (innkeepref06_in n (List.getD (o0.2.1 : (List Int)) (Int.toNat t4) (0 : Int) : Int) ((List.length (o1.1 : (List (List Int)))) : Int)) fun r2 =>
    bif (!(r2.1.1 : Bool)) then
      some ((false, ()), [])
    else
      if (0 : Int) ≤ t4 ∧ t4 < (((List.length (o0.2.2.1 : (List Int))) : Nat) : Int) then
      Option.bind (innkeepref01_Is n (List.getD (o0.2.2.1 : (List Int)) (Int.toNat t4) (0 : Int) : Int)) fun r3 =>
      bif (!(r3.1.1 : Bool)) then
        some ((false, ()), [])
      else
        innkeepref06_Right.l0 n m0 t0 t2 (IntKind.wrap .i64 (t4 + 1)) o0 o1
      else none
    else none
  else
    innkeepref06_Right.l1 n n t0 t2 t4 0 o0 o1 := by kernel_rfl
theorem innkeepref06_Right.l1_eq (n m0 : Nat) (t0_1 : (den tWorld)) (t2_1 : Bool) (t4_1 : Int) (t5_1 : Int) (o0_1 : (den tWorld)) (o1_1 : (den tDesc)) : innkeepref06_Right.l1 n (m0 + 1) t0_1 t2_1 t4_1 t5_1 o0_1 o1_1 =
  bif (decide (t5_1 < ((List.length (o0_1.2.2.2.1 : (List (den tPlace)))) : Int))) then
    if (0 : Int) ≤ t5_1 ∧ t5_1 < (((List.length (o0_1.2.2.2.1 : (List (den tPlace)))) : Nat) : Int) then
    bif (decide (((List.getD (o0_1.2.2.2.1 : (List (den tPlace))) (Int.toNat t5_1) (dft tPlace) : (den tPlace)).1 : Int) = 0)) then
      Option.bind (innkeepref06_in n ((List.getD (o0_1.2.2.2.1 : (List (den tPlace))) (Int.toNat t5_1) (dft tPlace) : (den tPlace)).2.1 : Int) ((List.length (o1_1.1 : (List (List Int)))) : Int)) fun r4 =>
      bif (r4.1.1 : Bool) then
        innkeepref06_Right.l1 n m0 t0_1 t2_1 t4_1 (IntKind.wrap .i64 (t5_1 + 1)) o0_1 o1_1
      else
        bif (decide (((List.getD (o0_1.2.2.2.1 : (List (den tPlace))) (Int.toNat t5_1) (dft tPlace) : (den tPlace)).1 : Int) = 1)) then
          Option.bind (innkeepref06_in n ((List.getD (o0_1.2.2.2.1 : (List (den tPlace))) (Int.toNat t5_1) (dft tPlace) : (den tPlace)).2.1 : Int) ((List.length (o1_1.2.1 : (List Int))) : Int)) fun r5 =>
          bif (r5.1.1 : Bool) then
            innkeepref06_Right.l1 n m0 t0_1 t2_1 t4_1 (IntKind.wrap .i64 (t5_1 + 1)) o0_1 o1_1
          else
            bif (decide (((List.getD (o0_1.2.2.2.1 : (List (den tPlace))) (Int.toNat t5_1) (dft tPlace) : (den tPlace)).1 : Int) = 2)) then
              Option.bind (innkeepref06_in n ((List.getD (o0_1.2.2.2.1 : (List (den tPlace))) (Int.toNat t5_1) (dft tPlace) : (den tPlace)).2.1 : Int) ((List.length (o1_1.2.2.2.1 : (List Int))) : Int)) fun r6 =>
              bif (r6.1.1 : Bool) then
                if (0 : Int) ≤ ((List.getD (o0_1.2.2.2.1 : (List (den tPlace))) (Int.toNat t5_1) (dft tPlace) : (den tPlace)).2.1 : Int) ∧ ((List.getD (o0_1.2.2.2.1 : (List (den tPlace))) (Int.toNat t5_1) (dft tPlace) : (den tPlace)).2.1 : Int) < (((List.length (o1_1.2.2.2.2.1 : (List Bool))) : Nat) : Int) then
                bif (!(List.getD (o1_1.2.2.2.2.1 : (List Bool)) (Int.toNat ((List.getD (o0_1.2.2.2.1 : (List (den tPlace))) (Int.toNat t5_1) (dft tPlace) : (den tPlace)).2.1 : Int)) false : Bool)) then
                  some ((false, ()), [])
                else
                  innkeepref06_Right.l1 n m0 t0_1 t2_1 t4_1 (IntKind.wrap .i64 (t5_1 + 1)) o0_1 o1_1
                else none
              else
                some ((false, ()), [])
            else
              some ((false, ()), [])
        else
          bif (decide (((List.getD (o0_1.2.2.2.1 : (List (den tPlace))) (Int.toNat t5_1) (dft tPlace) : (den tPlace)).1 : Int) = 2)) then
            Option.bind (innkeepref06_in n ((List.getD (o0_1.2.2.2.1 : (List (den tPlace))) (Int.toNat t5_1) (dft tPlace) : (den tPlace)).2.1 : Int) ((List.length (o1_1.2.2.2.1 : (List Int))) : Int)) fun r7 =>
            bif (r7.1.1 : Bool) then
              if (0 : Int) ≤ ((List.getD (o0_1.2.2.2.1 : (List (den tPlace))) (Int.toNat t5_1) (dft tPlace) : (den tPlace)).2.1 : Int) ∧ ((List.getD (o0_1.2.2.2.1 : (List (den tPlace))) (Int.toNat t5_1) (dft tPlace) : (den tPlace)).2.1 : Int) < (((List.length (o1_1.2.2.2.2.1 : (List Bool))) : Nat) : Int) then
              bif (!(List.getD (o1_1.2.2.2.2.1 : (List Bool)) (Int.toNat ((List.getD (o0_1.2.2.2.1 : (List (den tPlace))) (Int.toNat t5_1) (dft tPlace) : (den tPlace)).2.1 : Int)) false : Bool)) then
                some ((false, ()), [])
              else
                innkeepref06_Right.l1 n m0 t0_1 t2_1 t4_1 (IntKind.wrap .i64 (t5_1 + 1)) o0_1 o1_1
              else none
            else
              some ((false, ()), [])
          else
            some ((false, ()), [])
    else
      bif (decide (((List.getD (o0_1.2.2.2.1 : (List (den tPlace))) (Int.toNat t5_1) (dft tPlace) : (den tPlace)).1 : Int) = 1)) then
        Option.bind (innkeepref06_in n ((List.getD (o0_1.2.2.2.1 : (List (den tPlace))) (Int.toNat t5_1) (dft tPlace) : (den tPlace)).2.1 : Int) ((List.length (o1_1.2.1 : (List Int))) : Int)) fun r8 =>
        bif (r8.1.1 : Bool) then
          innkeepref06_Right.l1 n m0 t0_1 t2_1 t4_1 (IntKind.wrap .i64 (t5_1 + 1)) o0_1 o1_1
        else
          bif (decide (((List.getD (o0_1.2.2.2.1 : (List (den tPlace))) (Int.toNat t5_1) (dft tPlace) : (den tPlace)).1 : Int) = 2)) then
            Option.bind (innkeepref06_in n ((List.getD (o0_1.2.2.2.1 : (List (den tPlace))) (Int.toNat t5_1) (dft tPlace) : (den tPlace)).2.1 : Int) ((List.length (o1_1.2.2.2.1 : (List Int))) : Int)) fun r9 =>
            bif (r9.1.1 : Bool) then
              if (0 : Int) ≤ ((List.getD (o0_1.2.2.2.1 : (List (den tPlace))) (Int.toNat t5_1) (dft tPlace) : (den tPlace)).2.1 : Int) ∧ ((List.getD (o0_1.2.2.2.1 : (List (den tPlace))) (Int.toNat t5_1) (dft tPlace) : (den tPlace)).2.1 : Int) < (((List.length (o1_1.2.2.2.2.1 : (List Bool))) : Nat) : Int) then
              bif (!(List.getD (o1_1.2.2.2.2.1 : (List Bool)) (Int.toNat ((List.getD (o0_1.2.2.2.1 : (List (den tPlace))) (Int.toNat t5_1) (dft tPlace) : (den tPlace)).2.1 : Int)) false : Bool)) then
                some ((false, ()), [])
              else
                innkeepref06_Right.l1 n m0 t0_1 t2_1 t4_1 (IntKind.wrap .i64 (t5_1 + 1)) o0_1 o1_1
              else none
            else
              some ((false, ()), [])
          else
            some ((false, ()), [])
      else
        bif (decide (((List.getD (o0_1.2.2.2.1 : (List (den tPlace))) (Int.toNat t5_1) (dft tPlace) : (den tPlace)).1 : Int) = 2)) then
          Option.bind (innkeepref06_in n ((List.getD (o0_1.2.2.2.1 : (List (den tPlace))) (Int.toNat t5_1) (dft tPlace) : (den tPlace)).2.1 : Int) ((List.length (o1_1.2.2.2.1 : (List Int))) : Int)) fun r10 =>
          bif (r10.1.1 : Bool) then
            if (0 : Int) ≤ ((List.getD (o0_1.2.2.2.1 : (List (den tPlace))) (Int.toNat t5_1) (dft tPlace) : (den tPlace)).2.1 : Int) ∧ ((List.getD (o0_1.2.2.2.1 : (List (den tPlace))) (Int.toNat t5_1) (dft tPlace) : (den tPlace)).2.1 : Int) < (((List.length (o1_1.2.2.2.2.1 : (List Bool))) : Nat) : Int) then
            bif (!(List.getD (o1_1.2.2.2.2.1 : (List Bool)) (Int.toNat ((List.getD (o0_1.2.2.2.1 : (List (den tPlace))) (Int.toNat t5_1) (dft tPlace) : (den tPlace)).2.1 : Int)) false : Bool)) then
              some ((false, ()), [])
            else
              innkeepref06_Right.l1 n m0 t0_1 t2_1 t4_1 (IntKind.wrap .i64 (t5_1 + 1)) o0_1 o1_1
            else none
          else
            some ((false, ()), [])
        else
          some ((false, ()), [])
    else none
  else
    innkeepref06_Right.l2 n n t0_1 t2_1 t4_1 t5_1 0 o0_1 o1_1 := by kernel_rfl
theorem innkeepref06_Right.l2_eq (n m0 : Nat) (t0_2 : (den tWorld)) (t2_2 : Bool) (t4_2 : Int) (t5_2 : Int) (t8_2 : Int) (o0_2 : (den tWorld)) (o1_2 : (den tDesc)) : innkeepref06_Right.l2 n (m0 + 1) t0_2 t2_2 t4_2 t5_2 t8_2 o0_2 o1_2 =
  bif (decide (t8_2 < ((List.length (o0_2.2.2.2.1 : (List (den tPlace)))) : Int))) then
    if (0 : Int) ≤ t8_2 ∧ t8_2 < (((List.length (o0_2.2.2.2.1 : (List (den tPlace)))) : Nat) : Int) then
    Option.bind (innkeepref06_Depth n o0_2 (List.getD (o0_2.2.2.2.1 : (List (den tPlace))) (Int.toNat t8_2) (dft tPlace) : (den tPlace))) fun r11 =>
    bif (decide (4 < (r11.1.1 : Int))) then
      some ((false, ()), [])
    else
      if (0 : Int) ≤ t8_2 ∧ t8_2 < (((List.length (o0_2.2.2.2.1 : (List (den tPlace)))) : Nat) : Int) then
      Option.bind (innkeepref06_Many n o0_2 (List.getD (o0_2.2.2.2.1 : (List (den tPlace))) (Int.toNat t8_2) (dft tPlace) : (den tPlace))) fun r12 =>
      if (0 : Int) ≤ t8_2 ∧ t8_2 < (((List.length (o0_2.2.2.2.1 : (List (den tPlace)))) : Nat) : Int) then
      Option.bind (innkeepref06_Cap n o0_2 (List.getD (o0_2.2.2.2.1 : (List (den tPlace))) (Int.toNat t8_2) (dft tPlace) : (den tPlace))) fun r13 =>
      bif (decide ((r13.1.1 : Int) < (r12.1.1 : Int))) then
        some ((false, ()), [])
      else
        innkeepref06_Right.l2 n m0 t0_2 t2_2 t4_2 t5_2 (IntKind.wrap .i64 (t8_2 + 1)) o0_2 o1_2
      else none
      else none
    else none
  else
    some ((true, ()), []) := by kernel_rfl
theorem innkeepref06_Right.eq (n : Nat) (a0 : (den tWorld)) : innkeepref06_Right (n + 1) a0 =
  Option.bind (innkeepref06_May n a0.1) fun r1 =>
  bif (!(r1.1.1 : Bool)) then
    some ((false, ()), [])
  else
    bif (!(decide (((List.length (a0.2.1 : (List Int))) : Int) = ((List.length (a0.1.2.1 : (List Int))) : Int)))) then
      some ((false, ()), [])
    else
      bif (!(decide (((List.length (a0.2.2.1 : (List Int))) : Int) = ((List.length (a0.1.2.1 : (List Int))) : Int)))) then
        some ((false, ()), [])
      else
        bif (!(decide (((List.length (a0.2.2.2.1 : (List (den tPlace)))) : Int) = ((List.length (a0.1.2.2.2.1 : (List Int))) : Int)))) then
          some ((false, ()), [])
        else
          innkeepref06_Right.l0 n n a0 false 0 a0 a0.1 := by kernel_rfl
def innkeeplaw12_fits.res : List Sh := [.d .bool]
@[reducible] def innkeeplaw12_fits.R : Type := dShL [.d .bool] × Fresh
def innkeeplaw12_fits (n : Nat) (a0 : (den tWorld)) : Option innkeeplaw12_fits.R := gc n 9 [.dat tWorld a0 []] [.d .bool]
theorem innkeeplaw12_fits.eq (n : Nat) (a0 : (den tWorld)) : innkeeplaw12_fits (n + 1) a0 =
  Option.bind (innkeepref06_Few n a0) fun r1 =>
  bif (r1.1.1 : Bool) then
    Option.bind (innkeepref06_Right n a0) fun r2 =>
    some (((r2.1.1 : Bool), ()), [])
  else
    some ((false, ()), []) := by kernel_rfl
def innkeepref12_Present.res : List Sh := [.d (.sl (.int .i64))]
@[reducible] def innkeepref12_Present.R : Type := dShL [.d (.sl (.int .i64))] × Fresh
def innkeepref12_Present (n : Nat) (a0 : (den tWorld)) (a1 : Int) : Option innkeepref12_Present.R := gc n 17 [.dat tWorld a0 [], .dat (.int .i64) a1 []] [.d (.sl (.int .i64))]
def innkeepref12_Present.l0 (n m0 : Nat) (t0 : (den tWorld)) (t1 : Int) (t4 : (List Int)) (t6 : Int) (o0 : (den tWorld)) (o3 : (List Int)) : Option innkeepref12_Present.R :=
  loopN (fun Kn K s h => run (gc n) n innkeepref12_Present.c4 Kn K s h) m0 (kBlk 0 (kSeq (run (gc n) n) innkeepref12_Present.c2 (retK innkeepref12_Present.fn innkeepref12_Present.res) (retK innkeepref12_Present.fn innkeepref12_Present.res)) (retK innkeepref12_Present.fn innkeepref12_Present.res))
    [(0, .dat tWorld t0 []), (1, .dat (.int .i64) t1 []), (2, .ptr 0 []), (4, .dat (.sl (.int .i64)) t4 []), (5, .dat (.sl (.int .i64)) ([] : List Int) [([], some 3)]), (6, .dat (.int .i64) t6 [])]
    [.box tWorld o0 [], .none, .none, .arr (.int .i64) o3]
theorem innkeepref12_Present.l0_eq (n m0 : Nat) (t0 : (den tWorld)) (t1 : Int) (t4 : (List Int)) (t6 : Int) (o0 : (den tWorld)) (o3 : (List Int)) : innkeepref12_Present.l0 n (m0 + 1) t0 t1 t4 t6 o0 o3 =
  bif (decide (t6 < ((List.length (o0.2.1 : (List Int))) : Int))) then
    if (0 : Int) ≤ t6 ∧ t6 < (((List.length (o0.2.1 : (List Int))) : Nat) : Int) then
    bif (decide ((List.getD (o0.2.1 : (List Int)) (Int.toNat t6) (0 : Int) : Int) = t1)) then
      if (List.length o3) + 1 ≤ 1048576 then
      innkeepref12_Present.l0 n m0 t0 t1 t4 (IntKind.wrap .i64 (t6 + 1)) o0 (o3 ++ ([t6] : List Int))
      else none
    else
      innkeepref12_Present.l0 n m0 t0 t1 t4 (IntKind.wrap .i64 (t6 + 1)) o0 o3
    else none
  else
    some ((o3, ()), [(0, [])]) := by kernel_rfl
theorem innkeepref12_Present.eq (n : Nat) (a0 : (den tWorld)) (a1 : Int) : innkeepref12_Present (n + 1) a0 a1 =
  innkeepref12_Present.l0 n n a0 a1 ([] : List Int) 0 a0 ([] : List Int) := by kernel_rfl
def innkeepref07_Root.res : List Sh := [.d tPlace]
@[reducible] def innkeepref07_Root.R : Type := dShL [.d tPlace] × Fresh
def innkeepref07_Root (n : Nat) (a0 : (den tWorld)) (a1 : Int) : Option innkeepref07_Root.R := gc n 36 [.dat tWorld a0 [], .dat (.int .i64) a1 []] [.d tPlace]
theorem innkeepref07_Root.eq (n : Nat) (a0 : (den tWorld)) (a1 : Int) : innkeepref07_Root (n + 1) a0 a1 =
  if (0 : Int) ≤ a1 ∧ a1 < (((List.length (a0.2.2.2.1 : (List (den tPlace)))) : Nat) : Int) then
  bif (!(decide (((List.getD (a0.2.2.2.1 : (List (den tPlace))) (Int.toNat a1) (dft tPlace) : (den tPlace)).1 : Int) = 2))) then
    some (((List.getD (a0.2.2.2.1 : (List (den tPlace))) (Int.toNat a1) (dft tPlace) : (den tPlace)), ()), [])
  else
    Option.bind (innkeepref07_Root n a0 ((List.getD (a0.2.2.2.1 : (List (den tPlace))) (Int.toNat a1) (dft tPlace) : (den tPlace)).2.1 : Int)) fun r1 =>
    some ((r1.1.1, ()), [])
  else none := by kernel_rfl
def innkeepref07_Under.res : List Sh := [.d (.sl tSeen)]
@[reducible] def innkeepref07_Under.R : Type := dShL [.d (.sl tSeen)] × Fresh
def innkeepref07_Under (n : Nat) (a0 : (den tWorld)) (a1 : (den tPlace)) : Option innkeepref07_Under.R := gc n 26 [.dat tWorld a0 [], .dat tPlace a1 []] [.d (.sl tSeen)]
def innkeepref07_Under.l0 (n m0 : Nat) (t0 : (den tWorld)) (t1 : (den tPlace)) (t4 : (List (den tSeen))) (t6 : Int) (o0 : (den tWorld)) (o1 : (den tPlace)) (o4 : (List (den tSeen))) : Option innkeepref07_Under.R :=
  loopN (fun Kn K s h => run (gc n) n innkeepref07_Under.c4 Kn K s h) m0 (kBlk 0 (kSeq (run (gc n) n) innkeepref07_Under.c2 (retK innkeepref07_Under.fn innkeepref07_Under.res) (retK innkeepref07_Under.fn innkeepref07_Under.res)) (retK innkeepref07_Under.fn innkeepref07_Under.res))
    [(0, .dat tWorld t0 []), (1, .dat tPlace t1 []), (2, .ptr 0 []), (3, .ptr 1 []), (4, .dat (.sl tSeen) t4 []), (5, .dat (.sl tSeen) ([] : List (den tSeen)) [([], some 4)]), (6, .dat (.int .i64) t6 [])]
    [.box tWorld o0 [], .box tPlace o1 [], .none, .none, .arr tSeen o4]
theorem innkeepref07_Under.l0_eq (n m0 : Nat) (t0 : (den tWorld)) (t1 : (den tPlace)) (t4 : (List (den tSeen))) (t6 : Int) (o0 : (den tWorld)) (o1 : (den tPlace)) (o4 : (List (den tSeen))) : innkeepref07_Under.l0 n (m0 + 1) t0 t1 t4 t6 o0 o1 o4 =
  bif (decide (t6 < ((List.length (o0.2.2.2.1 : (List (den tPlace)))) : Int))) then
    Option.bind (innkeepref07_Root n o0 t6) fun r1 =>
    bif (eqT tPlace r1.1.1 o1) then
      if (0 : Int) ≤ t6 ∧ t6 < (((List.length (o0.2.2.2.1 : (List (den tPlace)))) : Nat) : Int) then
      if (List.length o4) + 1 ≤ 1048576 then
      innkeepref07_Under.l0 n m0 t0 t1 t4 (IntKind.wrap .i64 (t6 + 1)) o0 o1 (o4 ++ ([(t6, (List.getD (o0.2.2.2.1 : (List (den tPlace))) (Int.toNat t6) (dft tPlace) : (den tPlace)), ())] : List (den tSeen)))
      else none
      else none
    else
      innkeepref07_Under.l0 n m0 t0 t1 t4 (IntKind.wrap .i64 (t6 + 1)) o0 o1 o4
  else
    some ((o4, ()), [(0, [])]) := by kernel_rfl
theorem innkeepref07_Under.eq (n : Nat) (a0 : (den tWorld)) (a1 : (den tPlace)) : innkeepref07_Under (n + 1) a0 a1 =
  innkeepref07_Under.l0 n n a0 a1 ([] : List (den tSeen)) 0 a0 a1 ([] : List (den tSeen)) := by kernel_rfl
def innkeepref12_Look.res : List Sh := [.d tReply]
@[reducible] def innkeepref12_Look.R : Type := dShL [.d tReply] × Fresh
def innkeepref12_Look (n : Nat) (a0 : (den tWorld)) (a1 : Int) : Option innkeepref12_Look.R := gc n 12 [.dat tWorld a0 [], .dat (.int .i64) a1 []] [.d tReply]
theorem innkeepref12_Look.eq (n : Nat) (a0 : (den tWorld)) (a1 : Int) : innkeepref12_Look (n + 1) a0 a1 =
  if (0 : Int) ≤ a1 ∧ a1 < (((List.length (a0.2.1 : (List Int))) : Nat) : Int) then
  if (0 : Int) ≤ a1 ∧ a1 < (((List.length (a0.2.1 : (List Int))) : Nat) : Int) then
  Option.bind (innkeepref12_Present n a0 (List.getD (a0.2.1 : (List Int)) (Int.toNat a1) (0 : Int) : Int)) fun r1 =>
  if (0 : Int) ≤ a1 ∧ a1 < (((List.length (a0.2.1 : (List Int))) : Nat) : Int) then
  Option.bind (innkeepref07_Under n a0 (0, (List.getD (a0.2.1 : (List Int)) (Int.toNat a1) (0 : Int) : Int), ())) fun r2 =>
  some (((0, 9, (List.getD (a0.2.1 : (List Int)) (Int.toNat a1) (0 : Int) : Int), (r1.1.1 : (List Int)), (r2.1.1 : (List (den tSeen))), 0, ()), ()), [])
  else none
  else none
  else none := by kernel_rfl
def innkeepref12_Own.res : List Sh := [.d tReply]
@[reducible] def innkeepref12_Own.R : Type := dShL [.d tReply] × Fresh
def innkeepref12_Own (n : Nat) (a0 : (den tWorld)) (a1 : Int) : Option innkeepref12_Own.R := gc n 14 [.dat tWorld a0 [], .dat (.int .i64) a1 []] [.d tReply]
theorem innkeepref12_Own.eq (n : Nat) (a0 : (den tWorld)) (a1 : Int) : innkeepref12_Own (n + 1) a0 a1 =
  if (0 : Int) ≤ a1 ∧ a1 < (((List.length (a0.2.2.1 : (List Int))) : Nat) : Int) then
  Option.bind (innkeepref07_Under n a0 (1, a1, ())) fun r1 =>
  some (((0, 10, 0, ([] : List Int), (r1.1.1 : (List (den tSeen))), (List.getD (a0.2.2.1 : (List Int)) (Int.toNat a1) (0 : Int) : Int), ()), ()), [])
  else none := by kernel_rfl
def innkeeplaw12_SightTells.res : List Sh := [.d .bool]
@[reducible] def innkeeplaw12_SightTells.R : Type := dShL [.d .bool] × Fresh
def innkeeplaw12_SightTells (n : Nat) (a0 : (den tWorld)) (a1 : Int) (a2 : Int) : Option innkeeplaw12_SightTells.R := gc n 3 [.dat tWorld a0 [], .dat (.int .u8) a1 [], .dat (.int .u8) a2 []] [.d .bool]
theorem innkeeplaw12_SightTells.eq (n : Nat) (a0 : (den tWorld)) (a1 : Int) (a2 : Int) : innkeeplaw12_SightTells (n + 1) a0 a1 a2 =
  Option.bind (innkeeplaw12_awake n) fun r1 =>
  bif (!(r1.1.1 : Bool)) then
    Option.bind (innkeeplaw12_awake n) fun r2 =>
    some (((r2.1.1 : Bool), ()), [])
  else
    Option.bind (innkeeplaw12_fits n a0) fun r3 =>
    bif (!(r3.1.1 : Bool)) then
      Option.bind (innkeeplaw12_awake n) fun r4 =>
      some (((r4.1.1 : Bool), ()), [])
    else
      if ((List.length (a0.2.1 : (List Int))) : Int) = 0 then none else
      if ((List.length (a0.1.1 : (List (List Int)))) : Int) = 0 then none else
      Option.bind (sight_Look n a0 (Int.tmod (IntKind.wrap .i64 (a1)) ((List.length (a0.2.1 : (List Int))) : Int))) fun r5 =>
      Option.bind (innkeepref12_Look n a0 (Int.tmod (IntKind.wrap .i64 (a1)) ((List.length (a0.2.1 : (List Int))) : Int))) fun r6 =>
      Option.bind (innkeepref05_Same n r5.1.1 r6.1.1) fun r7 =>
      bif (r7.1.1 : Bool) then
        Option.bind (sight_Own n a0 (Int.tmod (IntKind.wrap .i64 (a1)) ((List.length (a0.2.1 : (List Int))) : Int))) fun r8 =>
        Option.bind (innkeepref12_Own n a0 (Int.tmod (IntKind.wrap .i64 (a1)) ((List.length (a0.2.1 : (List Int))) : Int))) fun r9 =>
        Option.bind (innkeepref05_Same n r8.1.1 r9.1.1) fun r10 =>
        bif (r10.1.1 : Bool) then
          Option.bind (sight_Present n a0 (Int.tmod (IntKind.wrap .i64 (a2)) ((List.length (a0.1.1 : (List (List Int)))) : Int))) fun r11 =>
          Option.bind (innkeepref12_Present n a0 (Int.tmod (IntKind.wrap .i64 (a2)) ((List.length (a0.1.1 : (List (List Int)))) : Int))) fun r12 =>
          Option.bind (innkeepref03_Ints n (r11.1.1 : (List Int)) (r12.1.1 : (List Int))) fun r13 =>
          some (((r13.1.1 : Bool), ()), [])
        else
          some ((false, ()), [])
      else
        some ((false, ()), []) := by kernel_rfl
def innkeepref05_fit.res : List Sh := [.d .bool]
@[reducible] def innkeepref05_fit.R : Type := dShL [.d .bool] × Fresh
def innkeepref05_fit (n : Nat) (a0 : Int) : Option innkeepref05_fit.R := gc n 27 [.dat (.int .i64) a0 []] [.d .bool]
theorem innkeepref05_fit.eq (n : Nat) (a0 : Int) : innkeepref05_fit (n + 1) a0 =
  bif (decide (0 ≤ a0)) then
    some (((decide (a0 ≤ 1073741824)), ()), [])
  else
    some ((false, ()), []) := by kernel_rfl
def innkeepref05_May.res : List Sh := [.d .bool]
@[reducible] def innkeepref05_May.R : Type := dShL [.d .bool] × Fresh
def innkeepref05_May (n : Nat) (a0 : (den tReply)) : Option innkeepref05_May.R := gc n 18 [.dat tReply a0 []] [.d .bool]
def innkeepref05_May.l0 (n m0 : Nat) (t0 : (den tReply)) (t2 : Bool) (t3 : Int) (t4 : Int) (o0 : (den tReply)) : Option innkeepref05_May.R :=
  loopN (fun Kn K s h => run (gc n) n innkeepref05_May.c24 Kn K s h) m0 (kBlk 0 (kSeq (run (gc n) n) innkeepref05_May.c22 (retK innkeepref05_May.fn innkeepref05_May.res) (retK innkeepref05_May.fn innkeepref05_May.res)) (retK innkeepref05_May.fn innkeepref05_May.res))
    [(0, .dat tReply t0 []), (1, .ptr 0 []), (2, .dat .bool t2 []), (3, .dat (.int .i64) t3 []), (4, .dat (.int .i64) t4 [])]
    [.box tReply o0 []]
def innkeepref05_May.l1 (n m0 : Nat) (t0_1 : (den tReply)) (t2_1 : Bool) (t3_1 : Int) (t4_1 : Int) (t5_1 : Int) (o0_1 : (den tReply)) : Option innkeepref05_May.R :=
  loopN (fun Kn K s h => run (gc n) n innkeepref05_May.c40 Kn K s h) m0 (kBlk 2 (kSeq (run (gc n) n) innkeepref05_May.c38 (retK innkeepref05_May.fn innkeepref05_May.res) (retK innkeepref05_May.fn innkeepref05_May.res)) (retK innkeepref05_May.fn innkeepref05_May.res))
    [(0, .dat tReply t0_1 []), (1, .ptr 0 []), (2, .dat .bool t2_1 []), (3, .dat (.int .i64) t3_1 []), (4, .dat (.int .i64) t4_1 []), (5, .dat (.int .i64) t5_1 [])]
    [.box tReply o0_1 []]
theorem innkeepref05_May.l0_eq (n m0 : Nat) (t0 : (den tReply)) (t2 : Bool) (t3 : Int) (t4 : Int) (o0 : (den tReply)) : innkeepref05_May.l0 n (m0 + 1) t0 t2 t3 t4 o0 =
  bif (decide (t4 < ((List.length (o0.2.2.2.1 : (List Int))) : Int))) then
    if (0 : Int) ≤ t4 ∧ t4 < (((List.length (o0.2.2.2.1 : (List Int))) : Nat) : Int) then
    Option.bind (innkeepref05_fit n (List.getD (o0.2.2.2.1 : (List Int)) (Int.toNat t4) (0 : Int) : Int)) fun r4 =>
    bif (!(r4.1.1 : Bool)) then
      some ((false, ()), [])
    else
      innkeepref05_May.l0 n m0 t0 t2 t3 (IntKind.wrap .i64 (t4 + 1)) o0
    else none
  else
    innkeepref05_May.l1 n n t0 t2 t3 t4 0 o0 := by kernel_rfl
theorem innkeepref05_May.l1_eq (n m0 : Nat) (t0_1 : (den tReply)) (t2_1 : Bool) (t3_1 : Int) (t4_1 : Int) (t5_1 : Int) (o0_1 : (den tReply)) : innkeepref05_May.l1 n (m0 + 1) t0_1 t2_1 t3_1 t4_1 t5_1 o0_1 =
  bif (decide (t5_1 < ((List.length (o0_1.2.2.2.2.1 : (List (den tSeen)))) : Int))) then
    if (0 : Int) ≤ t5_1 ∧ t5_1 < (((List.length (o0_1.2.2.2.2.1 : (List (den tSeen)))) : Nat) : Int) then
    Option.bind (innkeepref05_fit n ((List.getD (o0_1.2.2.2.2.1 : (List (den tSeen))) (Int.toNat t5_1) (dft tSeen) : (den tSeen)).1 : Int)) fun r5 =>
    bif (!(r5.1.1 : Bool)) then
      some ((false, ()), [])
    else
      Option.bind (innkeepref05_fit n (((List.getD (o0_1.2.2.2.2.1 : (List (den tSeen))) (Int.toNat t5_1) (dft tSeen) : (den tSeen)).2.1).2.1 : Int)) fun r6 =>
      bif (!(r6.1.1 : Bool)) then
        some ((false, ()), [])
      else
        bif (!(decide ((((List.getD (o0_1.2.2.2.2.1 : (List (den tSeen))) (Int.toNat t5_1) (dft tSeen) : (den tSeen)).2.1).1 : Int) = 0))) then
          bif (!(decide ((((List.getD (o0_1.2.2.2.2.1 : (List (den tSeen))) (Int.toNat t5_1) (dft tSeen) : (den tSeen)).2.1).1 : Int) = 1))) then
            bif (!(decide ((((List.getD (o0_1.2.2.2.2.1 : (List (den tSeen))) (Int.toNat t5_1) (dft tSeen) : (den tSeen)).2.1).1 : Int) = 2))) then
              some ((false, ()), [])
            else
              innkeepref05_May.l1 n m0 t0_1 t2_1 t3_1 t4_1 (IntKind.wrap .i64 (t5_1 + 1)) o0_1
          else
            innkeepref05_May.l1 n m0 t0_1 t2_1 t3_1 t4_1 (IntKind.wrap .i64 (t5_1 + 1)) o0_1
        else
          innkeepref05_May.l1 n m0 t0_1 t2_1 t3_1 t4_1 (IntKind.wrap .i64 (t5_1 + 1)) o0_1
    else none
  else
    bif (decide (t3_1 = 1)) then
      bif (decide (t3_1 = 9)) then
        bif (decide (9 ≤ t3_1)) then
          bif (decide (t3_1 = 10)) then
            some ((true, ()), [])
          else
            some (((decide ((o0_1.2.2.2.2.2.1 : Int) = 0)), ()), [])
        else
          bif (decide (((List.length (o0_1.2.2.2.2.1 : (List (den tSeen)))) : Int) = 0)) then
            bif (decide (t3_1 = 10)) then
              some ((true, ()), [])
            else
              some (((decide ((o0_1.2.2.2.2.2.1 : Int) = 0)), ()), [])
          else
            some ((false, ()), [])
      else
        bif (decide (((List.length (o0_1.2.2.2.1 : (List Int))) : Int) = 0)) then
          bif (decide (9 ≤ t3_1)) then
            bif (decide (t3_1 = 10)) then
              some ((true, ()), [])
            else
              some (((decide ((o0_1.2.2.2.2.2.1 : Int) = 0)), ()), [])
          else
            bif (decide (((List.length (o0_1.2.2.2.2.1 : (List (den tSeen)))) : Int) = 0)) then
              bif (decide (t3_1 = 10)) then
                some ((true, ()), [])
              else
                some (((decide ((o0_1.2.2.2.2.2.1 : Int) = 0)), ()), [])
            else
              some ((false, ()), [])
        else
          some ((false, ()), [])
    else
      bif (decide (t3_1 = 2)) then
        bif (decide (t3_1 = 9)) then
          bif (decide (9 ≤ t3_1)) then
            bif (decide (t3_1 = 10)) then
              some ((true, ()), [])
            else
              some (((decide ((o0_1.2.2.2.2.2.1 : Int) = 0)), ()), [])
          else
            bif (decide (((List.length (o0_1.2.2.2.2.1 : (List (den tSeen)))) : Int) = 0)) then
              bif (decide (t3_1 = 10)) then
                some ((true, ()), [])
              else
                some (((decide ((o0_1.2.2.2.2.2.1 : Int) = 0)), ()), [])
            else
              some ((false, ()), [])
        else
          bif (decide (((List.length (o0_1.2.2.2.1 : (List Int))) : Int) = 0)) then
            bif (decide (9 ≤ t3_1)) then
              bif (decide (t3_1 = 10)) then
                some ((true, ()), [])
              else
                some (((decide ((o0_1.2.2.2.2.2.1 : Int) = 0)), ()), [])
            else
              bif (decide (((List.length (o0_1.2.2.2.2.1 : (List (den tSeen)))) : Int) = 0)) then
                bif (decide (t3_1 = 10)) then
                  some ((true, ()), [])
                else
                  some (((decide ((o0_1.2.2.2.2.2.1 : Int) = 0)), ()), [])
              else
                some ((false, ()), [])
          else
            some ((false, ()), [])
      else
        bif (decide (t3_1 = 9)) then
          bif (decide (t3_1 = 9)) then
            bif (decide (9 ≤ t3_1)) then
              bif (decide (t3_1 = 10)) then
                some ((true, ()), [])
              else
                some (((decide ((o0_1.2.2.2.2.2.1 : Int) = 0)), ()), [])
            else
              bif (decide (((List.length (o0_1.2.2.2.2.1 : (List (den tSeen)))) : Int) = 0)) then
                bif (decide (t3_1 = 10)) then
                  some ((true, ()), [])
                else
                  some (((decide ((o0_1.2.2.2.2.2.1 : Int) = 0)), ()), [])
              else
                some ((false, ()), [])
          else
            bif (decide (((List.length (o0_1.2.2.2.1 : (List Int))) : Int) = 0)) then
              bif (decide (9 ≤ t3_1)) then
                bif (decide (t3_1 = 10)) then
                  some ((true, ()), [])
                else
                  some (((decide ((o0_1.2.2.2.2.2.1 : Int) = 0)), ()), [])
              else
                bif (decide (((List.length (o0_1.2.2.2.2.1 : (List (den tSeen)))) : Int) = 0)) then
                  bif (decide (t3_1 = 10)) then
                    some ((true, ()), [])
                  else
                    some (((decide ((o0_1.2.2.2.2.2.1 : Int) = 0)), ()), [])
                else
                  some ((false, ()), [])
            else
              some ((false, ()), [])
        else
          bif (decide ((o0_1.2.2.1 : Int) = 0)) then
            bif (decide (t3_1 = 9)) then
              bif (decide (9 ≤ t3_1)) then
                bif (decide (t3_1 = 10)) then
                  some ((true, ()), [])
                else
                  some (((decide ((o0_1.2.2.2.2.2.1 : Int) = 0)), ()), [])
              else
                bif (decide (((List.length (o0_1.2.2.2.2.1 : (List (den tSeen)))) : Int) = 0)) then
                  bif (decide (t3_1 = 10)) then
                    some ((true, ()), [])
                  else
                    some (((decide ((o0_1.2.2.2.2.2.1 : Int) = 0)), ()), [])
                else
                  some ((false, ()), [])
            else
              bif (decide (((List.length (o0_1.2.2.2.1 : (List Int))) : Int) = 0)) then
                bif (decide (9 ≤ t3_1)) then
                  bif (decide (t3_1 = 10)) then
                    some ((true, ()), [])
                  else
                    some (((decide ((o0_1.2.2.2.2.2.1 : Int) = 0)), ()), [])
                else
                  bif (decide (((List.length (o0_1.2.2.2.2.1 : (List (den tSeen)))) : Int) = 0)) then
                    bif (decide (t3_1 = 10)) then
                      some ((true, ()), [])
                    else
                      some (((decide ((o0_1.2.2.2.2.2.1 : Int) = 0)), ()), [])
                  else
                    some ((false, ()), [])
              else
                some ((false, ()), [])
          else
            some ((false, ()), []) := by kernel_rfl
theorem innkeepref05_May.eq (n : Nat) (a0 : (den tReply)) : innkeepref05_May (n + 1) a0 =
  bif (decide ((a0.1 : Int) < 0)) then
    some ((false, ()), [])
  else
    bif (decide (13 < (a0.1 : Int))) then
      some ((false, ()), [])
    else
      bif (!(decide ((a0.1 : Int) = 0))) then
        Option.bind (innkeepref05_Same n a0 ((a0.1 : Int), 0, 0, ([] : List Int), ([] : List (den tSeen)), 0, ())) fun r1 =>
        some (((r1.1.1 : Bool), ()), [])
      else
        bif (decide ((a0.2.1 : Int) < 1)) then
          some ((false, ()), [])
        else
          bif (decide (10 < (a0.2.1 : Int))) then
            some ((false, ()), [])
          else
            Option.bind (innkeepref05_fit n (a0.2.2.1 : Int)) fun r2 =>
            bif (!(r2.1.1 : Bool)) then
              some ((false, ()), [])
            else
              Option.bind (innkeepref05_fit n (a0.2.2.2.2.2.1 : Int)) fun r3 =>
              bif (!(r3.1.1 : Bool)) then
                some ((false, ()), [])
              else
                bif (decide (16 < ((List.length (a0.2.2.2.1 : (List Int))) : Int))) then
                  some ((false, ()), [])
                else
                  bif (decide (16 < ((List.length (a0.2.2.2.2.1 : (List (den tSeen)))) : Int))) then
                    some ((false, ()), [])
                  else
                    innkeepref05_May.l0 n n a0 false (a0.2.1 : Int) 0 a0 := by kernel_rfl
def innkeeplaw12_SightAll.res : List Sh := [.d .bool]
@[reducible] def innkeeplaw12_SightAll.R : Type := dShL [.d .bool] × Fresh
def innkeeplaw12_SightAll (n : Nat) (a0 : (den tWorld)) : Option innkeeplaw12_SightAll.R := gc n 4 [.dat tWorld a0 []] [.d .bool]
def innkeeplaw12_SightAll.l0 (n m0 : Nat) (t0 : (den tWorld)) (t2 : Bool) (t4 : Int) (t5 : Int) (o0 : (den tWorld)) (o1 : (List Int)) : Option innkeeplaw12_SightAll.R :=
  loopN (fun Kn K s h => run (gc n) n innkeeplaw12_SightAll.c13 Kn K s h) m0 (kBlk 0 (kSeq (run (gc n) n) innkeeplaw12_SightAll.c11 (retK innkeeplaw12_SightAll.fn innkeeplaw12_SightAll.res) (retK innkeeplaw12_SightAll.fn innkeeplaw12_SightAll.res)) (retK innkeeplaw12_SightAll.fn innkeeplaw12_SightAll.res))
    [(0, .dat tWorld t0 []), (1, .ptr 0 []), (2, .dat .bool t2 []), (3, .dat (.sl (.int .i64)) ([] : List Int) [([], some 1)]), (4, .dat (.int .i64) t4 []), (5, .dat (.int .i64) t5 [])]
    [.box tWorld o0 [], .arr (.int .i64) o1]
def innkeeplaw12_SightAll.l1 (n m0 m1 : Nat) (t0_1 : (den tWorld)) (t2_1 : Bool) (t4_1 : Int) (t5_1 : Int) (t6_1 : (List Int)) (t7_1 : Int) (o0_1 : (den tWorld)) (o1_1 : (List Int)) : Option innkeeplaw12_SightAll.R :=
  loopN (fun Kn K s h => run (gc n) n innkeeplaw12_SightAll.c25 Kn K s h) m1 (kBlk 2 (kSeq (run (gc n) n) innkeeplaw12_SightAll.c19 (kSeq (run (gc n) n) innkeeplaw12_SightAll.c14 (fun _ s h => loopN (fun Kn K s h => run (gc n) n innkeeplaw12_SightAll.c13 Kn K s h) m0 (kBlk 0 (kSeq (run (gc n) n) innkeeplaw12_SightAll.c11 (retK innkeeplaw12_SightAll.fn innkeeplaw12_SightAll.res) (retK innkeeplaw12_SightAll.fn innkeeplaw12_SightAll.res)) (retK innkeeplaw12_SightAll.fn innkeeplaw12_SightAll.res)) s h) (kBlk 0 (kSeq (run (gc n) n) innkeeplaw12_SightAll.c11 (retK innkeeplaw12_SightAll.fn innkeeplaw12_SightAll.res) (retK innkeeplaw12_SightAll.fn innkeeplaw12_SightAll.res)) (retK innkeeplaw12_SightAll.fn innkeeplaw12_SightAll.res))) (kBlk 0 (kSeq (run (gc n) n) innkeeplaw12_SightAll.c11 (retK innkeeplaw12_SightAll.fn innkeeplaw12_SightAll.res) (retK innkeeplaw12_SightAll.fn innkeeplaw12_SightAll.res)) (retK innkeeplaw12_SightAll.fn innkeeplaw12_SightAll.res))) (kBlk 1 (kSeq (run (gc n) n) innkeeplaw12_SightAll.c19 (kSeq (run (gc n) n) innkeeplaw12_SightAll.c14 (fun _ s h => loopN (fun Kn K s h => run (gc n) n innkeeplaw12_SightAll.c13 Kn K s h) m0 (kBlk 0 (kSeq (run (gc n) n) innkeeplaw12_SightAll.c11 (retK innkeeplaw12_SightAll.fn innkeeplaw12_SightAll.res) (retK innkeeplaw12_SightAll.fn innkeeplaw12_SightAll.res)) (retK innkeeplaw12_SightAll.fn innkeeplaw12_SightAll.res)) s h) (kBlk 0 (kSeq (run (gc n) n) innkeeplaw12_SightAll.c11 (retK innkeeplaw12_SightAll.fn innkeeplaw12_SightAll.res) (retK innkeeplaw12_SightAll.fn innkeeplaw12_SightAll.res)) (retK innkeeplaw12_SightAll.fn innkeeplaw12_SightAll.res))) (kBlk 0 (kSeq (run (gc n) n) innkeeplaw12_SightAll.c11 (retK innkeeplaw12_SightAll.fn innkeeplaw12_SightAll.res) (retK innkeeplaw12_SightAll.fn innkeeplaw12_SightAll.res)) (retK innkeeplaw12_SightAll.fn innkeeplaw12_SightAll.res))) (kBlk 0 (kSeq (run (gc n) n) innkeeplaw12_SightAll.c11 (retK innkeeplaw12_SightAll.fn innkeeplaw12_SightAll.res) (retK innkeeplaw12_SightAll.fn innkeeplaw12_SightAll.res)) (retK innkeeplaw12_SightAll.fn innkeeplaw12_SightAll.res))))
    [(0, .dat tWorld t0_1 []), (1, .ptr 0 []), (2, .dat .bool t2_1 []), (3, .dat (.sl (.int .i64)) ([] : List Int) [([], some 1)]), (4, .dat (.int .i64) t4_1 []), (5, .dat (.int .i64) t5_1 []), (6, .dat (.sl (.int .i64)) t6_1 []), (7, .dat (.int .i64) t7_1 [])]
    [.box tWorld o0_1 [], .arr (.int .i64) o1_1]
def innkeeplaw12_SightAll.l2 (n m0 m1 m2 : Nat) (t0_2 : (den tWorld)) (t2_2 : Bool) (t4_2 : Int) (t5_2 : Int) (t6_2 : (List Int)) (t7_2 : Int) (t9_2 : Int) (o0_2 : (den tWorld)) (o1_2 : (List Int)) (o2_2 : (den tReply)) : Option innkeeplaw12_SightAll.R :=
  loopN (fun Kn K s h => run (gc n) n innkeeplaw12_SightAll.c47 Kn K s h) m2 (kBlk 4 (kSeq (run (gc n) n) innkeeplaw12_SightAll.c31 (kSeq (run (gc n) n) innkeeplaw12_SightAll.c26 (fun _ s h => loopN (fun Kn K s h => run (gc n) n innkeeplaw12_SightAll.c25 Kn K s h) m1 (kBlk 2 (kSeq (run (gc n) n) innkeeplaw12_SightAll.c19 (kSeq (run (gc n) n) innkeeplaw12_SightAll.c14 (fun _ s h => loopN (fun Kn K s h => run (gc n) n innkeeplaw12_SightAll.c13 Kn K s h) m0 (kBlk 0 (kSeq (run (gc n) n) innkeeplaw12_SightAll.c11 (retK innkeeplaw12_SightAll.fn innkeeplaw12_SightAll.res) (retK innkeeplaw12_SightAll.fn innkeeplaw12_SightAll.res)) (retK innkeeplaw12_SightAll.fn innkeeplaw12_SightAll.res)) s h) (kBlk 0 (kSeq (run (gc n) n) innkeeplaw12_SightAll.c11 (retK innkeeplaw12_SightAll.fn innkeeplaw12_SightAll.res) (retK innkeeplaw12_SightAll.fn innkeeplaw12_SightAll.res)) (retK innkeeplaw12_SightAll.fn innkeeplaw12_SightAll.res))) (kBlk 0 (kSeq (run (gc n) n) innkeeplaw12_SightAll.c11 (retK innkeeplaw12_SightAll.fn innkeeplaw12_SightAll.res) (retK innkeeplaw12_SightAll.fn innkeeplaw12_SightAll.res)) (retK innkeeplaw12_SightAll.fn innkeeplaw12_SightAll.res))) (kBlk 1 (kSeq (run (gc n) n) innkeeplaw12_SightAll.c19 (kSeq (run (gc n) n) innkeeplaw12_SightAll.c14 (fun _ s h => loopN (fun Kn K s h => run (gc n) n innkeeplaw12_SightAll.c13 Kn K s h) m0 (kBlk 0 (kSeq (run (gc n) n) innkeeplaw12_SightAll.c11 (retK innkeeplaw12_SightAll.fn innkeeplaw12_SightAll.res) (retK innkeeplaw12_SightAll.fn innkeeplaw12_SightAll.res)) (retK innkeeplaw12_SightAll.fn innkeeplaw12_SightAll.res)) s h) (kBlk 0 (kSeq (run (gc n) n) innkeeplaw12_SightAll.c11 (retK innkeeplaw12_SightAll.fn innkeeplaw12_SightAll.res) (retK innkeeplaw12_SightAll.fn innkeeplaw12_SightAll.res)) (retK innkeeplaw12_SightAll.fn innkeeplaw12_SightAll.res))) (kBlk 0 (kSeq (run (gc n) n) innkeeplaw12_SightAll.c11 (retK innkeeplaw12_SightAll.fn innkeeplaw12_SightAll.res) (retK innkeeplaw12_SightAll.fn innkeeplaw12_SightAll.res)) (retK innkeeplaw12_SightAll.fn innkeeplaw12_SightAll.res))) (kBlk 0 (kSeq (run (gc n) n) innkeeplaw12_SightAll.c11 (retK innkeeplaw12_SightAll.fn innkeeplaw12_SightAll.res) (retK innkeeplaw12_SightAll.fn innkeeplaw12_SightAll.res)) (retK innkeeplaw12_SightAll.fn innkeeplaw12_SightAll.res)))) s h) (kBlk 2 (kSeq (run (gc n) n) innkeeplaw12_SightAll.c19 (kSeq (run (gc n) n) innkeeplaw12_SightAll.c14 (fun _ s h => loopN (fun Kn K s h => run (gc n) n innkeeplaw12_SightAll.c13 Kn K s h) m0 (kBlk 0 (kSeq (run (gc n) n) innkeeplaw12_SightAll.c11 (retK innkeeplaw12_SightAll.fn innkeeplaw12_SightAll.res) (retK innkeeplaw12_SightAll.fn innkeeplaw12_SightAll.res)) (retK innkeeplaw12_SightAll.fn innkeeplaw12_SightAll.res)) s h) (kBlk 0 (kSeq (run (gc n) n) innkeeplaw12_SightAll.c11 (retK innkeeplaw12_SightAll.fn innkeeplaw12_SightAll.res) (retK innkeeplaw12_SightAll.fn innkeeplaw12_SightAll.res)) (retK innkeeplaw12_SightAll.fn innkeeplaw12_SightAll.res))) (kBlk 0 (kSeq (run (gc n) n) innkeeplaw12_SightAll.c11 (retK innkeeplaw12_SightAll.fn innkeeplaw12_SightAll.res) (retK innkeeplaw12_SightAll.fn innkeeplaw12_SightAll.res)) (retK innkeeplaw12_SightAll.fn innkeeplaw12_SightAll.res))) (kBlk 1 (kSeq (run (gc n) n) innkeeplaw12_SightAll.c19 (kSeq (run (gc n) n) innkeeplaw12_SightAll.c14 (fun _ s h => loopN (fun Kn K s h => run (gc n) n innkeeplaw12_SightAll.c13 Kn K s h) m0 (kBlk 0 (kSeq (run (gc n) n) innkeeplaw12_SightAll.c11 (retK innkeeplaw12_SightAll.fn innkeeplaw12_SightAll.res) (retK innkeeplaw12_SightAll.fn innkeeplaw12_SightAll.res)) (retK innkeeplaw12_SightAll.fn innkeeplaw12_SightAll.res)) s h) (kBlk 0 (kSeq (run (gc n) n) innkeeplaw12_SightAll.c11 (retK innkeeplaw12_SightAll.fn innkeeplaw12_SightAll.res) (retK innkeeplaw12_SightAll.fn innkeeplaw12_SightAll.res)) (retK innkeeplaw12_SightAll.fn innkeeplaw12_SightAll.res))) (kBlk 0 (kSeq (run (gc n) n) innkeeplaw12_SightAll.c11 (retK innkeeplaw12_SightAll.fn innkeeplaw12_SightAll.res) (retK innkeeplaw12_SightAll.fn innkeeplaw12_SightAll.res)) (retK innkeeplaw12_SightAll.fn innkeeplaw12_SightAll.res))) (kBlk 0 (kSeq (run (gc n) n) innkeeplaw12_SightAll.c11 (retK innkeeplaw12_SightAll.fn innkeeplaw12_SightAll.res) (retK innkeeplaw12_SightAll.fn innkeeplaw12_SightAll.res)) (retK innkeeplaw12_SightAll.fn innkeeplaw12_SightAll.res))))) (kBlk 2 (kSeq (run (gc n) n) innkeeplaw12_SightAll.c19 (kSeq (run (gc n) n) innkeeplaw12_SightAll.c14 (fun _ s h => loopN (fun Kn K s h => run (gc n) n innkeeplaw12_SightAll.c13 Kn K s h) m0 (kBlk 0 (kSeq (run (gc n) n) innkeeplaw12_SightAll.c11 (retK innkeeplaw12_SightAll.fn innkeeplaw12_SightAll.res) (retK innkeeplaw12_SightAll.fn innkeeplaw12_SightAll.res)) (retK innkeeplaw12_SightAll.fn innkeeplaw12_SightAll.res)) s h) (kBlk 0 (kSeq (run (gc n) n) innkeeplaw12_SightAll.c11 (retK innkeeplaw12_SightAll.fn innkeeplaw12_SightAll.res) (retK innkeeplaw12_SightAll.fn innkeeplaw12_SightAll.res)) (retK innkeeplaw12_SightAll.fn innkeeplaw12_SightAll.res))) (kBlk 0 (kSeq (run (gc n) n) innkeeplaw12_SightAll.c11 (retK innkeeplaw12_SightAll.fn innkeeplaw12_SightAll.res) (retK innkeeplaw12_SightAll.fn innkeeplaw12_SightAll.res)) (retK innkeeplaw12_SightAll.fn innkeeplaw12_SightAll.res))) (kBlk 1 (kSeq (run (gc n) n) innkeeplaw12_SightAll.c19 (kSeq (run (gc n) n) innkeeplaw12_SightAll.c14 (fun _ s h => loopN (fun Kn K s h => run (gc n) n innkeeplaw12_SightAll.c13 Kn K s h) m0 (kBlk 0 (kSeq (run (gc n) n) innkeeplaw12_SightAll.c11 (retK innkeeplaw12_SightAll.fn innkeeplaw12_SightAll.res) (retK innkeeplaw12_SightAll.fn innkeeplaw12_SightAll.res)) (retK innkeeplaw12_SightAll.fn innkeeplaw12_SightAll.res)) s h) (kBlk 0 (kSeq (run (gc n) n) innkeeplaw12_SightAll.c11 (retK innkeeplaw12_SightAll.fn innkeeplaw12_SightAll.res) (retK innkeeplaw12_SightAll.fn innkeeplaw12_SightAll.res)) (retK innkeeplaw12_SightAll.fn innkeeplaw12_SightAll.res))) (kBlk 0 (kSeq (run (gc n) n) innkeeplaw12_SightAll.c11 (retK innkeeplaw12_SightAll.fn innkeeplaw12_SightAll.res) (retK innkeeplaw12_SightAll.fn innkeeplaw12_SightAll.res)) (retK innkeeplaw12_SightAll.fn innkeeplaw12_SightAll.res))) (kBlk 0 (kSeq (run (gc n) n) innkeeplaw12_SightAll.c11 (retK innkeeplaw12_SightAll.fn innkeeplaw12_SightAll.res) (retK innkeeplaw12_SightAll.fn innkeeplaw12_SightAll.res)) (retK innkeeplaw12_SightAll.fn innkeeplaw12_SightAll.res))))) (kBlk 3 (kSeq (run (gc n) n) innkeeplaw12_SightAll.c31 (kSeq (run (gc n) n) innkeeplaw12_SightAll.c26 (fun _ s h => loopN (fun Kn K s h => run (gc n) n innkeeplaw12_SightAll.c25 Kn K s h) m1 (kBlk 2 (kSeq (run (gc n) n) innkeeplaw12_SightAll.c19 (kSeq (run (gc n) n) innkeeplaw12_SightAll.c14 (fun _ s h => loopN (fun Kn K s h => run (gc n) n innkeeplaw12_SightAll.c13 Kn K s h) m0 (kBlk 0 (kSeq (run (gc n) n) innkeeplaw12_SightAll.c11 (retK innkeeplaw12_SightAll.fn innkeeplaw12_SightAll.res) (retK innkeeplaw12_SightAll.fn innkeeplaw12_SightAll.res)) (retK innkeeplaw12_SightAll.fn innkeeplaw12_SightAll.res)) s h) (kBlk 0 (kSeq (run (gc n) n) innkeeplaw12_SightAll.c11 (retK innkeeplaw12_SightAll.fn innkeeplaw12_SightAll.res) (retK innkeeplaw12_SightAll.fn innkeeplaw12_SightAll.res)) (retK innkeeplaw12_SightAll.fn innkeeplaw12_SightAll.res))) (kBlk 0 (kSeq (run (gc n) n) innkeeplaw12_SightAll.c11 (retK innkeeplaw12_SightAll.fn innkeeplaw12_SightAll.res) (retK innkeeplaw12_SightAll.fn innkeeplaw12_SightAll.res)) (retK innkeeplaw12_SightAll.fn innkeeplaw12_SightAll.res))) (kBlk 1 (kSeq (run (gc n) n) innkeeplaw12_SightAll.c19 (kSeq (run (gc n) n) innkeeplaw12_SightAll.c14 (fun _ s h => loopN (fun Kn K s h => run (gc n) n innkeeplaw12_SightAll.c13 Kn K s h) m0 (kBlk 0 (kSeq (run (gc n) n) innkeeplaw12_SightAll.c11 (retK innkeeplaw12_SightAll.fn innkeeplaw12_SightAll.res) (retK innkeeplaw12_SightAll.fn innkeeplaw12_SightAll.res)) (retK innkeeplaw12_SightAll.fn innkeeplaw12_SightAll.res)) s h) (kBlk 0 (kSeq (run (gc n) n) innkeeplaw12_SightAll.c11 (retK innkeeplaw12_SightAll.fn innkeeplaw12_SightAll.res) (retK innkeeplaw12_SightAll.fn innkeeplaw12_SightAll.res)) (retK innkeeplaw12_SightAll.fn innkeeplaw12_SightAll.res))) (kBlk 0 (kSeq (run (gc n) n) innkeeplaw12_SightAll.c11 (retK innkeeplaw12_SightAll.fn innkeeplaw12_SightAll.res) (retK innkeeplaw12_SightAll.fn innkeeplaw12_SightAll.res)) (retK innkeeplaw12_SightAll.fn innkeeplaw12_SightAll.res))) (kBlk 0 (kSeq (run (gc n) n) innkeeplaw12_SightAll.c11 (retK innkeeplaw12_SightAll.fn innkeeplaw12_SightAll.res) (retK innkeeplaw12_SightAll.fn innkeeplaw12_SightAll.res)) (retK innkeeplaw12_SightAll.fn innkeeplaw12_SightAll.res)))) s h) (kBlk 2 (kSeq (run (gc n) n) innkeeplaw12_SightAll.c19 (kSeq (run (gc n) n) innkeeplaw12_SightAll.c14 (fun _ s h => loopN (fun Kn K s h => run (gc n) n innkeeplaw12_SightAll.c13 Kn K s h) m0 (kBlk 0 (kSeq (run (gc n) n) innkeeplaw12_SightAll.c11 (retK innkeeplaw12_SightAll.fn innkeeplaw12_SightAll.res) (retK innkeeplaw12_SightAll.fn innkeeplaw12_SightAll.res)) (retK innkeeplaw12_SightAll.fn innkeeplaw12_SightAll.res)) s h) (kBlk 0 (kSeq (run (gc n) n) innkeeplaw12_SightAll.c11 (retK innkeeplaw12_SightAll.fn innkeeplaw12_SightAll.res) (retK innkeeplaw12_SightAll.fn innkeeplaw12_SightAll.res)) (retK innkeeplaw12_SightAll.fn innkeeplaw12_SightAll.res))) (kBlk 0 (kSeq (run (gc n) n) innkeeplaw12_SightAll.c11 (retK innkeeplaw12_SightAll.fn innkeeplaw12_SightAll.res) (retK innkeeplaw12_SightAll.fn innkeeplaw12_SightAll.res)) (retK innkeeplaw12_SightAll.fn innkeeplaw12_SightAll.res))) (kBlk 1 (kSeq (run (gc n) n) innkeeplaw12_SightAll.c19 (kSeq (run (gc n) n) innkeeplaw12_SightAll.c14 (fun _ s h => loopN (fun Kn K s h => run (gc n) n innkeeplaw12_SightAll.c13 Kn K s h) m0 (kBlk 0 (kSeq (run (gc n) n) innkeeplaw12_SightAll.c11 (retK innkeeplaw12_SightAll.fn innkeeplaw12_SightAll.res) (retK innkeeplaw12_SightAll.fn innkeeplaw12_SightAll.res)) (retK innkeeplaw12_SightAll.fn innkeeplaw12_SightAll.res)) s h) (kBlk 0 (kSeq (run (gc n) n) innkeeplaw12_SightAll.c11 (retK innkeeplaw12_SightAll.fn innkeeplaw12_SightAll.res) (retK innkeeplaw12_SightAll.fn innkeeplaw12_SightAll.res)) (retK innkeeplaw12_SightAll.fn innkeeplaw12_SightAll.res))) (kBlk 0 (kSeq (run (gc n) n) innkeeplaw12_SightAll.c11 (retK innkeeplaw12_SightAll.fn innkeeplaw12_SightAll.res) (retK innkeeplaw12_SightAll.fn innkeeplaw12_SightAll.res)) (retK innkeeplaw12_SightAll.fn innkeeplaw12_SightAll.res))) (kBlk 0 (kSeq (run (gc n) n) innkeeplaw12_SightAll.c11 (retK innkeeplaw12_SightAll.fn innkeeplaw12_SightAll.res) (retK innkeeplaw12_SightAll.fn innkeeplaw12_SightAll.res)) (retK innkeeplaw12_SightAll.fn innkeeplaw12_SightAll.res))))) (kBlk 2 (kSeq (run (gc n) n) innkeeplaw12_SightAll.c19 (kSeq (run (gc n) n) innkeeplaw12_SightAll.c14 (fun _ s h => loopN (fun Kn K s h => run (gc n) n innkeeplaw12_SightAll.c13 Kn K s h) m0 (kBlk 0 (kSeq (run (gc n) n) innkeeplaw12_SightAll.c11 (retK innkeeplaw12_SightAll.fn innkeeplaw12_SightAll.res) (retK innkeeplaw12_SightAll.fn innkeeplaw12_SightAll.res)) (retK innkeeplaw12_SightAll.fn innkeeplaw12_SightAll.res)) s h) (kBlk 0 (kSeq (run (gc n) n) innkeeplaw12_SightAll.c11 (retK innkeeplaw12_SightAll.fn innkeeplaw12_SightAll.res) (retK innkeeplaw12_SightAll.fn innkeeplaw12_SightAll.res)) (retK innkeeplaw12_SightAll.fn innkeeplaw12_SightAll.res))) (kBlk 0 (kSeq (run (gc n) n) innkeeplaw12_SightAll.c11 (retK innkeeplaw12_SightAll.fn innkeeplaw12_SightAll.res) (retK innkeeplaw12_SightAll.fn innkeeplaw12_SightAll.res)) (retK innkeeplaw12_SightAll.fn innkeeplaw12_SightAll.res))) (kBlk 1 (kSeq (run (gc n) n) innkeeplaw12_SightAll.c19 (kSeq (run (gc n) n) innkeeplaw12_SightAll.c14 (fun _ s h => loopN (fun Kn K s h => run (gc n) n innkeeplaw12_SightAll.c13 Kn K s h) m0 (kBlk 0 (kSeq (run (gc n) n) innkeeplaw12_SightAll.c11 (retK innkeeplaw12_SightAll.fn innkeeplaw12_SightAll.res) (retK innkeeplaw12_SightAll.fn innkeeplaw12_SightAll.res)) (retK innkeeplaw12_SightAll.fn innkeeplaw12_SightAll.res)) s h) (kBlk 0 (kSeq (run (gc n) n) innkeeplaw12_SightAll.c11 (retK innkeeplaw12_SightAll.fn innkeeplaw12_SightAll.res) (retK innkeeplaw12_SightAll.fn innkeeplaw12_SightAll.res)) (retK innkeeplaw12_SightAll.fn innkeeplaw12_SightAll.res))) (kBlk 0 (kSeq (run (gc n) n) innkeeplaw12_SightAll.c11 (retK innkeeplaw12_SightAll.fn innkeeplaw12_SightAll.res) (retK innkeeplaw12_SightAll.fn innkeeplaw12_SightAll.res)) (retK innkeeplaw12_SightAll.fn innkeeplaw12_SightAll.res))) (kBlk 0 (kSeq (run (gc n) n) innkeeplaw12_SightAll.c11 (retK innkeeplaw12_SightAll.fn innkeeplaw12_SightAll.res) (retK innkeeplaw12_SightAll.fn innkeeplaw12_SightAll.res)) (retK innkeeplaw12_SightAll.fn innkeeplaw12_SightAll.res))))) (kBlk 2 (kSeq (run (gc n) n) innkeeplaw12_SightAll.c19 (kSeq (run (gc n) n) innkeeplaw12_SightAll.c14 (fun _ s h => loopN (fun Kn K s h => run (gc n) n innkeeplaw12_SightAll.c13 Kn K s h) m0 (kBlk 0 (kSeq (run (gc n) n) innkeeplaw12_SightAll.c11 (retK innkeeplaw12_SightAll.fn innkeeplaw12_SightAll.res) (retK innkeeplaw12_SightAll.fn innkeeplaw12_SightAll.res)) (retK innkeeplaw12_SightAll.fn innkeeplaw12_SightAll.res)) s h) (kBlk 0 (kSeq (run (gc n) n) innkeeplaw12_SightAll.c11 (retK innkeeplaw12_SightAll.fn innkeeplaw12_SightAll.res) (retK innkeeplaw12_SightAll.fn innkeeplaw12_SightAll.res)) (retK innkeeplaw12_SightAll.fn innkeeplaw12_SightAll.res))) (kBlk 0 (kSeq (run (gc n) n) innkeeplaw12_SightAll.c11 (retK innkeeplaw12_SightAll.fn innkeeplaw12_SightAll.res) (retK innkeeplaw12_SightAll.fn innkeeplaw12_SightAll.res)) (retK innkeeplaw12_SightAll.fn innkeeplaw12_SightAll.res))) (kBlk 1 (kSeq (run (gc n) n) innkeeplaw12_SightAll.c19 (kSeq (run (gc n) n) innkeeplaw12_SightAll.c14 (fun _ s h => loopN (fun Kn K s h => run (gc n) n innkeeplaw12_SightAll.c13 Kn K s h) m0 (kBlk 0 (kSeq (run (gc n) n) innkeeplaw12_SightAll.c11 (retK innkeeplaw12_SightAll.fn innkeeplaw12_SightAll.res) (retK innkeeplaw12_SightAll.fn innkeeplaw12_SightAll.res)) (retK innkeeplaw12_SightAll.fn innkeeplaw12_SightAll.res)) s h) (kBlk 0 (kSeq (run (gc n) n) innkeeplaw12_SightAll.c11 (retK innkeeplaw12_SightAll.fn innkeeplaw12_SightAll.res) (retK innkeeplaw12_SightAll.fn innkeeplaw12_SightAll.res)) (retK innkeeplaw12_SightAll.fn innkeeplaw12_SightAll.res))) (kBlk 0 (kSeq (run (gc n) n) innkeeplaw12_SightAll.c11 (retK innkeeplaw12_SightAll.fn innkeeplaw12_SightAll.res) (retK innkeeplaw12_SightAll.fn innkeeplaw12_SightAll.res)) (retK innkeeplaw12_SightAll.fn innkeeplaw12_SightAll.res))) (kBlk 0 (kSeq (run (gc n) n) innkeeplaw12_SightAll.c11 (retK innkeeplaw12_SightAll.fn innkeeplaw12_SightAll.res) (retK innkeeplaw12_SightAll.fn innkeeplaw12_SightAll.res)) (retK innkeeplaw12_SightAll.fn innkeeplaw12_SightAll.res))))))
    [(0, .dat tWorld t0_2 []), (1, .ptr 0 []), (2, .dat .bool t2_2 []), (3, .dat (.sl (.int .i64)) ([] : List Int) [([], some 1)]), (4, .dat (.int .i64) t4_2 []), (5, .dat (.int .i64) t5_2 []), (6, .dat (.sl (.int .i64)) t6_2 []), (7, .dat (.int .i64) t7_2 []), (8, .ptr 2 []), (9, .dat (.int .i64) t9_2 [])]
    [.box tWorld o0_2 [], .arr (.int .i64) o1_2, .box tReply o2_2 []]
def innkeeplaw12_SightAll.l3 (n m0 : Nat) (t0_3 : (den tWorld)) (t2_3 : Bool) (t4_3 : Int) (t5_3 : Int) (t10_3 : Int) (o0_3 : (den tWorld)) (o1_3 : (List Int)) : Option innkeeplaw12_SightAll.R :=
  loopN (fun Kn K s h => run (gc n) n innkeeplaw12_SightAll.c69 Kn K s h) m0 (kBlk 6 (kSeq (run (gc n) n) innkeeplaw12_SightAll.c67 (retK innkeeplaw12_SightAll.fn innkeeplaw12_SightAll.res) (retK innkeeplaw12_SightAll.fn innkeeplaw12_SightAll.res)) (retK innkeeplaw12_SightAll.fn innkeeplaw12_SightAll.res))
    [(0, .dat tWorld t0_3 []), (1, .ptr 0 []), (2, .dat .bool t2_3 []), (3, .dat (.sl (.int .i64)) ([] : List Int) [([], some 1)]), (4, .dat (.int .i64) t4_3 []), (5, .dat (.int .i64) t5_3 []), (10, .dat (.int .i64) t10_3 [])]
    [.box tWorld o0_3 [], .arr (.int .i64) o1_3]
def innkeeplaw12_SightAll.l4 (n m0 m1 : Nat) (t0_4 : (den tWorld)) (t2_4 : Bool) (t4_4 : Int) (t5_4 : Int) (t10_4 : Int) (t12_4 : Int) (o0_4 : (den tWorld)) (o1_4 : (List Int)) (o3_4 : (den tReply)) : Option innkeeplaw12_SightAll.R :=
  loopN (fun Kn K s h => run (gc n) n innkeeplaw12_SightAll.c85 Kn K s h) m1 (kBlk 8 (kSeq (run (gc n) n) innkeeplaw12_SightAll.c75 (kSeq (run (gc n) n) innkeeplaw12_SightAll.c70 (fun _ s h => loopN (fun Kn K s h => run (gc n) n innkeeplaw12_SightAll.c69 Kn K s h) m0 (kBlk 6 (kSeq (run (gc n) n) innkeeplaw12_SightAll.c67 (retK innkeeplaw12_SightAll.fn innkeeplaw12_SightAll.res) (retK innkeeplaw12_SightAll.fn innkeeplaw12_SightAll.res)) (retK innkeeplaw12_SightAll.fn innkeeplaw12_SightAll.res)) s h) (kBlk 6 (kSeq (run (gc n) n) innkeeplaw12_SightAll.c67 (retK innkeeplaw12_SightAll.fn innkeeplaw12_SightAll.res) (retK innkeeplaw12_SightAll.fn innkeeplaw12_SightAll.res)) (retK innkeeplaw12_SightAll.fn innkeeplaw12_SightAll.res))) (kBlk 6 (kSeq (run (gc n) n) innkeeplaw12_SightAll.c67 (retK innkeeplaw12_SightAll.fn innkeeplaw12_SightAll.res) (retK innkeeplaw12_SightAll.fn innkeeplaw12_SightAll.res)) (retK innkeeplaw12_SightAll.fn innkeeplaw12_SightAll.res))) (kBlk 7 (kSeq (run (gc n) n) innkeeplaw12_SightAll.c75 (kSeq (run (gc n) n) innkeeplaw12_SightAll.c70 (fun _ s h => loopN (fun Kn K s h => run (gc n) n innkeeplaw12_SightAll.c69 Kn K s h) m0 (kBlk 6 (kSeq (run (gc n) n) innkeeplaw12_SightAll.c67 (retK innkeeplaw12_SightAll.fn innkeeplaw12_SightAll.res) (retK innkeeplaw12_SightAll.fn innkeeplaw12_SightAll.res)) (retK innkeeplaw12_SightAll.fn innkeeplaw12_SightAll.res)) s h) (kBlk 6 (kSeq (run (gc n) n) innkeeplaw12_SightAll.c67 (retK innkeeplaw12_SightAll.fn innkeeplaw12_SightAll.res) (retK innkeeplaw12_SightAll.fn innkeeplaw12_SightAll.res)) (retK innkeeplaw12_SightAll.fn innkeeplaw12_SightAll.res))) (kBlk 6 (kSeq (run (gc n) n) innkeeplaw12_SightAll.c67 (retK innkeeplaw12_SightAll.fn innkeeplaw12_SightAll.res) (retK innkeeplaw12_SightAll.fn innkeeplaw12_SightAll.res)) (retK innkeeplaw12_SightAll.fn innkeeplaw12_SightAll.res))) (kBlk 6 (kSeq (run (gc n) n) innkeeplaw12_SightAll.c67 (retK innkeeplaw12_SightAll.fn innkeeplaw12_SightAll.res) (retK innkeeplaw12_SightAll.fn innkeeplaw12_SightAll.res)) (retK innkeeplaw12_SightAll.fn innkeeplaw12_SightAll.res))))
    [(0, .dat tWorld t0_4 []), (1, .ptr 0 []), (2, .dat .bool t2_4 []), (3, .dat (.sl (.int .i64)) ([] : List Int) [([], some 1)]), (4, .dat (.int .i64) t4_4 []), (5, .dat (.int .i64) t5_4 []), (10, .dat (.int .i64) t10_4 []), (11, .ptr 3 []), (12, .dat (.int .i64) t12_4 [])]
    [.box tWorld o0_4 [], .arr (.int .i64) o1_4, .none, .box tReply o3_4 []]
def innkeeplaw12_SightAll.l5 (n m0 : Nat) (t0_5 : (den tWorld)) (t2_5 : Bool) (t4_5 : Int) (t5_5 : Int) (t10_5 : Int) (t13_5 : Int) (o0_5 : (den tWorld)) (o1_5 : (List Int)) : Option innkeeplaw12_SightAll.R :=
  loopN (fun Kn K s h => run (gc n) n innkeeplaw12_SightAll.c105 Kn K s h) m0 (kBlk 10 (kSeq (run (gc n) n) innkeeplaw12_SightAll.c103 (retK innkeeplaw12_SightAll.fn innkeeplaw12_SightAll.res) (retK innkeeplaw12_SightAll.fn innkeeplaw12_SightAll.res)) (retK innkeeplaw12_SightAll.fn innkeeplaw12_SightAll.res))
    [(0, .dat tWorld t0_5 []), (1, .ptr 0 []), (2, .dat .bool t2_5 []), (3, .dat (.sl (.int .i64)) ([] : List Int) [([], some 1)]), (4, .dat (.int .i64) t4_5 []), (5, .dat (.int .i64) t5_5 []), (10, .dat (.int .i64) t10_5 []), (13, .dat (.int .i64) t13_5 [])]
    [.box tWorld o0_5 [], .arr (.int .i64) o1_5]
theorem innkeeplaw12_SightAll.l0_eq (n m0 : Nat) (t0 : (den tWorld)) (t2 : Bool) (t4 : Int) (t5 : Int) (o0 : (den tWorld)) (o1 : (List Int)) : innkeeplaw12_SightAll.l0 n (m0 + 1) t0 t2 t4 t5 o0 o1 =
  bif (decide (t5 < ((List.length (o0.1.1 : (List (List Int)))) : Int))) then
    Option.bind (sight_Present n o0 t5) fun r5 =>
    innkeeplaw12_SightAll.l1 n m0 n t0 t2 (IntKind.wrap .i64 (t4 + ((List.length (r5.1.1 : (List Int))) : Int))) t5 (r5.1.1 : (List Int)) 0 o0 o1
  else
    innkeeplaw12_SightAll.l3 n n t0 t2 t4 t5 0 o0 o1 := by kernel_rfl
theorem innkeeplaw12_SightAll.l1_eq (n m0 m1 : Nat) (t0_1 : (den tWorld)) (t2_1 : Bool) (t4_1 : Int) (t5_1 : Int) (t6_1 : (List Int)) (t7_1 : Int) (o0_1 : (den tWorld)) (o1_1 : (List Int)) : innkeeplaw12_SightAll.l1 n m0 (m1 + 1) t0_1 t2_1 t4_1 t5_1 t6_1 t7_1 o0_1 o1_1 =
  bif (decide (t7_1 < ((List.length t6_1) : Int))) then
    if (0 : Int) ≤ t7_1 ∧ t7_1 < (((List.length t6_1) : Nat) : Int) then
    bif (decide ((List.getD t6_1 (Int.toNat t7_1) (0 : Int) : Int) < 0)) then
      some ((false, ()), [])
    else
      if (0 : Int) ≤ t7_1 ∧ t7_1 < (((List.length t6_1) : Nat) : Int) then
      bif (decide (((List.length (o0_1.2.1 : (List Int))) : Int) ≤ (List.getD t6_1 (Int.toNat t7_1) (0 : Int) : Int))) then
        some ((false, ()), [])
      else
        if (0 : Int) ≤ t7_1 ∧ t7_1 < (((List.length t6_1) : Nat) : Int) then
        if (0 : Int) ≤ (List.getD t6_1 (Int.toNat t7_1) (0 : Int) : Int) ∧ (List.getD t6_1 (Int.toNat t7_1) (0 : Int) : Int) < (((List.length (o0_1.2.1 : (List Int))) : Nat) : Int) then
        bif (!(decide ((List.getD (o0_1.2.1 : (List Int)) (Int.toNat (List.getD t6_1 (Int.toNat t7_1) (0 : Int) : Int)) (0 : Int) : Int) = t5_1))) then
          some ((false, ()), [])
        else
          if (0 : Int) ≤ t7_1 ∧ t7_1 < (((List.length t6_1) : Nat) : Int) then
          Option.bind (sight_Look n o0_1 (List.getD t6_1 (Int.toNat t7_1) (0 : Int) : Int)) fun r6 =>
          Option.bind (innkeepref05_May n r6.1.1) fun r7 =>
          bif (!(r7.1.1 : Bool)) then
            some ((false, ()), [])
          else
            if (0 : Int) ≤ 0 ∧ 0 < (((List.length t6_1) : Nat) : Int) then
            Option.bind (sight_Look n o0_1 (List.getD t6_1 0 (0 : Int) : Int)) fun r8 =>
            Option.bind (innkeepref05_Same n r6.1.1 r8.1.1) fun r9 =>
            bif (!(r9.1.1 : Bool)) then
              some ((false, ()), [])
            else
              bif (!(decide ((r6.1.1.2.2.1 : Int) = t5_1))) then
                some ((false, ()), [])
              else
                Option.bind (innkeepref03_Ints n (r6.1.1.2.2.2.1 : (List Int)) t6_1) fun r10 =>
                bif (!(r10.1.1 : Bool)) then
                  some ((false, ()), [])
                else
                  innkeeplaw12_SightAll.l2 n m0 m1 n t0_1 t2_1 t4_1 t5_1 t6_1 t7_1 0 o0_1 o1_1 r6.1.1
            else none
          else none
        else none
        else none
      else none
    else none
  else
    innkeeplaw12_SightAll.l0 n m0 t0_1 t2_1 t4_1 (IntKind.wrap .i64 (t5_1 + 1)) o0_1 o1_1 := by kernel_rfl
theorem innkeeplaw12_SightAll.l2_eq (n m0 m1 m2 : Nat) (t0_2 : (den tWorld)) (t2_2 : Bool) (t4_2 : Int) (t5_2 : Int) (t6_2 : (List Int)) (t7_2 : Int) (t9_2 : Int) (o0_2 : (den tWorld)) (o1_2 : (List Int)) (o2_2 : (den tReply)) : innkeeplaw12_SightAll.l2 n m0 m1 (m2 + 1) t0_2 t2_2 t4_2 t5_2 t6_2 t7_2 t9_2 o0_2 o1_2 o2_2 =
  bif (decide (t9_2 < ((List.length (o2_2.2.2.2.2.1 : (List (den tSeen)))) : Int))) then
    bif (decide (t7_2 = 0)) then
      if (0 : Int) ≤ t9_2 ∧ t9_2 < (((List.length (o2_2.2.2.2.2.1 : (List (den tSeen)))) : Nat) : Int) then
      bif (decide (((List.getD (o2_2.2.2.2.2.1 : (List (den tSeen))) (Int.toNat t9_2) (dft tSeen) : (den tSeen)).1 : Int) < 0)) then
        some ((false, ()), [])
      else
        if (0 : Int) ≤ t9_2 ∧ t9_2 < (((List.length (o2_2.2.2.2.2.1 : (List (den tSeen)))) : Nat) : Int) then
        bif (decide (((List.length o1_2) : Int) ≤ ((List.getD (o2_2.2.2.2.2.1 : (List (den tSeen))) (Int.toNat t9_2) (dft tSeen) : (den tSeen)).1 : Int))) then
          some ((false, ()), [])
        else
          if (0 : Int) ≤ t9_2 ∧ t9_2 < (((List.length (o2_2.2.2.2.2.1 : (List (den tSeen)))) : Nat) : Int) then
          if (0 : Int) ≤ ((List.getD (o2_2.2.2.2.2.1 : (List (den tSeen))) (Int.toNat t9_2) (dft tSeen) : (den tSeen)).1 : Int) ∧ ((List.getD (o2_2.2.2.2.2.1 : (List (den tSeen))) (Int.toNat t9_2) (dft tSeen) : (den tSeen)).1 : Int) < (((List.length o1_2) : Nat) : Int) then
          if (0 : Int) ≤ ((List.getD (o2_2.2.2.2.2.1 : (List (den tSeen))) (Int.toNat t9_2) (dft tSeen) : (den tSeen)).1 : Int) ∧ ((List.getD (o2_2.2.2.2.2.1 : (List (den tSeen))) (Int.toNat t9_2) (dft tSeen) : (den tSeen)).1 : Int) < (((List.length o1_2) : Nat) : Int) then
          innkeeplaw12_SightAll.l2 n m0 m1 m2 t0_2 t2_2 t4_2 t5_2 t6_2 t7_2 (IntKind.wrap .i64 (t9_2 + 1)) o0_2 (List.set o1_2 (Int.toNat ((List.getD (o2_2.2.2.2.2.1 : (List (den tSeen))) (Int.toNat t9_2) (dft tSeen) : (den tSeen)).1 : Int)) (IntKind.wrap .i64 ((List.getD o1_2 (Int.toNat ((List.getD (o2_2.2.2.2.2.1 : (List (den tSeen))) (Int.toNat t9_2) (dft tSeen) : (den tSeen)).1 : Int)) (0 : Int) : Int) + 1)) : (List Int)) o2_2
          else none
          else none
          else none
        else none
      else none
    else
      innkeeplaw12_SightAll.l1 n m0 m1 t0_2 t2_2 t4_2 t5_2 t6_2 (IntKind.wrap .i64 (t7_2 + 1)) o0_2 o1_2
  else
    innkeeplaw12_SightAll.l1 n m0 m1 t0_2 t2_2 t4_2 t5_2 t6_2 (IntKind.wrap .i64 (t7_2 + 1)) o0_2 o1_2 := by kernel_rfl
theorem innkeeplaw12_SightAll.l3_eq (n m0 : Nat) (t0_3 : (den tWorld)) (t2_3 : Bool) (t4_3 : Int) (t5_3 : Int) (t10_3 : Int) (o0_3 : (den tWorld)) (o1_3 : (List Int)) : innkeeplaw12_SightAll.l3 n (m0 + 1) t0_3 t2_3 t4_3 t5_3 t10_3 o0_3 o1_3 =
  bif (decide (t10_3 < ((List.length (o0_3.2.1 : (List Int))) : Int))) then
    Option.bind (sight_Own n o0_3 t10_3) fun r11 =>
    Option.bind (innkeepref05_May n r11.1.1) fun r12 =>
    bif (!(r12.1.1 : Bool)) then
      some ((false, ()), [])
    else
      if (0 : Int) ≤ t10_3 ∧ t10_3 < (((List.length (o0_3.2.2.1 : (List Int))) : Nat) : Int) then
      bif (!(decide ((r11.1.1.2.2.2.2.2.1 : Int) = (List.getD (o0_3.2.2.1 : (List Int)) (Int.toNat t10_3) (0 : Int) : Int)))) then
        some ((false, ()), [])
      else
        innkeeplaw12_SightAll.l4 n m0 n t0_3 t2_3 t4_3 t5_3 t10_3 0 o0_3 o1_3 r11.1.1
      else none
  else
    innkeeplaw12_SightAll.l5 n n t0_3 t2_3 t4_3 t5_3 t10_3 0 o0_3 o1_3 := by kernel_rfl
theorem innkeeplaw12_SightAll.l4_eq (n m0 m1 : Nat) (t0_4 : (den tWorld)) (t2_4 : Bool) (t4_4 : Int) (t5_4 : Int) (t10_4 : Int) (t12_4 : Int) (o0_4 : (den tWorld)) (o1_4 : (List Int)) (o3_4 : (den tReply)) : innkeeplaw12_SightAll.l4 n m0 (m1 + 1) t0_4 t2_4 t4_4 t5_4 t10_4 t12_4 o0_4 o1_4 o3_4 =
  bif (decide (t12_4 < ((List.length (o3_4.2.2.2.2.1 : (List (den tSeen)))) : Int))) then
    if (0 : Int) ≤ t12_4 ∧ t12_4 < (((List.length (o3_4.2.2.2.2.1 : (List (den tSeen)))) : Nat) : Int) then
    bif (decide (((List.getD (o3_4.2.2.2.2.1 : (List (den tSeen))) (Int.toNat t12_4) (dft tSeen) : (den tSeen)).1 : Int) < 0)) then
      some ((false, ()), [])
    else
      if (0 : Int) ≤ t12_4 ∧ t12_4 < (((List.length (o3_4.2.2.2.2.1 : (List (den tSeen)))) : Nat) : Int) then
      bif (decide (((List.length o1_4) : Int) ≤ ((List.getD (o3_4.2.2.2.2.1 : (List (den tSeen))) (Int.toNat t12_4) (dft tSeen) : (den tSeen)).1 : Int))) then
        some ((false, ()), [])
      else
        if (0 : Int) ≤ t12_4 ∧ t12_4 < (((List.length (o3_4.2.2.2.2.1 : (List (den tSeen)))) : Nat) : Int) then
        if (0 : Int) ≤ ((List.getD (o3_4.2.2.2.2.1 : (List (den tSeen))) (Int.toNat t12_4) (dft tSeen) : (den tSeen)).1 : Int) ∧ ((List.getD (o3_4.2.2.2.2.1 : (List (den tSeen))) (Int.toNat t12_4) (dft tSeen) : (den tSeen)).1 : Int) < (((List.length o1_4) : Nat) : Int) then
        if (0 : Int) ≤ ((List.getD (o3_4.2.2.2.2.1 : (List (den tSeen))) (Int.toNat t12_4) (dft tSeen) : (den tSeen)).1 : Int) ∧ ((List.getD (o3_4.2.2.2.2.1 : (List (den tSeen))) (Int.toNat t12_4) (dft tSeen) : (den tSeen)).1 : Int) < (((List.length o1_4) : Nat) : Int) then
        innkeeplaw12_SightAll.l4 n m0 m1 t0_4 t2_4 t4_4 t5_4 t10_4 (IntKind.wrap .i64 (t12_4 + 1)) o0_4 (List.set o1_4 (Int.toNat ((List.getD (o3_4.2.2.2.2.1 : (List (den tSeen))) (Int.toNat t12_4) (dft tSeen) : (den tSeen)).1 : Int)) (IntKind.wrap .i64 ((List.getD o1_4 (Int.toNat ((List.getD (o3_4.2.2.2.2.1 : (List (den tSeen))) (Int.toNat t12_4) (dft tSeen) : (den tSeen)).1 : Int)) (0 : Int) : Int) + 1)) : (List Int)) o3_4
        else none
        else none
        else none
      else none
    else none
  else
    innkeeplaw12_SightAll.l3 n m0 t0_4 t2_4 t4_4 t5_4 (IntKind.wrap .i64 (t10_4 + 1)) o0_4 o1_4 := by kernel_rfl
theorem innkeeplaw12_SightAll.l5_eq (n m0 : Nat) (t0_5 : (den tWorld)) (t2_5 : Bool) (t4_5 : Int) (t5_5 : Int) (t10_5 : Int) (t13_5 : Int) (o0_5 : (den tWorld)) (o1_5 : (List Int)) : innkeeplaw12_SightAll.l5 n (m0 + 1) t0_5 t2_5 t4_5 t5_5 t10_5 t13_5 o0_5 o1_5 =
  bif (decide (t13_5 < ((List.length o1_5) : Int))) then
    if (0 : Int) ≤ t13_5 ∧ t13_5 < (((List.length o1_5) : Nat) : Int) then
    bif (decide (1 < (List.getD o1_5 (Int.toNat t13_5) (0 : Int) : Int))) then
      some ((false, ()), [])
    else
      innkeeplaw12_SightAll.l5 n m0 t0_5 t2_5 t4_5 t5_5 t10_5 (IntKind.wrap .i64 (t13_5 + 1)) o0_5 o1_5
    else none
  else
    some (((decide (t4_5 = ((List.length (o0_5.2.1 : (List Int))) : Int))), ()), []) := by kernel_rfl
theorem innkeeplaw12_SightAll.eq (n : Nat) (a0 : (den tWorld)) : innkeeplaw12_SightAll (n + 1) a0 =
  Option.bind (innkeeplaw12_awake n) fun r1 =>
  bif (!(r1.1.1 : Bool)) then
    Option.bind (innkeeplaw12_awake n) fun r2 =>
    some (((r2.1.1 : Bool), ()), [])
  else
    Option.bind (innkeeplaw12_fits n a0) fun r3 =>
    bif (!(r3.1.1 : Bool)) then
      Option.bind (innkeeplaw12_awake n) fun r4 =>
      some (((r4.1.1 : Bool), ()), [])
    else
      if (0 : Int) ≤ ((List.length (a0.2.2.2.1 : (List (den tPlace)))) : Int) ∧ ((List.length (a0.2.2.2.1 : (List (den tPlace)))) : Int) ≤ 1048576 then
      innkeeplaw12_SightAll.l0 n n a0 false 0 0 a0 (List.replicate (Int.toNat ((List.length (a0.2.2.2.1 : (List (den tPlace)))) : Int)) (0 : Int))
      else none := by kernel_rfl
def innkeepref06_Copied.res : List Sh := [.d tWorld]
@[reducible] def innkeepref06_Copied.R : Type := dShL [.d tWorld] × Fresh
def innkeepref06_Copied (n : Nat) (a0 : (den tWorld)) : Option innkeepref06_Copied.R := gc n 19 [.dat tWorld a0 []] [.d tWorld]
theorem innkeepref06_Copied.eq (n : Nat) (a0 : (den tWorld)) : innkeepref06_Copied (n + 1) a0 =
  if 0 + (List.length (a0.2.1 : (List Int))) ≤ 1048576 then
  if 0 + (List.length (a0.2.2.1 : (List Int))) ≤ 1048576 then
  if 0 + (List.length (a0.2.2.2.1 : (List (den tPlace)))) ≤ 1048576 then
  some (((a0.1, (([] : List Int) ++ (a0.2.1 : (List Int))), (([] : List Int) ++ (a0.2.2.1 : (List Int))), (([] : List (den tPlace)) ++ (a0.2.2.2.1 : (List (den tPlace)))), ()), ()), [(0, [1]), (0, [2]), (0, [3])])
  else none
  else none
  else none := by kernel_rfl
def innkeepref06_Places.res : List Sh := [.d .bool]
@[reducible] def innkeepref06_Places.R : Type := dShL [.d .bool] × Fresh
def innkeepref06_Places (n : Nat) (a0 : (List (den tPlace))) (a1 : (List (den tPlace))) : Option innkeepref06_Places.R := gc n 28 [.dat (.sl tPlace) a0 [], .dat (.sl tPlace) a1 []] [.d .bool]
def innkeepref06_Places.l0 (n m0 : Nat) (t0 : (List (den tPlace))) (t1 : (List (den tPlace))) (t4 : Bool) (t5 : Int) : Option innkeepref06_Places.R :=
  loopN (fun Kn K s h => run (gc n) n innkeepref06_Places.c9 Kn K s h) m0 (kBlk 0 (kSeq (run (gc n) n) innkeepref06_Places.c7 (retK innkeepref06_Places.fn innkeepref06_Places.res) (retK innkeepref06_Places.fn innkeepref06_Places.res)) (retK innkeepref06_Places.fn innkeepref06_Places.res))
    [(0, .dat (.sl tPlace) t0 []), (1, .dat (.sl tPlace) t1 []), (4, .dat .bool t4 []), (5, .dat (.int .i64) t5 [])]
    []
theorem innkeepref06_Places.l0_eq (n m0 : Nat) (t0 : (List (den tPlace))) (t1 : (List (den tPlace))) (t4 : Bool) (t5 : Int) : innkeepref06_Places.l0 n (m0 + 1) t0 t1 t4 t5 =
  bif (decide (t5 < ((List.length t0) : Int))) then
    if (0 : Int) ≤ t5 ∧ t5 < (((List.length t0) : Nat) : Int) then
    if (0 : Int) ≤ t5 ∧ t5 < (((List.length t1) : Nat) : Int) then
    bif (!(eqT tPlace (List.getD t0 (Int.toNat t5) (dft tPlace) : (den tPlace)) (List.getD t1 (Int.toNat t5) (dft tPlace) : (den tPlace)))) then
      some ((false, ()), [])
    else
      innkeepref06_Places.l0 n m0 t0 t1 t4 (IntKind.wrap .i64 (t5 + 1))
    else none
    else none
  else
    some ((true, ()), []) := by kernel_rfl
theorem innkeepref06_Places.eq (n : Nat) (a0 : (List (den tPlace))) (a1 : (List (den tPlace))) : innkeepref06_Places (n + 1) a0 a1 =
  bif (!(decide (((List.length a0) : Int) = ((List.length a1) : Int)))) then
    some ((false, ()), [])
  else
    innkeepref06_Places.l0 n n a0 a1 false 0 := by kernel_rfl
def innkeepref06_Same.res : List Sh := [.d .bool]
@[reducible] def innkeepref06_Same.R : Type := dShL [.d .bool] × Fresh
def innkeepref06_Same (n : Nat) (a0 : (den tWorld)) (a1 : (den tWorld)) : Option innkeepref06_Same.R := gc n 20 [.dat tWorld a0 [], .dat tWorld a1 []] [.d .bool]
def innkeepref06_Same.l0 (n m0 : Nat) (t0 : (den tWorld)) (t1 : (den tWorld)) (t4 : Bool) (t7 : Int) (o0 : (den tWorld)) (o1 : (den tWorld)) (o2 : (den tDesc)) (o3 : (den tDesc)) : Option innkeepref06_Same.R :=
  loopN (fun Kn K s h => run (gc n) n innkeepref06_Same.c13 Kn K s h) m0 (kBlk 0 (kSeq (run (gc n) n) innkeepref06_Same.c11 (retK innkeepref06_Same.fn innkeepref06_Same.res) (retK innkeepref06_Same.fn innkeepref06_Same.res)) (retK innkeepref06_Same.fn innkeepref06_Same.res))
    [(0, .dat tWorld t0 []), (1, .dat tWorld t1 []), (2, .ptr 0 []), (3, .ptr 1 []), (4, .dat .bool t4 []), (5, .ptr 2 []), (6, .ptr 3 []), (7, .dat (.int .i64) t7 [])]
    [.box tWorld o0 [], .box tWorld o1 [], .box tDesc o2 [], .box tDesc o3 []]
def innkeepref06_Same.l1 (n m0 : Nat) (t0_1 : (den tWorld)) (t1_1 : (den tWorld)) (t4_1 : Bool) (t7_1 : Int) (t8_1 : Int) (o0_1 : (den tWorld)) (o1_1 : (den tWorld)) (o2_1 : (den tDesc)) (o3_1 : (den tDesc)) : Option innkeepref06_Same.R :=
  loopN (fun Kn K s h => run (gc n) n innkeepref06_Same.c29 Kn K s h) m0 (kBlk 2 (kSeq (run (gc n) n) innkeepref06_Same.c27 (retK innkeepref06_Same.fn innkeepref06_Same.res) (retK innkeepref06_Same.fn innkeepref06_Same.res)) (retK innkeepref06_Same.fn innkeepref06_Same.res))
    [(0, .dat tWorld t0_1 []), (1, .dat tWorld t1_1 []), (2, .ptr 0 []), (3, .ptr 1 []), (4, .dat .bool t4_1 []), (5, .ptr 2 []), (6, .ptr 3 []), (7, .dat (.int .i64) t7_1 []), (8, .dat (.int .i64) t8_1 [])]
    [.box tWorld o0_1 [], .box tWorld o1_1 [], .box tDesc o2_1 [], .box tDesc o3_1 []]
theorem innkeepref06_Same.l0_eq (n m0 : Nat) (t0 : (den tWorld)) (t1 : (den tWorld)) (t4 : Bool) (t7 : Int) (o0 : (den tWorld)) (o1 : (den tWorld)) (o2 : (den tDesc)) (o3 : (den tDesc)) : innkeepref06_Same.l0 n (m0 + 1) t0 t1 t4 t7 o0 o1 o2 o3 =
  bif (decide (t7 < ((List.length (o2.1 : (List (List Int)))) : Int))) then
    if (0 : Int) ≤ t7 ∧ t7 < (((List.length (o2.1 : (List (List Int)))) : Nat) : Int) then
    if (0 : Int) ≤ t7 ∧ t7 < (((List.length (o3.1 : (List (List Int)))) : Nat) : Int) then
    bif (!(eqT (.arr 4 (.int .i64)) (List.getD (o2.1 : (List (List Int))) (Int.toNat t7) (dft (.arr 4 (.int .i64))) : (List Int)) (List.getD (o3.1 : (List (List Int))) (Int.toNat t7) (dft (.arr 4 (.int .i64))) : (List Int)))) then
      some ((false, ()), [])
    else
      innkeepref06_Same.l0 n m0 t0 t1 t4 (IntKind.wrap .i64 (t7 + 1)) o0 o1 o2 o3
    else none
    else none
  else
    innkeepref06_Same.l1 n n t0 t1 t4 t7 0 o0 o1 o2 o3 := by kernel_rfl
theorem innkeepref06_Same.l1_eq (n m0 : Nat) (t0_1 : (den tWorld)) (t1_1 : (den tWorld)) (t4_1 : Bool) (t7_1 : Int) (t8_1 : Int) (o0_1 : (den tWorld)) (o1_1 : (den tWorld)) (o2_1 : (den tDesc)) (o3_1 : (den tDesc)) : innkeepref06_Same.l1 n (m0 + 1) t0_1 t1_1 t4_1 t7_1 t8_1 o0_1 o1_1 o2_1 o3_1 =
  bif (decide (t8_1 < ((List.length (o2_1.2.2.2.2.1 : (List Bool))) : Int))) then
    if (0 : Int) ≤ t8_1 ∧ t8_1 < (((List.length (o2_1.2.2.2.2.1 : (List Bool))) : Nat) : Int) then
    if (0 : Int) ≤ t8_1 ∧ t8_1 < (((List.length (o3_1.2.2.2.2.1 : (List Bool))) : Nat) : Int) then
    bif (!(eqT .bool (List.getD (o2_1.2.2.2.2.1 : (List Bool)) (Int.toNat t8_1) false : Bool) (List.getD (o3_1.2.2.2.2.1 : (List Bool)) (Int.toNat t8_1) false : Bool))) then
      some ((false, ()), [])
    else
      innkeepref06_Same.l1 n m0 t0_1 t1_1 t4_1 t7_1 (IntKind.wrap .i64 (t8_1 + 1)) o0_1 o1_1 o2_1 o3_1
    else none
    else none
  else
    Option.bind (innkeepref03_Ints n (o2_1.2.1 : (List Int)) (o3_1.2.1 : (List Int))) fun r1 =>
    bif (r1.1.1 : Bool) then
      Option.bind (innkeepref03_Ints n (o2_1.2.2.1 : (List Int)) (o3_1.2.2.1 : (List Int))) fun r2 =>
      bif (r2.1.1 : Bool) then
        Option.bind (innkeepref03_Ints n (o2_1.2.2.2.1 : (List Int)) (o3_1.2.2.2.1 : (List Int))) fun r3 =>
        bif (r3.1.1 : Bool) then
          Option.bind (innkeepref03_Ints n (o0_1.2.1 : (List Int)) (o1_1.2.1 : (List Int))) fun r4 =>
          bif (r4.1.1 : Bool) then
            Option.bind (innkeepref03_Ints n (o0_1.2.2.1 : (List Int)) (o1_1.2.2.1 : (List Int))) fun r5 =>
            bif (r5.1.1 : Bool) then
              Option.bind (innkeepref06_Places n (o0_1.2.2.2.1 : (List (den tPlace))) (o1_1.2.2.2.1 : (List (den tPlace)))) fun r6 =>
              some (((r6.1.1 : Bool), ()), [])
            else
              some ((false, ()), [])
          else
            some ((false, ()), [])
        else
          some ((false, ()), [])
      else
        some ((false, ()), [])
    else
      some ((false, ()), []) := by kernel_rfl
theorem innkeepref06_Same.eq (n : Nat) (a0 : (den tWorld)) (a1 : (den tWorld)) : innkeepref06_Same (n + 1) a0 a1 =
  bif (!(decide ((a0.1.2.2.2.2.2.1 : Int) = (a1.1.2.2.2.2.2.1 : Int)))) then
    some ((false, ()), [])
  else
    bif (!(decide ((a0.1.2.2.2.2.2.2.1 : Int) = (a1.1.2.2.2.2.2.2.1 : Int)))) then
      some ((false, ()), [])
    else
      bif (!(decide ((a0.1.2.2.2.2.2.2.2.1 : Int) = (a1.1.2.2.2.2.2.2.2.1 : Int)))) then
        some ((false, ()), [])
      else
        bif (!(decide (((List.length (a0.1.1 : (List (List Int)))) : Int) = ((List.length (a1.1.1 : (List (List Int)))) : Int)))) then
          some ((false, ()), [])
        else
          bif (!(decide (((List.length (a0.1.2.2.2.2.1 : (List Bool))) : Int) = ((List.length (a1.1.2.2.2.2.1 : (List Bool))) : Int)))) then
            some ((false, ()), [])
          else
            innkeepref06_Same.l0 n n a0 a1 false 0 a0 a1 a0.1 a1.1 := by kernel_rfl
def innkeeplaw12_SightKeeps.res : List Sh := [.d .bool]
@[reducible] def innkeeplaw12_SightKeeps.R : Type := dShL [.d .bool] × Fresh
def innkeeplaw12_SightKeeps (n : Nat) (a0 : (den tWorld)) (a1 : Int) : Option innkeeplaw12_SightKeeps.R := gc n 5 [.dat tWorld a0 [], .dat (.int .u8) a1 []] [.d .bool]
def innkeeplaw12_SightKeeps.l0 (n m0 : Nat) (t0 : (den tWorld)) (t1 : Int) (t4 : Bool) (t8 : Int) (o0 : (den tWorld)) (o1 : (den tWorld)) (o2 : (den tReply)) (o3 : (den tReply)) (o4 : (List (den tSeen))) (o5 : (List Int)) (o6 : (List (den tSeen))) : Option innkeeplaw12_SightKeeps.R :=
  loopN (fun Kn K s h => run (gc n) n innkeeplaw12_SightKeeps.c16 Kn K s h) m0 (kBlk 0 (kSeq (run (gc n) n) innkeeplaw12_SightKeeps.c14 (retK innkeeplaw12_SightKeeps.fn innkeeplaw12_SightKeeps.res) (retK innkeeplaw12_SightKeeps.fn innkeeplaw12_SightKeeps.res)) (retK innkeeplaw12_SightKeeps.fn innkeeplaw12_SightKeeps.res))
    [(0, .dat tWorld t0 []), (1, .dat (.int .u8) t1 []), (2, .ptr 0 []), (4, .dat .bool t4 []), (5, .ptr 1 []), (6, .ptr 2 []), (7, .ptr 3 []), (8, .dat (.int .i64) t8 [])]
    [.box tWorld o0 [], .box tWorld o1 [], .box tReply o2 [([3], some 5), ([4], some 4)], .box tReply o3 [([4], some 6)], .arr tSeen o4, .arr (.int .i64) o5, .arr tSeen o6]
def innkeeplaw12_SightKeeps.l1 (n m0 : Nat) (t0_1 : (den tWorld)) (t1_1 : Int) (t4_1 : Bool) (t8_1 : Int) (t9_1 : Int) (o0_1 : (den tWorld)) (o1_1 : (den tWorld)) (o2_1 : (den tReply)) (o3_1 : (den tReply)) (o4_1 : (List (den tSeen))) (o5_1 : (List Int)) (o6_1 : (List (den tSeen))) : Option innkeeplaw12_SightKeeps.R :=
  loopN (fun Kn K s h => run (gc n) n innkeeplaw12_SightKeeps.c28 Kn K s h) m0 (kBlk 2 (kSeq (run (gc n) n) innkeeplaw12_SightKeeps.c26 (retK innkeeplaw12_SightKeeps.fn innkeeplaw12_SightKeeps.res) (retK innkeeplaw12_SightKeeps.fn innkeeplaw12_SightKeeps.res)) (retK innkeeplaw12_SightKeeps.fn innkeeplaw12_SightKeeps.res))
    [(0, .dat tWorld t0_1 []), (1, .dat (.int .u8) t1_1 []), (2, .ptr 0 []), (4, .dat .bool t4_1 []), (5, .ptr 1 []), (6, .ptr 2 []), (7, .ptr 3 []), (8, .dat (.int .i64) t8_1 []), (9, .dat (.int .i64) t9_1 [])]
    [.box tWorld o0_1 [], .box tWorld o1_1 [], .box tReply o2_1 [([3], some 5), ([4], some 4)], .box tReply o3_1 [([4], some 6)], .arr tSeen o4_1, .arr (.int .i64) o5_1, .arr tSeen o6_1]
def innkeeplaw12_SightKeeps.l2 (n m0 : Nat) (t0_2 : (den tWorld)) (t1_2 : Int) (t4_2 : Bool) (t8_2 : Int) (t9_2 : Int) (t10_2 : Int) (o0_2 : (den tWorld)) (o1_2 : (den tWorld)) (o2_2 : (den tReply)) (o3_2 : (den tReply)) (o4_2 : (List (den tSeen))) (o5_2 : (List Int)) (o6_2 : (List (den tSeen))) : Option innkeeplaw12_SightKeeps.R :=
  loopN (fun Kn K s h => run (gc n) n innkeeplaw12_SightKeeps.c40 Kn K s h) m0 (kBlk 4 (kSeq (run (gc n) n) innkeeplaw12_SightKeeps.c38 (retK innkeeplaw12_SightKeeps.fn innkeeplaw12_SightKeeps.res) (retK innkeeplaw12_SightKeeps.fn innkeeplaw12_SightKeeps.res)) (retK innkeeplaw12_SightKeeps.fn innkeeplaw12_SightKeeps.res))
    [(0, .dat tWorld t0_2 []), (1, .dat (.int .u8) t1_2 []), (2, .ptr 0 []), (4, .dat .bool t4_2 []), (5, .ptr 1 []), (6, .ptr 2 []), (7, .ptr 3 []), (8, .dat (.int .i64) t8_2 []), (9, .dat (.int .i64) t9_2 []), (10, .dat (.int .i64) t10_2 [])]
    [.box tWorld o0_2 [], .box tWorld o1_2 [], .box tReply o2_2 [([3], some 5), ([4], some 4)], .box tReply o3_2 [([4], some 6)], .arr tSeen o4_2, .arr (.int .i64) o5_2, .arr tSeen o6_2]
theorem innkeeplaw12_SightKeeps.l0_eq (n m0 : Nat) (t0 : (den tWorld)) (t1 : Int) (t4 : Bool) (t8 : Int) (o0 : (den tWorld)) (o1 : (den tWorld)) (o2 : (den tReply)) (o3 : (den tReply)) (o4 : (List (den tSeen))) (o5 : (List Int)) (o6 : (List (den tSeen))) : innkeeplaw12_SightKeeps.l0 n (m0 + 1) t0 t1 t4 t8 o0 o1 o2 o3 o4 o5 o6 =
  bif (decide (t8 < ((List.length o4) : Int))) then
    if (0 : Int) ≤ t8 ∧ t8 < (((List.length o4) : Nat) : Int) then
    innkeeplaw12_SightKeeps.l0 n m0 t0 t1 t4 (IntKind.wrap .i64 (t8 + 1)) o0 o1 o2 o3 (List.set o4 (Int.toNat t8) (99, (List.getD o4 (Int.toNat t8) (dft tSeen) : (den tSeen)).2.1, ()) : (List (den tSeen))) o5 o6
    else none
  else
    innkeeplaw12_SightKeeps.l1 n n t0 t1 t4 t8 0 o0 o1 o2 o3 o4 o5 o6 := by kernel_rfl
theorem innkeeplaw12_SightKeeps.l1_eq (n m0 : Nat) (t0_1 : (den tWorld)) (t1_1 : Int) (t4_1 : Bool) (t8_1 : Int) (t9_1 : Int) (o0_1 : (den tWorld)) (o1_1 : (den tWorld)) (o2_1 : (den tReply)) (o3_1 : (den tReply)) (o4_1 : (List (den tSeen))) (o5_1 : (List Int)) (o6_1 : (List (den tSeen))) : innkeeplaw12_SightKeeps.l1 n (m0 + 1) t0_1 t1_1 t4_1 t8_1 t9_1 o0_1 o1_1 o2_1 o3_1 o4_1 o5_1 o6_1 =
  bif (decide (t9_1 < ((List.length o5_1) : Int))) then
    if (0 : Int) ≤ t9_1 ∧ t9_1 < (((List.length o5_1) : Nat) : Int) then
    innkeeplaw12_SightKeeps.l1 n m0 t0_1 t1_1 t4_1 t8_1 (IntKind.wrap .i64 (t9_1 + 1)) o0_1 o1_1 o2_1 o3_1 o4_1 (List.set o5_1 (Int.toNat t9_1) 99 : (List Int)) o6_1
    else none
  else
    innkeeplaw12_SightKeeps.l2 n n t0_1 t1_1 t4_1 t8_1 t9_1 0 o0_1 o1_1 o2_1 o3_1 o4_1 o5_1 o6_1 := by kernel_rfl
theorem innkeeplaw12_SightKeeps.l2_eq (n m0 : Nat) (t0_2 : (den tWorld)) (t1_2 : Int) (t4_2 : Bool) (t8_2 : Int) (t9_2 : Int) (t10_2 : Int) (o0_2 : (den tWorld)) (o1_2 : (den tWorld)) (o2_2 : (den tReply)) (o3_2 : (den tReply)) (o4_2 : (List (den tSeen))) (o5_2 : (List Int)) (o6_2 : (List (den tSeen))) : innkeeplaw12_SightKeeps.l2 n (m0 + 1) t0_2 t1_2 t4_2 t8_2 t9_2 t10_2 o0_2 o1_2 o2_2 o3_2 o4_2 o5_2 o6_2 =
  bif (decide (t10_2 < ((List.length o6_2) : Int))) then
    if (0 : Int) ≤ t10_2 ∧ t10_2 < (((List.length o6_2) : Nat) : Int) then
    innkeeplaw12_SightKeeps.l2 n m0 t0_2 t1_2 t4_2 t8_2 t9_2 (IntKind.wrap .i64 (t10_2 + 1)) o0_2 o1_2 o2_2 o3_2 o4_2 o5_2 (List.set o6_2 (Int.toNat t10_2) (99, (List.getD o6_2 (Int.toNat t10_2) (dft tSeen) : (den tSeen)).2.1, ()) : (List (den tSeen)))
    else none
  else
    Option.bind (innkeepref06_Same n o1_2 o0_2) fun r8 =>
    some (((r8.1.1 : Bool), ()), []) := by kernel_rfl
theorem innkeeplaw12_SightKeeps.eq (n : Nat) (a0 : (den tWorld)) (a1 : Int) : innkeeplaw12_SightKeeps (n + 1) a0 a1 =
  Option.bind (innkeeplaw12_awake n) fun r1 =>
  bif (!(r1.1.1 : Bool)) then
    Option.bind (innkeeplaw12_awake n) fun r2 =>
    some (((r2.1.1 : Bool), ()), [])
  else
    Option.bind (innkeeplaw12_fits n a0) fun r3 =>
    bif (!(r3.1.1 : Bool)) then
      Option.bind (innkeeplaw12_awake n) fun r4 =>
      some (((r4.1.1 : Bool), ()), [])
    else
      Option.bind (innkeepref06_Copied n a0) fun r5 =>
      if ((List.length (a0.2.1 : (List Int))) : Int) = 0 then none else
      Option.bind (sight_Look n r5.1.1 (Int.tmod (IntKind.wrap .i64 (a1)) ((List.length (a0.2.1 : (List Int))) : Int))) fun r6 =>
      bif (keepAll r6.2 [((0, [4]), 4), ((0, [3]), 5)]) then
        if ((List.length (a0.2.1 : (List Int))) : Int) = 0 then none else
        Option.bind (sight_Own n r5.1.1 (Int.tmod (IntKind.wrap .i64 (a1)) ((List.length (a0.2.1 : (List Int))) : Int))) fun r7 =>
        bif (keepAll r7.2 [((0, [4]), 6)]) then
          innkeeplaw12_SightKeeps.l0 n n a0 a1 false 0 a0 r5.1.1 ((r6.1.1.1 : Int), (r6.1.1.2.1 : Int), (r6.1.1.2.2.1 : Int), ([] : List Int), ([] : List (den tSeen)), (r6.1.1.2.2.2.2.2.1 : Int), ()) ((r7.1.1.1 : Int), (r7.1.1.2.1 : Int), (r7.1.1.2.2.1 : Int), (r7.1.1.2.2.2.1 : (List Int)), ([] : List (den tSeen)), (r7.1.1.2.2.2.2.2.1 : Int), ()) (r6.1.1.2.2.2.2.1 : (List (den tSeen))) (r6.1.1.2.2.2.1 : (List Int)) (r7.1.1.2.2.2.2.1 : (List (den tSeen)))
        else
          none
      else
        none := by kernel_rfl
def innkeeplaw12_SightMoves.res : List Sh := [.d .bool]
@[reducible] def innkeeplaw12_SightMoves.R : Type := dShL [.d .bool] × Fresh
def innkeeplaw12_SightMoves (n : Nat) (a0 : (den tWorld)) (a1 : Int) (a2 : Int) (a3 : Int) : Option innkeeplaw12_SightMoves.R := gc n 6 [.dat tWorld a0 [], .dat (.int .u8) a1 [], .dat (.int .u8) a2 [], .dat (.int .u8) a3 []] [.d .bool]
def innkeeplaw12_SightMoves.l0 (n m0 : Nat) (t0 : (den tWorld)) (t1 : Int) (t2 : Int) (t3 : Int) (t8 : Bool) (t9 : Int) (t10 : Int) (t12 : (List (den tSeen))) (t13 : (List (den tSeen))) (t14 : (List (den tSeen))) (t15 : (List (den tSeen))) (t16 : Int) (t18 : (List Int)) (t19 : (List Int)) (t20 : Bool) (t21 : Bool) (t22 : Int) (o0 : (den tWorld)) (o1 : (den tWorld)) (o2 : (den tWorld)) (o3 : (List (den tPlace))) (o4 : (List Int)) : Option innkeeplaw12_SightMoves.R :=
  loopN (fun Kn K s h => run (gc n) n innkeeplaw12_SightMoves.c59 Kn K s h) m0 (kBlk 0 (kSeq (run (gc n) n) innkeeplaw12_SightMoves.c57 (retK innkeeplaw12_SightMoves.fn innkeeplaw12_SightMoves.res) (retK innkeeplaw12_SightMoves.fn innkeeplaw12_SightMoves.res)) (retK innkeeplaw12_SightMoves.fn innkeeplaw12_SightMoves.res))
    [(0, .dat tWorld t0 []), (1, .dat (.int .u8) t1 []), (2, .dat (.int .u8) t2 []), (3, .dat (.int .u8) t3 []), (4, .ptr 0 []), (8, .dat .bool t8 []), (9, .dat (.int .i64) t9 []), (10, .dat (.int .i64) t10 []), (11, .ptr 1 []), (12, .dat (.sl tSeen) t12 []), (13, .dat (.sl tSeen) t13 []), (14, .dat (.sl tSeen) t14 []), (15, .dat (.sl tSeen) t15 []), (16, .dat (.int .i64) t16 []), (17, .ptr 2 []), (18, .dat (.sl (.int .i64)) t18 []), (19, .dat (.sl (.int .i64)) t19 []), (20, .dat .bool t20 []), (21, .dat .bool t21 []), (22, .dat (.int .i64) t22 [])]
    [.box tWorld o0 [], .box tWorld o1 [([3], some 3)], .box tWorld o2 [([1], some 4)], .frz tPlace o3, .frz (.int .i64) o4]
def innkeeplaw12_SightMoves.l1 (n m0 : Nat) (t0_1 : (den tWorld)) (t1_1 : Int) (t2_1 : Int) (t3_1 : Int) (t8_1 : Bool) (t9_1 : Int) (t10_1 : Int) (t12_1 : (List (den tSeen))) (t13_1 : (List (den tSeen))) (t14_1 : (List (den tSeen))) (t15_1 : (List (den tSeen))) (t16_1 : Int) (t18_1 : (List Int)) (t19_1 : (List Int)) (t20_1 : Bool) (t21_1 : Bool) (t22_1 : Int) (t23_1 : Int) (o0_1 : (den tWorld)) (o1_1 : (den tWorld)) (o2_1 : (den tWorld)) (o3_1 : (List (den tPlace))) (o4_1 : (List Int)) : Option innkeeplaw12_SightMoves.R :=
  loopN (fun Kn K s h => run (gc n) n innkeeplaw12_SightMoves.c71 Kn K s h) m0 (kBlk 2 (kSeq (run (gc n) n) innkeeplaw12_SightMoves.c69 (retK innkeeplaw12_SightMoves.fn innkeeplaw12_SightMoves.res) (retK innkeeplaw12_SightMoves.fn innkeeplaw12_SightMoves.res)) (retK innkeeplaw12_SightMoves.fn innkeeplaw12_SightMoves.res))
    [(0, .dat tWorld t0_1 []), (1, .dat (.int .u8) t1_1 []), (2, .dat (.int .u8) t2_1 []), (3, .dat (.int .u8) t3_1 []), (4, .ptr 0 []), (8, .dat .bool t8_1 []), (9, .dat (.int .i64) t9_1 []), (10, .dat (.int .i64) t10_1 []), (11, .ptr 1 []), (12, .dat (.sl tSeen) t12_1 []), (13, .dat (.sl tSeen) t13_1 []), (14, .dat (.sl tSeen) t14_1 []), (15, .dat (.sl tSeen) t15_1 []), (16, .dat (.int .i64) t16_1 []), (17, .ptr 2 []), (18, .dat (.sl (.int .i64)) t18_1 []), (19, .dat (.sl (.int .i64)) t19_1 []), (20, .dat .bool t20_1 []), (21, .dat .bool t21_1 []), (22, .dat (.int .i64) t22_1 []), (23, .dat (.int .i64) t23_1 [])]
    [.box tWorld o0_1 [], .box tWorld o1_1 [([3], some 3)], .box tWorld o2_1 [([1], some 4)], .frz tPlace o3_1, .frz (.int .i64) o4_1]
def innkeeplaw12_SightMoves.l2 (n m0 : Nat) (t0_2 : (den tWorld)) (t1_2 : Int) (t2_2 : Int) (t3_2 : Int) (t8_2 : Bool) (t9_2 : Int) (t10_2 : Int) (t16_2 : Int) (t18_2 : (List Int)) (t19_2 : (List Int)) (t20_2 : Bool) (t21_2 : Bool) (t22_2 : Int) (o0_2 : (den tWorld)) (o2_2 : (den tWorld)) (o4_2 : (List Int)) : Option innkeeplaw12_SightMoves.R :=
  loopN (fun Kn K s h => run (gc n) n innkeeplaw12_SightMoves.c59 Kn K s h) m0 (kBlk 0 (kSeq (run (gc n) n) innkeeplaw12_SightMoves.c57 (retK innkeeplaw12_SightMoves.fn innkeeplaw12_SightMoves.res) (retK innkeeplaw12_SightMoves.fn innkeeplaw12_SightMoves.res)) (retK innkeeplaw12_SightMoves.fn innkeeplaw12_SightMoves.res))
    [(0, .dat tWorld t0_2 []), (1, .dat (.int .u8) t1_2 []), (2, .dat (.int .u8) t2_2 []), (3, .dat (.int .u8) t3_2 []), (4, .ptr 0 []), (8, .dat .bool t8_2 []), (9, .dat (.int .i64) t9_2 []), (10, .dat (.int .i64) t10_2 []), (16, .dat (.int .i64) t16_2 []), (17, .ptr 2 []), (18, .dat (.sl (.int .i64)) t18_2 []), (19, .dat (.sl (.int .i64)) t19_2 []), (20, .dat .bool t20_2 []), (21, .dat .bool t21_2 []), (22, .dat (.int .i64) t22_2 [])]
    [.box tWorld o0_2 [], .none, .box tWorld o2_2 [([1], some 4)], .none, .frz (.int .i64) o4_2]
def innkeeplaw12_SightMoves.l3 (n m0 : Nat) (t0_3 : (den tWorld)) (t1_3 : Int) (t2_3 : Int) (t3_3 : Int) (t8_3 : Bool) (t9_3 : Int) (t10_3 : Int) (t16_3 : Int) (t18_3 : (List Int)) (t19_3 : (List Int)) (t20_3 : Bool) (t21_3 : Bool) (t22_3 : Int) (t23_3 : Int) (o0_3 : (den tWorld)) (o2_3 : (den tWorld)) (o4_3 : (List Int)) : Option innkeeplaw12_SightMoves.R :=
  loopN (fun Kn K s h => run (gc n) n innkeeplaw12_SightMoves.c71 Kn K s h) m0 (kBlk 2 (kSeq (run (gc n) n) innkeeplaw12_SightMoves.c69 (retK innkeeplaw12_SightMoves.fn innkeeplaw12_SightMoves.res) (retK innkeeplaw12_SightMoves.fn innkeeplaw12_SightMoves.res)) (retK innkeeplaw12_SightMoves.fn innkeeplaw12_SightMoves.res))
    [(0, .dat tWorld t0_3 []), (1, .dat (.int .u8) t1_3 []), (2, .dat (.int .u8) t2_3 []), (3, .dat (.int .u8) t3_3 []), (4, .ptr 0 []), (8, .dat .bool t8_3 []), (9, .dat (.int .i64) t9_3 []), (10, .dat (.int .i64) t10_3 []), (16, .dat (.int .i64) t16_3 []), (17, .ptr 2 []), (18, .dat (.sl (.int .i64)) t18_3 []), (19, .dat (.sl (.int .i64)) t19_3 []), (20, .dat .bool t20_3 []), (21, .dat .bool t21_3 []), (22, .dat (.int .i64) t22_3 []), (23, .dat (.int .i64) t23_3 [])]
    [.box tWorld o0_3 [], .none, .box tWorld o2_3 [([1], some 4)], .none, .frz (.int .i64) o4_3]
theorem innkeeplaw12_SightMoves.l0_eq (n m0 : Nat) (t0 : (den tWorld)) (t1 : Int) (t2 : Int) (t3 : Int) (t8 : Bool) (t9 : Int) (t10 : Int) (t12 : (List (den tSeen))) (t13 : (List (den tSeen))) (t14 : (List (den tSeen))) (t15 : (List (den tSeen))) (t16 : Int) (t18 : (List Int)) (t19 : (List Int)) (t20 : Bool) (t21 : Bool) (t22 : Int) (o0 : (den tWorld)) (o1 : (den tWorld)) (o2 : (den tWorld)) (o3 : (List (den tPlace))) (o4 : (List Int)) : innkeeplaw12_SightMoves.l0 n (m0 + 1) t0 t1 t2 t3 t8 t9 t10 t12 t13 t14 t15 t16 t18 t19 t20 t21 t22 o0 o1 o2 o3 o4 =
  bif (decide (t22 < ((List.length t18) : Int))) then
    bif t20 then
      if (0 : Int) ≤ t22 ∧ t22 < (((List.length t18) : Nat) : Int) then
      bif (!(decide ((List.getD t18 (Int.toNat t22) (0 : Int) : Int) = t9))) then
        innkeeplaw12_SightMoves.l0 n m0 t0 t1 t2 t3 t8 t9 t10 t12 t13 t14 t15 t16 t18 t19 true t21 (IntKind.wrap .i64 (t22 + 1)) o0 o1 o2 o3 o4
      else
        if (0 : Int) ≤ t9 ∧ t9 < (((List.length (o0.2.1 : (List Int))) : Nat) : Int) then
        innkeeplaw12_SightMoves.l0 n m0 t0 t1 t2 t3 t8 t9 t10 t12 t13 t14 t15 t16 t18 t19 (decide (t16 = (List.getD (o0.2.1 : (List Int)) (Int.toNat t9) (0 : Int) : Int))) t21 (IntKind.wrap .i64 (t22 + 1)) o0 o1 o2 o3 o4
        else none
      else none
    else
      innkeeplaw12_SightMoves.l0 n m0 t0 t1 t2 t3 t8 t9 t10 t12 t13 t14 t15 t16 t18 t19 false t21 (IntKind.wrap .i64 (t22 + 1)) o0 o1 o2 o3 o4
  else
    innkeeplaw12_SightMoves.l1 n n t0 t1 t2 t3 t8 t9 t10 t12 t13 t14 t15 t16 t18 t19 t20 t21 t22 0 o0 o1 o2 o3 o4 := by kernel_rfl
theorem innkeeplaw12_SightMoves.l1_eq (n m0 : Nat) (t0_1 : (den tWorld)) (t1_1 : Int) (t2_1 : Int) (t3_1 : Int) (t8_1 : Bool) (t9_1 : Int) (t10_1 : Int) (t12_1 : (List (den tSeen))) (t13_1 : (List (den tSeen))) (t14_1 : (List (den tSeen))) (t15_1 : (List (den tSeen))) (t16_1 : Int) (t18_1 : (List Int)) (t19_1 : (List Int)) (t20_1 : Bool) (t21_1 : Bool) (t22_1 : Int) (t23_1 : Int) (o0_1 : (den tWorld)) (o1_1 : (den tWorld)) (o2_1 : (den tWorld)) (o3_1 : (List (den tPlace))) (o4_1 : (List Int)) : innkeeplaw12_SightMoves.l1 n (m0 + 1) t0_1 t1_1 t2_1 t3_1 t8_1 t9_1 t10_1 t12_1 t13_1 t14_1 t15_1 t16_1 t18_1 t19_1 t20_1 t21_1 t22_1 t23_1 o0_1 o1_1 o2_1 o3_1 o4_1 =
  bif (decide (t23_1 < ((List.length t19_1) : Int))) then
    bif t21_1 then
      innkeeplaw12_SightMoves.l1 n m0 t0_1 t1_1 t2_1 t3_1 t8_1 t9_1 t10_1 t12_1 t13_1 t14_1 t15_1 t16_1 t18_1 t19_1 t20_1 true t22_1 (IntKind.wrap .i64 (t23_1 + 1)) o0_1 o1_1 o2_1 o3_1 o4_1
    else
      if (0 : Int) ≤ t23_1 ∧ t23_1 < (((List.length t19_1) : Nat) : Int) then
      innkeeplaw12_SightMoves.l1 n m0 t0_1 t1_1 t2_1 t3_1 t8_1 t9_1 t10_1 t12_1 t13_1 t14_1 t15_1 t16_1 t18_1 t19_1 t20_1 (decide ((List.getD t19_1 (Int.toNat t23_1) (0 : Int) : Int) = t9_1)) t22_1 (IntKind.wrap .i64 (t23_1 + 1)) o0_1 o1_1 o2_1 o3_1 o4_1
      else none
  else
    bif t20_1 then
      bif t21_1 then
        Option.bind (sight_Look n (o2_1.1, o4_1, (o2_1.2.2.1 : (List Int)), (o2_1.2.2.2.1 : (List (den tPlace))), ()) t9_1) fun r15 =>
        some (((decide ((r15.1.1.2.2.1 : Int) = t16_1)), ()), [])
      else
        some ((false, ()), [])
    else
      some ((false, ()), []) := by kernel_rfl
theorem innkeeplaw12_SightMoves.l2_eq (n m0 : Nat) (t0_2 : (den tWorld)) (t1_2 : Int) (t2_2 : Int) (t3_2 : Int) (t8_2 : Bool) (t9_2 : Int) (t10_2 : Int) (t16_2 : Int) (t18_2 : (List Int)) (t19_2 : (List Int)) (t20_2 : Bool) (t21_2 : Bool) (t22_2 : Int) (o0_2 : (den tWorld)) (o2_2 : (den tWorld)) (o4_2 : (List Int)) : innkeeplaw12_SightMoves.l2 n (m0 + 1) t0_2 t1_2 t2_2 t3_2 t8_2 t9_2 t10_2 t16_2 t18_2 t19_2 t20_2 t21_2 t22_2 o0_2 o2_2 o4_2 =
  bif (decide (t22_2 < ((List.length t18_2) : Int))) then
    bif t20_2 then
      if (0 : Int) ≤ t22_2 ∧ t22_2 < (((List.length t18_2) : Nat) : Int) then
      bif (!(decide ((List.getD t18_2 (Int.toNat t22_2) (0 : Int) : Int) = t9_2))) then
        innkeeplaw12_SightMoves.l2 n m0 t0_2 t1_2 t2_2 t3_2 t8_2 t9_2 t10_2 t16_2 t18_2 t19_2 true t21_2 (IntKind.wrap .i64 (t22_2 + 1)) o0_2 o2_2 o4_2
      else
        if (0 : Int) ≤ t9_2 ∧ t9_2 < (((List.length (o0_2.2.1 : (List Int))) : Nat) : Int) then
        innkeeplaw12_SightMoves.l2 n m0 t0_2 t1_2 t2_2 t3_2 t8_2 t9_2 t10_2 t16_2 t18_2 t19_2 (decide (t16_2 = (List.getD (o0_2.2.1 : (List Int)) (Int.toNat t9_2) (0 : Int) : Int))) t21_2 (IntKind.wrap .i64 (t22_2 + 1)) o0_2 o2_2 o4_2
        else none
      else none
    else
      innkeeplaw12_SightMoves.l2 n m0 t0_2 t1_2 t2_2 t3_2 t8_2 t9_2 t10_2 t16_2 t18_2 t19_2 false t21_2 (IntKind.wrap .i64 (t22_2 + 1)) o0_2 o2_2 o4_2
  else
    innkeeplaw12_SightMoves.l3 n n t0_2 t1_2 t2_2 t3_2 t8_2 t9_2 t10_2 t16_2 t18_2 t19_2 t20_2 t21_2 t22_2 0 o0_2 o2_2 o4_2 := by kernel_rfl
theorem innkeeplaw12_SightMoves.l3_eq (n m0 : Nat) (t0_3 : (den tWorld)) (t1_3 : Int) (t2_3 : Int) (t3_3 : Int) (t8_3 : Bool) (t9_3 : Int) (t10_3 : Int) (t16_3 : Int) (t18_3 : (List Int)) (t19_3 : (List Int)) (t20_3 : Bool) (t21_3 : Bool) (t22_3 : Int) (t23_3 : Int) (o0_3 : (den tWorld)) (o2_3 : (den tWorld)) (o4_3 : (List Int)) : innkeeplaw12_SightMoves.l3 n (m0 + 1) t0_3 t1_3 t2_3 t3_3 t8_3 t9_3 t10_3 t16_3 t18_3 t19_3 t20_3 t21_3 t22_3 t23_3 o0_3 o2_3 o4_3 =
  bif (decide (t23_3 < ((List.length t19_3) : Int))) then
    bif t21_3 then
      innkeeplaw12_SightMoves.l3 n m0 t0_3 t1_3 t2_3 t3_3 t8_3 t9_3 t10_3 t16_3 t18_3 t19_3 t20_3 true t22_3 (IntKind.wrap .i64 (t23_3 + 1)) o0_3 o2_3 o4_3
    else
      if (0 : Int) ≤ t23_3 ∧ t23_3 < (((List.length t19_3) : Nat) : Int) then
      innkeeplaw12_SightMoves.l3 n m0 t0_3 t1_3 t2_3 t3_3 t8_3 t9_3 t10_3 t16_3 t18_3 t19_3 t20_3 (decide ((List.getD t19_3 (Int.toNat t23_3) (0 : Int) : Int) = t9_3)) t22_3 (IntKind.wrap .i64 (t23_3 + 1)) o0_3 o2_3 o4_3
      else none
  else
    bif t20_3 then
      bif t21_3 then
        Option.bind (sight_Look n (o2_3.1, o4_3, (o2_3.2.2.1 : (List Int)), (o2_3.2.2.2.1 : (List (den tPlace))), ()) t9_3) fun r19 =>
        some (((decide ((r19.1.1.2.2.1 : Int) = t16_3)), ()), [])
      else
        some ((false, ()), [])
    else
      some ((false, ()), []) := by kernel_rfl
theorem innkeeplaw12_SightMoves.eq (n : Nat) (a0 : (den tWorld)) (a1 : Int) (a2 : Int) (a3 : Int) : innkeeplaw12_SightMoves (n + 1) a0 a1 a2 a3 =
  Option.bind (innkeeplaw12_awake n) fun r1 =>
  bif (!(r1.1.1 : Bool)) then
    Option.bind (innkeeplaw12_awake n) fun r2 =>
    some (((r2.1.1 : Bool), ()), [])
  else
    Option.bind (innkeeplaw12_fits n a0) fun r3 =>
    bif (!(r3.1.1 : Bool)) then
      Option.bind (innkeeplaw12_awake n) fun r4 =>
      some (((r4.1.1 : Bool), ()), [])
    else
      bif (decide (((List.length (a0.2.2.2.1 : (List (den tPlace)))) : Int) = 0)) then
        Option.bind (innkeeplaw12_awake n) fun r5 =>
        some (((r5.1.1 : Bool), ()), [])
      else
        if ((List.length (a0.2.1 : (List Int))) : Int) = 0 then none else
        if ((List.length (a0.2.2.2.1 : (List (den tPlace)))) : Int) = 0 then none else
        if (0 : Int) ≤ (Int.tmod (IntKind.wrap .i64 (a2)) ((List.length (a0.2.2.2.1 : (List (den tPlace)))) : Int)) ∧ (Int.tmod (IntKind.wrap .i64 (a2)) ((List.length (a0.2.2.2.1 : (List (den tPlace)))) : Int)) < (((List.length (a0.2.2.2.1 : (List (den tPlace)))) : Nat) : Int) then
        if (0 : Int) ≤ (Int.tmod (IntKind.wrap .i64 (a1)) ((List.length (a0.2.1 : (List Int))) : Int)) ∧ (Int.tmod (IntKind.wrap .i64 (a1)) ((List.length (a0.2.1 : (List Int))) : Int)) < (((List.length (a0.2.1 : (List Int))) : Nat) : Int) then
        bif (eqT tPlace (List.getD (a0.2.2.2.1 : (List (den tPlace))) (Int.toNat (Int.tmod (IntKind.wrap .i64 (a2)) ((List.length (a0.2.2.2.1 : (List (den tPlace)))) : Int))) (dft tPlace) : (den tPlace)) (0, (List.getD (a0.2.1 : (List Int)) (Int.toNat (Int.tmod (IntKind.wrap .i64 (a1)) ((List.length (a0.2.1 : (List Int))) : Int))) (0 : Int) : Int), ())) then
          Option.bind (innkeepref06_Copied n a0) fun r6 =>
          bif (keepAll r6.2 [((0, [3]), 3)]) then
            if (0 : Int) ≤ (Int.tmod (IntKind.wrap .i64 (a2)) ((List.length (a0.2.2.2.1 : (List (den tPlace)))) : Int)) ∧ (Int.tmod (IntKind.wrap .i64 (a2)) ((List.length (a0.2.2.2.1 : (List (den tPlace)))) : Int)) < (((List.length (r6.1.1.2.2.2.1 : (List (den tPlace)))) : Nat) : Int) then
            Option.bind (innkeepref06_Right n (r6.1.1.1, (r6.1.1.2.1 : (List Int)), (r6.1.1.2.2.1 : (List Int)), (List.set (r6.1.1.2.2.2.1 : (List (den tPlace))) (Int.toNat (Int.tmod (IntKind.wrap .i64 (a2)) ((List.length (a0.2.2.2.1 : (List (den tPlace)))) : Int))) (1, (Int.tmod (IntKind.wrap .i64 (a1)) ((List.length (a0.2.1 : (List Int))) : Int)), ()) : (List (den tPlace))), ())) fun r7 =>
            bif (!(r7.1.1 : Bool)) then
              some ((true, ()), [])
            else
              Option.bind (sight_Look n a0 (Int.tmod (IntKind.wrap .i64 (a1)) ((List.length (a0.2.1 : (List Int))) : Int))) fun r8 =>
              Option.bind (sight_Look n (r6.1.1.1, (r6.1.1.2.1 : (List Int)), (r6.1.1.2.2.1 : (List Int)), (List.set (r6.1.1.2.2.2.1 : (List (den tPlace))) (Int.toNat (Int.tmod (IntKind.wrap .i64 (a2)) ((List.length (a0.2.2.2.1 : (List (den tPlace)))) : Int))) (1, (Int.tmod (IntKind.wrap .i64 (a1)) ((List.length (a0.2.1 : (List Int))) : Int)), ()) : (List (den tPlace))), ()) (Int.tmod (IntKind.wrap .i64 (a1)) ((List.length (a0.2.1 : (List Int))) : Int))) fun r9 =>
              Option.bind (sight_Own n a0 (Int.tmod (IntKind.wrap .i64 (a1)) ((List.length (a0.2.1 : (List Int))) : Int))) fun r10 =>
              Option.bind (sight_Own n (r6.1.1.1, (r6.1.1.2.1 : (List Int)), (r6.1.1.2.2.1 : (List Int)), (List.set (r6.1.1.2.2.2.1 : (List (den tPlace))) (Int.toNat (Int.tmod (IntKind.wrap .i64 (a2)) ((List.length (a0.2.2.2.1 : (List (den tPlace)))) : Int))) (1, (Int.tmod (IntKind.wrap .i64 (a1)) ((List.length (a0.2.1 : (List Int))) : Int)), ()) : (List (den tPlace))), ()) (Int.tmod (IntKind.wrap .i64 (a1)) ((List.length (a0.2.1 : (List Int))) : Int))) fun r11 =>
              bif (!(decide ((IntKind.wrap .i64 (((List.length (r8.1.1.2.2.2.2.1 : (List (den tSeen)))) : Int) + ((List.length (r10.1.1.2.2.2.2.1 : (List (den tSeen)))) : Int))) = (IntKind.wrap .i64 (((List.length (r9.1.1.2.2.2.2.1 : (List (den tSeen)))) : Int) + ((List.length (r11.1.1.2.2.2.2.1 : (List (den tSeen)))) : Int)))))) then
                some ((false, ()), [])
              else
                bif (decide (((List.length (r8.1.1.2.2.2.2.1 : (List (den tSeen)))) : Int) ≤ ((List.length (r9.1.1.2.2.2.2.1 : (List (den tSeen)))) : Int))) then
                  some ((false, ()), [])
                else
                  if (0 : Int) ≤ (Int.tmod (IntKind.wrap .i64 (a1)) ((List.length (a0.2.1 : (List Int))) : Int)) ∧ (Int.tmod (IntKind.wrap .i64 (a1)) ((List.length (a0.2.1 : (List Int))) : Int)) < (((List.length (a0.2.1 : (List Int))) : Nat) : Int) then
                  if (0 : Int) ≤ (List.getD (a0.2.1 : (List Int)) (Int.toNat (Int.tmod (IntKind.wrap .i64 (a1)) ((List.length (a0.2.1 : (List Int))) : Int))) (0 : Int) : Int) ∧ (List.getD (a0.2.1 : (List Int)) (Int.toNat (Int.tmod (IntKind.wrap .i64 (a1)) ((List.length (a0.2.1 : (List Int))) : Int))) (0 : Int) : Int) < (((List.length (a0.1.1 : (List (List Int)))) : Nat) : Int) then
                  if (0 : Int) ≤ (Int.tmod a3 4) ∧ (Int.tmod a3 4) < ((4 : Nat) : Int) then
                  bif (decide ((List.getD (List.getD (a0.1.1 : (List (List Int))) (Int.toNat (List.getD (a0.2.1 : (List Int)) (Int.toNat (Int.tmod (IntKind.wrap .i64 (a1)) ((List.length (a0.2.1 : (List Int))) : Int))) (0 : Int) : Int)) (dft (.arr 4 (.int .i64))) : (List Int)) (Int.toNat (Int.tmod a3 4)) (0 : Int) : Int) < 0)) then
                    some ((true, ()), [])
                  else
                    Option.bind (innkeepref06_Copied n a0) fun r12 =>
                    bif (keepAll r12.2 [((0, [1]), 4)]) then
                      if (0 : Int) ≤ (Int.tmod (IntKind.wrap .i64 (a1)) ((List.length (a0.2.1 : (List Int))) : Int)) ∧ (Int.tmod (IntKind.wrap .i64 (a1)) ((List.length (a0.2.1 : (List Int))) : Int)) < (((List.length (r12.1.1.2.1 : (List Int))) : Nat) : Int) then
                      if (0 : Int) ≤ (Int.tmod (IntKind.wrap .i64 (a1)) ((List.length (a0.2.1 : (List Int))) : Int)) ∧ (Int.tmod (IntKind.wrap .i64 (a1)) ((List.length (a0.2.1 : (List Int))) : Int)) < (((List.length (a0.2.1 : (List Int))) : Nat) : Int) then
                      Option.bind (sight_Present n (r12.1.1.1, (List.set (r12.1.1.2.1 : (List Int)) (Int.toNat (Int.tmod (IntKind.wrap .i64 (a1)) ((List.length (a0.2.1 : (List Int))) : Int))) (List.getD (List.getD (a0.1.1 : (List (List Int))) (Int.toNat (List.getD (a0.2.1 : (List Int)) (Int.toNat (Int.tmod (IntKind.wrap .i64 (a1)) ((List.length (a0.2.1 : (List Int))) : Int))) (0 : Int) : Int)) (dft (.arr 4 (.int .i64))) : (List Int)) (Int.toNat (Int.tmod a3 4)) (0 : Int) : Int) : (List Int)), (r12.1.1.2.2.1 : (List Int)), (r12.1.1.2.2.2.1 : (List (den tPlace))), ()) (List.getD (a0.2.1 : (List Int)) (Int.toNat (Int.tmod (IntKind.wrap .i64 (a1)) ((List.length (a0.2.1 : (List Int))) : Int))) (0 : Int) : Int)) fun r13 =>
                      Option.bind (sight_Present n (r12.1.1.1, (List.set (r12.1.1.2.1 : (List Int)) (Int.toNat (Int.tmod (IntKind.wrap .i64 (a1)) ((List.length (a0.2.1 : (List Int))) : Int))) (List.getD (List.getD (a0.1.1 : (List (List Int))) (Int.toNat (List.getD (a0.2.1 : (List Int)) (Int.toNat (Int.tmod (IntKind.wrap .i64 (a1)) ((List.length (a0.2.1 : (List Int))) : Int))) (0 : Int) : Int)) (dft (.arr 4 (.int .i64))) : (List Int)) (Int.toNat (Int.tmod a3 4)) (0 : Int) : Int) : (List Int)), (r12.1.1.2.2.1 : (List Int)), (r12.1.1.2.2.2.1 : (List (den tPlace))), ()) (List.getD (List.getD (a0.1.1 : (List (List Int))) (Int.toNat (List.getD (a0.2.1 : (List Int)) (Int.toNat (Int.tmod (IntKind.wrap .i64 (a1)) ((List.length (a0.2.1 : (List Int))) : Int))) (0 : Int) : Int)) (dft (.arr 4 (.int .i64))) : (List Int)) (Int.toNat (Int.tmod a3 4)) (0 : Int) : Int)) fun r14 =>
                      innkeeplaw12_SightMoves.l0 n n a0 a1 a2 a3 false (Int.tmod (IntKind.wrap .i64 (a1)) ((List.length (a0.2.1 : (List Int))) : Int)) (Int.tmod (IntKind.wrap .i64 (a2)) ((List.length (a0.2.2.2.1 : (List (den tPlace)))) : Int)) (r8.1.1.2.2.2.2.1 : (List (den tSeen))) (r9.1.1.2.2.2.2.1 : (List (den tSeen))) (r10.1.1.2.2.2.2.1 : (List (den tSeen))) (r11.1.1.2.2.2.2.1 : (List (den tSeen))) (List.getD (List.getD (a0.1.1 : (List (List Int))) (Int.toNat (List.getD (a0.2.1 : (List Int)) (Int.toNat (Int.tmod (IntKind.wrap .i64 (a1)) ((List.length (a0.2.1 : (List Int))) : Int))) (0 : Int) : Int)) (dft (.arr 4 (.int .i64))) : (List Int)) (Int.toNat (Int.tmod a3 4)) (0 : Int) : Int) (r13.1.1 : (List Int)) (r14.1.1 : (List Int)) true false 0 a0 (r6.1.1.1, (r6.1.1.2.1 : (List Int)), (r6.1.1.2.2.1 : (List Int)), ([] : List (den tPlace)), ()) (r12.1.1.1, ([] : List Int), (r12.1.1.2.2.1 : (List Int)), (r12.1.1.2.2.2.1 : (List (den tPlace))), ()) (List.set (r6.1.1.2.2.2.1 : (List (den tPlace))) (Int.toNat (Int.tmod (IntKind.wrap .i64 (a2)) ((List.length (a0.2.2.2.1 : (List (den tPlace)))) : Int))) (1, (Int.tmod (IntKind.wrap .i64 (a1)) ((List.length (a0.2.1 : (List Int))) : Int)), ()) : (List (den tPlace))) (List.set (r12.1.1.2.1 : (List Int)) (Int.toNat (Int.tmod (IntKind.wrap .i64 (a1)) ((List.length (a0.2.1 : (List Int))) : Int))) (List.getD (List.getD (a0.1.1 : (List (List Int))) (Int.toNat (List.getD (a0.2.1 : (List Int)) (Int.toNat (Int.tmod (IntKind.wrap .i64 (a1)) ((List.length (a0.2.1 : (List Int))) : Int))) (0 : Int) : Int)) (dft (.arr 4 (.int .i64))) : (List Int)) (Int.toNat (Int.tmod a3 4)) (0 : Int) : Int) : (List Int))
                      else none
                      else none
                    else
                      none
                  else none
                  else none
                  else none
            else none
          else
            none
        else
          if (0 : Int) ≤ (Int.tmod (IntKind.wrap .i64 (a1)) ((List.length (a0.2.1 : (List Int))) : Int)) ∧ (Int.tmod (IntKind.wrap .i64 (a1)) ((List.length (a0.2.1 : (List Int))) : Int)) < (((List.length (a0.2.1 : (List Int))) : Nat) : Int) then
          if (0 : Int) ≤ (List.getD (a0.2.1 : (List Int)) (Int.toNat (Int.tmod (IntKind.wrap .i64 (a1)) ((List.length (a0.2.1 : (List Int))) : Int))) (0 : Int) : Int) ∧ (List.getD (a0.2.1 : (List Int)) (Int.toNat (Int.tmod (IntKind.wrap .i64 (a1)) ((List.length (a0.2.1 : (List Int))) : Int))) (0 : Int) : Int) < (((List.length (a0.1.1 : (List (List Int)))) : Nat) : Int) then
          if (0 : Int) ≤ (Int.tmod a3 4) ∧ (Int.tmod a3 4) < ((4 : Nat) : Int) then
          bif (decide ((List.getD (List.getD (a0.1.1 : (List (List Int))) (Int.toNat (List.getD (a0.2.1 : (List Int)) (Int.toNat (Int.tmod (IntKind.wrap .i64 (a1)) ((List.length (a0.2.1 : (List Int))) : Int))) (0 : Int) : Int)) (dft (.arr 4 (.int .i64))) : (List Int)) (Int.toNat (Int.tmod a3 4)) (0 : Int) : Int) < 0)) then
            some ((true, ()), [])
          else
            Option.bind (innkeepref06_Copied n a0) fun r16 =>
            bif (keepAll r16.2 [((0, [1]), 4)]) then
              if (0 : Int) ≤ (Int.tmod (IntKind.wrap .i64 (a1)) ((List.length (a0.2.1 : (List Int))) : Int)) ∧ (Int.tmod (IntKind.wrap .i64 (a1)) ((List.length (a0.2.1 : (List Int))) : Int)) < (((List.length (r16.1.1.2.1 : (List Int))) : Nat) : Int) then
              if (0 : Int) ≤ (Int.tmod (IntKind.wrap .i64 (a1)) ((List.length (a0.2.1 : (List Int))) : Int)) ∧ (Int.tmod (IntKind.wrap .i64 (a1)) ((List.length (a0.2.1 : (List Int))) : Int)) < (((List.length (a0.2.1 : (List Int))) : Nat) : Int) then
              Option.bind (sight_Present n (r16.1.1.1, (List.set (r16.1.1.2.1 : (List Int)) (Int.toNat (Int.tmod (IntKind.wrap .i64 (a1)) ((List.length (a0.2.1 : (List Int))) : Int))) (List.getD (List.getD (a0.1.1 : (List (List Int))) (Int.toNat (List.getD (a0.2.1 : (List Int)) (Int.toNat (Int.tmod (IntKind.wrap .i64 (a1)) ((List.length (a0.2.1 : (List Int))) : Int))) (0 : Int) : Int)) (dft (.arr 4 (.int .i64))) : (List Int)) (Int.toNat (Int.tmod a3 4)) (0 : Int) : Int) : (List Int)), (r16.1.1.2.2.1 : (List Int)), (r16.1.1.2.2.2.1 : (List (den tPlace))), ()) (List.getD (a0.2.1 : (List Int)) (Int.toNat (Int.tmod (IntKind.wrap .i64 (a1)) ((List.length (a0.2.1 : (List Int))) : Int))) (0 : Int) : Int)) fun r17 =>
              Option.bind (sight_Present n (r16.1.1.1, (List.set (r16.1.1.2.1 : (List Int)) (Int.toNat (Int.tmod (IntKind.wrap .i64 (a1)) ((List.length (a0.2.1 : (List Int))) : Int))) (List.getD (List.getD (a0.1.1 : (List (List Int))) (Int.toNat (List.getD (a0.2.1 : (List Int)) (Int.toNat (Int.tmod (IntKind.wrap .i64 (a1)) ((List.length (a0.2.1 : (List Int))) : Int))) (0 : Int) : Int)) (dft (.arr 4 (.int .i64))) : (List Int)) (Int.toNat (Int.tmod a3 4)) (0 : Int) : Int) : (List Int)), (r16.1.1.2.2.1 : (List Int)), (r16.1.1.2.2.2.1 : (List (den tPlace))), ()) (List.getD (List.getD (a0.1.1 : (List (List Int))) (Int.toNat (List.getD (a0.2.1 : (List Int)) (Int.toNat (Int.tmod (IntKind.wrap .i64 (a1)) ((List.length (a0.2.1 : (List Int))) : Int))) (0 : Int) : Int)) (dft (.arr 4 (.int .i64))) : (List Int)) (Int.toNat (Int.tmod a3 4)) (0 : Int) : Int)) fun r18 =>
              innkeeplaw12_SightMoves.l2 n n a0 a1 a2 a3 false (Int.tmod (IntKind.wrap .i64 (a1)) ((List.length (a0.2.1 : (List Int))) : Int)) (Int.tmod (IntKind.wrap .i64 (a2)) ((List.length (a0.2.2.2.1 : (List (den tPlace)))) : Int)) (List.getD (List.getD (a0.1.1 : (List (List Int))) (Int.toNat (List.getD (a0.2.1 : (List Int)) (Int.toNat (Int.tmod (IntKind.wrap .i64 (a1)) ((List.length (a0.2.1 : (List Int))) : Int))) (0 : Int) : Int)) (dft (.arr 4 (.int .i64))) : (List Int)) (Int.toNat (Int.tmod a3 4)) (0 : Int) : Int) (r17.1.1 : (List Int)) (r18.1.1 : (List Int)) true false 0 a0 (r16.1.1.1, ([] : List Int), (r16.1.1.2.2.1 : (List Int)), (r16.1.1.2.2.2.1 : (List (den tPlace))), ()) (List.set (r16.1.1.2.1 : (List Int)) (Int.toNat (Int.tmod (IntKind.wrap .i64 (a1)) ((List.length (a0.2.1 : (List Int))) : Int))) (List.getD (List.getD (a0.1.1 : (List (List Int))) (Int.toNat (List.getD (a0.2.1 : (List Int)) (Int.toNat (Int.tmod (IntKind.wrap .i64 (a1)) ((List.length (a0.2.1 : (List Int))) : Int))) (0 : Int) : Int)) (dft (.arr 4 (.int .i64))) : (List Int)) (Int.toNat (Int.tmod a3 4)) (0 : Int) : Int) : (List Int))
              else none
              else none
            else
              none
          else none
          else none
          else none
        else none
        else none := by kernel_rfl
def innkeeplaw12_SightSame.res : List Sh := [.d .bool]
@[reducible] def innkeeplaw12_SightSame.R : Type := dShL [.d .bool] × Fresh
def innkeeplaw12_SightSame (n : Nat) (a0 : (den tWorld)) (a1 : Int) (a2 : Int) : Option innkeeplaw12_SightSame.R := gc n 7 [.dat tWorld a0 [], .dat (.int .u8) a1 [], .dat (.int .u8) a2 []] [.d .bool]
def innkeeplaw12_SightSame.l0 (n m0 : Nat) (t0 : (den tWorld)) (t1 : Int) (t2 : Int) (t6 : Bool) (t7 : Int) (t8 : Int) (t13 : Int) (o0 : (den tWorld)) (o1 : (den tReply)) (o2 : (den tReply)) (o3 : (den tReply)) (o6 : (List (den tSeen))) : Option innkeeplaw12_SightSame.R :=
  loopN (fun Kn K s h => run (gc n) n innkeeplaw12_SightSame.c28 Kn K s h) m0 (kBlk 0 (kSeq (run (gc n) n) innkeeplaw12_SightSame.c26 (retK innkeeplaw12_SightSame.fn innkeeplaw12_SightSame.res) (retK innkeeplaw12_SightSame.fn innkeeplaw12_SightSame.res)) (retK innkeeplaw12_SightSame.fn innkeeplaw12_SightSame.res))
    [(0, .dat tWorld t0 []), (1, .dat (.int .u8) t1 []), (2, .dat (.int .u8) t2 []), (3, .ptr 0 []), (6, .dat .bool t6 []), (7, .dat (.int .i64) t7 []), (8, .dat (.int .i64) t8 []), (9, .ptr 1 []), (10, .ptr 2 []), (11, .ptr 3 []), (12, .dat (.sl tSeen) ([] : List (den tSeen)) [([], some 6)]), (13, .dat (.int .i64) t13 [])]
    [.box tWorld o0 [], .box tReply o1 [], .box tReply o2 [], .box tReply o3 [], .dead, .dead, .arr tSeen o6]
def innkeeplaw12_SightSame.l1 (n m0 m1 : Nat) (t0_1 : (den tWorld)) (t1_1 : Int) (t2_1 : Int) (t6_1 : Bool) (t7_1 : Int) (t8_1 : Int) (t13_1 : Int) (t14_1 : Bool) (t15_1 : Int) (o0_1 : (den tWorld)) (o1_1 : (den tReply)) (o2_1 : (den tReply)) (o3_1 : (den tReply)) (o6_1 : (List (den tSeen))) : Option innkeeplaw12_SightSame.R :=
  loopN (fun Kn K s h => run (gc n) n innkeeplaw12_SightSame.c44 Kn K s h) m1 (kBlk 2 (kSeq (run (gc n) n) innkeeplaw12_SightSame.c42 (kSeq (run (gc n) n) innkeeplaw12_SightSame.c34 (kSeq (run (gc n) n) innkeeplaw12_SightSame.c29 (fun _ s h => loopN (fun Kn K s h => run (gc n) n innkeeplaw12_SightSame.c28 Kn K s h) m0 (kBlk 0 (kSeq (run (gc n) n) innkeeplaw12_SightSame.c26 (retK innkeeplaw12_SightSame.fn innkeeplaw12_SightSame.res) (retK innkeeplaw12_SightSame.fn innkeeplaw12_SightSame.res)) (retK innkeeplaw12_SightSame.fn innkeeplaw12_SightSame.res)) s h) (kBlk 0 (kSeq (run (gc n) n) innkeeplaw12_SightSame.c26 (retK innkeeplaw12_SightSame.fn innkeeplaw12_SightSame.res) (retK innkeeplaw12_SightSame.fn innkeeplaw12_SightSame.res)) (retK innkeeplaw12_SightSame.fn innkeeplaw12_SightSame.res))) (kBlk 0 (kSeq (run (gc n) n) innkeeplaw12_SightSame.c26 (retK innkeeplaw12_SightSame.fn innkeeplaw12_SightSame.res) (retK innkeeplaw12_SightSame.fn innkeeplaw12_SightSame.res)) (retK innkeeplaw12_SightSame.fn innkeeplaw12_SightSame.res))) (kBlk 1 (kSeq (run (gc n) n) innkeeplaw12_SightSame.c34 (kSeq (run (gc n) n) innkeeplaw12_SightSame.c29 (fun _ s h => loopN (fun Kn K s h => run (gc n) n innkeeplaw12_SightSame.c28 Kn K s h) m0 (kBlk 0 (kSeq (run (gc n) n) innkeeplaw12_SightSame.c26 (retK innkeeplaw12_SightSame.fn innkeeplaw12_SightSame.res) (retK innkeeplaw12_SightSame.fn innkeeplaw12_SightSame.res)) (retK innkeeplaw12_SightSame.fn innkeeplaw12_SightSame.res)) s h) (kBlk 0 (kSeq (run (gc n) n) innkeeplaw12_SightSame.c26 (retK innkeeplaw12_SightSame.fn innkeeplaw12_SightSame.res) (retK innkeeplaw12_SightSame.fn innkeeplaw12_SightSame.res)) (retK innkeeplaw12_SightSame.fn innkeeplaw12_SightSame.res))) (kBlk 0 (kSeq (run (gc n) n) innkeeplaw12_SightSame.c26 (retK innkeeplaw12_SightSame.fn innkeeplaw12_SightSame.res) (retK innkeeplaw12_SightSame.fn innkeeplaw12_SightSame.res)) (retK innkeeplaw12_SightSame.fn innkeeplaw12_SightSame.res))) (kBlk 0 (kSeq (run (gc n) n) innkeeplaw12_SightSame.c26 (retK innkeeplaw12_SightSame.fn innkeeplaw12_SightSame.res) (retK innkeeplaw12_SightSame.fn innkeeplaw12_SightSame.res)) (retK innkeeplaw12_SightSame.fn innkeeplaw12_SightSame.res)))) (kBlk 1 (kSeq (run (gc n) n) innkeeplaw12_SightSame.c34 (kSeq (run (gc n) n) innkeeplaw12_SightSame.c29 (fun _ s h => loopN (fun Kn K s h => run (gc n) n innkeeplaw12_SightSame.c28 Kn K s h) m0 (kBlk 0 (kSeq (run (gc n) n) innkeeplaw12_SightSame.c26 (retK innkeeplaw12_SightSame.fn innkeeplaw12_SightSame.res) (retK innkeeplaw12_SightSame.fn innkeeplaw12_SightSame.res)) (retK innkeeplaw12_SightSame.fn innkeeplaw12_SightSame.res)) s h) (kBlk 0 (kSeq (run (gc n) n) innkeeplaw12_SightSame.c26 (retK innkeeplaw12_SightSame.fn innkeeplaw12_SightSame.res) (retK innkeeplaw12_SightSame.fn innkeeplaw12_SightSame.res)) (retK innkeeplaw12_SightSame.fn innkeeplaw12_SightSame.res))) (kBlk 0 (kSeq (run (gc n) n) innkeeplaw12_SightSame.c26 (retK innkeeplaw12_SightSame.fn innkeeplaw12_SightSame.res) (retK innkeeplaw12_SightSame.fn innkeeplaw12_SightSame.res)) (retK innkeeplaw12_SightSame.fn innkeeplaw12_SightSame.res))) (kBlk 0 (kSeq (run (gc n) n) innkeeplaw12_SightSame.c26 (retK innkeeplaw12_SightSame.fn innkeeplaw12_SightSame.res) (retK innkeeplaw12_SightSame.fn innkeeplaw12_SightSame.res)) (retK innkeeplaw12_SightSame.fn innkeeplaw12_SightSame.res))))
    [(0, .dat tWorld t0_1 []), (1, .dat (.int .u8) t1_1 []), (2, .dat (.int .u8) t2_1 []), (3, .ptr 0 []), (6, .dat .bool t6_1 []), (7, .dat (.int .i64) t7_1 []), (8, .dat (.int .i64) t8_1 []), (9, .ptr 1 []), (10, .ptr 2 []), (11, .ptr 3 []), (12, .dat (.sl tSeen) ([] : List (den tSeen)) [([], some 6)]), (13, .dat (.int .i64) t13_1 []), (14, .dat .bool t14_1 []), (15, .dat (.int .i64) t15_1 [])]
    [.box tWorld o0_1 [], .box tReply o1_1 [], .box tReply o2_1 [], .box tReply o3_1 [], .dead, .dead, .arr tSeen o6_1]
theorem innkeeplaw12_SightSame.l0_eq (n m0 : Nat) (t0 : (den tWorld)) (t1 : Int) (t2 : Int) (t6 : Bool) (t7 : Int) (t8 : Int) (t13 : Int) (o0 : (den tWorld)) (o1 : (den tReply)) (o2 : (den tReply)) (o3 : (den tReply)) (o6 : (List (den tSeen))) : innkeeplaw12_SightSame.l0 n (m0 + 1) t0 t1 t2 t6 t7 t8 t13 o0 o1 o2 o3 o6 =
  bif (decide (t13 < ((List.length o6) : Int))) then
    if (0 : Int) ≤ t13 ∧ t13 < (((List.length o6) : Nat) : Int) then
    bif (!(decide ((((List.getD o6 (Int.toNat t13) (dft tSeen) : (den tSeen)).2.1).1 : Int) = 2))) then
      innkeeplaw12_SightSame.l0 n m0 t0 t1 t2 t6 t7 t8 (IntKind.wrap .i64 (t13 + 1)) o0 o1 o2 o3 o6
    else
      innkeeplaw12_SightSame.l1 n m0 n t0 t1 t2 t6 t7 t8 t13 false 0 o0 o1 o2 o3 o6
    else none
  else
    some ((true, ()), []) := by kernel_rfl
theorem innkeeplaw12_SightSame.l1_eq (n m0 m1 : Nat) (t0_1 : (den tWorld)) (t1_1 : Int) (t2_1 : Int) (t6_1 : Bool) (t7_1 : Int) (t8_1 : Int) (t13_1 : Int) (t14_1 : Bool) (t15_1 : Int) (o0_1 : (den tWorld)) (o1_1 : (den tReply)) (o2_1 : (den tReply)) (o3_1 : (den tReply)) (o6_1 : (List (den tSeen))) : innkeeplaw12_SightSame.l1 n m0 (m1 + 1) t0_1 t1_1 t2_1 t6_1 t7_1 t8_1 t13_1 t14_1 t15_1 o0_1 o1_1 o2_1 o3_1 o6_1 =
  bif (decide (t15_1 < ((List.length o6_1) : Int))) then
    bif t14_1 then
      innkeeplaw12_SightSame.l1 n m0 m1 t0_1 t1_1 t2_1 t6_1 t7_1 t8_1 t13_1 true (IntKind.wrap .i64 (t15_1 + 1)) o0_1 o1_1 o2_1 o3_1 o6_1
    else
      if (0 : Int) ≤ t15_1 ∧ t15_1 < (((List.length o6_1) : Nat) : Int) then
      if (0 : Int) ≤ t13_1 ∧ t13_1 < (((List.length o6_1) : Nat) : Int) then
      innkeeplaw12_SightSame.l1 n m0 m1 t0_1 t1_1 t2_1 t6_1 t7_1 t8_1 t13_1 (decide (((List.getD o6_1 (Int.toNat t15_1) (dft tSeen) : (den tSeen)).1 : Int) = (((List.getD o6_1 (Int.toNat t13_1) (dft tSeen) : (den tSeen)).2.1).2.1 : Int))) (IntKind.wrap .i64 (t15_1 + 1)) o0_1 o1_1 o2_1 o3_1 o6_1
      else none
      else none
  else
    bif (!t14_1) then
      some ((false, ()), [])
    else
      innkeeplaw12_SightSame.l0 n m0 t0_1 t1_1 t2_1 t6_1 t7_1 t8_1 (IntKind.wrap .i64 (t13_1 + 1)) o0_1 o1_1 o2_1 o3_1 o6_1 := by kernel_rfl
theorem innkeeplaw12_SightSame.eq (n : Nat) (a0 : (den tWorld)) (a1 : Int) (a2 : Int) : innkeeplaw12_SightSame (n + 1) a0 a1 a2 =
  Option.bind (innkeeplaw12_awake n) fun r1 =>
  bif (!(r1.1.1 : Bool)) then
    Option.bind (innkeeplaw12_awake n) fun r2 =>
    some (((r2.1.1 : Bool), ()), [])
  else
    Option.bind (innkeeplaw12_fits n a0) fun r3 =>
    bif (!(r3.1.1 : Bool)) then
      Option.bind (innkeeplaw12_awake n) fun r4 =>
      some (((r4.1.1 : Bool), ()), [])
    else
      if ((List.length (a0.2.1 : (List Int))) : Int) = 0 then none else
      if ((List.length (a0.2.1 : (List Int))) : Int) = 0 then none else
      Option.bind (sight_Look n a0 (Int.tmod (IntKind.wrap .i64 (a1)) ((List.length (a0.2.1 : (List Int))) : Int))) fun r5 =>
      Option.bind (sight_Look n a0 (Int.tmod (IntKind.wrap .i64 (a2)) ((List.length (a0.2.1 : (List Int))) : Int))) fun r6 =>
      Option.bind (innkeepref05_Same n r5.1.1 r6.1.1) fun r7 =>
      if (0 : Int) ≤ (Int.tmod (IntKind.wrap .i64 (a1)) ((List.length (a0.2.1 : (List Int))) : Int)) ∧ (Int.tmod (IntKind.wrap .i64 (a1)) ((List.length (a0.2.1 : (List Int))) : Int)) < (((List.length (a0.2.1 : (List Int))) : Nat) : Int) then
      if (0 : Int) ≤ (Int.tmod (IntKind.wrap .i64 (a2)) ((List.length (a0.2.1 : (List Int))) : Int)) ∧ (Int.tmod (IntKind.wrap .i64 (a2)) ((List.length (a0.2.1 : (List Int))) : Int)) < (((List.length (a0.2.1 : (List Int))) : Nat) : Int) then
      bif (!(eqT .bool (r7.1.1 : Bool) (decide ((List.getD (a0.2.1 : (List Int)) (Int.toNat (Int.tmod (IntKind.wrap .i64 (a1)) ((List.length (a0.2.1 : (List Int))) : Int))) (0 : Int) : Int) = (List.getD (a0.2.1 : (List Int)) (Int.toNat (Int.tmod (IntKind.wrap .i64 (a2)) ((List.length (a0.2.1 : (List Int))) : Int))) (0 : Int) : Int))))) then
        some ((false, ()), [])
      else
        Option.bind (sight_Own n a0 (Int.tmod (IntKind.wrap .i64 (a1)) ((List.length (a0.2.1 : (List Int))) : Int))) fun r8 =>
        if 0 + (List.length (r5.1.1.2.2.2.2.1 : (List (den tSeen)))) ≤ 1048576 then
        if (List.length (([] : List (den tSeen)) ++ (r5.1.1.2.2.2.2.1 : (List (den tSeen))))) + (List.length (r8.1.1.2.2.2.2.1 : (List (den tSeen)))) ≤ 1048576 then
        innkeeplaw12_SightSame.l0 n n a0 a1 a2 false (Int.tmod (IntKind.wrap .i64 (a1)) ((List.length (a0.2.1 : (List Int))) : Int)) (Int.tmod (IntKind.wrap .i64 (a2)) ((List.length (a0.2.1 : (List Int))) : Int)) 0 a0 r5.1.1 r6.1.1 r8.1.1 ((([] : List (den tSeen)) ++ (r5.1.1.2.2.2.2.1 : (List (den tSeen)))) ++ (r8.1.1.2.2.2.2.1 : (List (den tSeen))))
        else none
        else none
      else none
      else none := by kernel_rfl
end Go.Proofs.Ytkoefhpkdghpnaa.Ghost
