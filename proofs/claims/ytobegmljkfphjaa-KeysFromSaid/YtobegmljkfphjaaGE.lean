/- What each function and each loop comes to, one step. Conditions: none. -/
import Derived.Test.YtobegmljkfphjaaGSp
import Derived.KernelRfl
set_option linter.unusedVariables false
set_option linter.unusedSimpArgs false
set_option linter.unusedSectionVars false
set_option linter.unnecessarySimpa false
namespace Go.Proofs.Ytobegmljkfphjaa.Ghost
open Go
abbrev gc (n : Nat) : Calls := gcall prog sp n
def keys_Many.res : List Sh := [.d (.int .i64)]
@[reducible] def keys_Many.R : Type := dShL [.d (.int .i64)] × Fresh
def keys_Many (n : Nat) (a0 : (den tDesc)) : Option keys_Many.R := gc n 18 [.dat tDesc a0 []] [.d (.int .i64)]
theorem keys_Many.eq (n : Nat) (a0 : (den tDesc)) : keys_Many (n + 1) a0 =
  some (((IntKind.wrap .i64 (((List.length (a0.1 : (List (List Int)))) : Int) + ((List.length (a0.2.1 : (List Int))) : Int))), ()), []) := by kernel_rfl
def keys_At.res : List Sh := [.d tKey, .d .bool]
@[reducible] def keys_At.R : Type := dShL [.d tKey, .d .bool] × Fresh
def keys_At (n : Nat) (a0 : (den tDesc)) (a1 : Int) : Option keys_At.R := gc n 16 [.dat tDesc a0 [], .dat (.int .i64) a1 []] [.d tKey, .d .bool]
theorem keys_At.eq (n : Nat) (a0 : (den tDesc)) (a1 : Int) : keys_At (n + 1) a0 a1 =
  bif (decide (a1 < 0)) then
    some (((0, 0, ()), false, ()), [])
  else
    Option.bind (keys_Many n a0) fun r1 =>
    bif (decide ((r1.1.1 : Int) ≤ a1)) then
      some (((0, 0, ()), false, ()), [])
    else
      bif (decide (a1 < ((List.length (a0.1 : (List (List Int)))) : Int))) then
        some (((0, a1, ()), true, ()), [])
      else
        some (((1, (IntKind.wrap .i64 (a1 - ((List.length (a0.1 : (List (List Int)))) : Int))), ()), true, ()), []) := by kernel_rfl
def keys_Sort.res : List Sh := [.d (.sl tKey)]
@[reducible] def keys_Sort.R : Type := dShL [.d (.sl tKey)] × Fresh
def keys_Sort (n : Nat) (a0 : (List (den tKey))) : Option keys_Sort.R := gc n 12 [.dat (.sl tKey) a0 []] [.d (.sl tKey)]
def keys_Place.res : List Sh := [.d (.int .i64)]
@[reducible] def keys_Place.R : Type := dShL [.d (.int .i64)] × Fresh
def keys_Place (n : Nat) (a0 : (den tDesc)) (a1 : (den tKey)) : Option keys_Place.R := gc n 15 [.dat tDesc a0 [], .dat tKey a1 []] [.d (.int .i64)]
theorem keys_Place.eq (n : Nat) (a0 : (den tDesc)) (a1 : (den tKey)) : keys_Place (n + 1) a0 a1 =
  bif (decide ((a1.2.1 : Int) < 0)) then
    some (((-1), ()), [])
  else
    bif (decide (((Option.getD (mapFind (.int .i64) (.int .i64) (a1.1 : Int) (mapPut (.int .i64) (.int .i64) 1 ((List.length (a0.2.1 : (List Int))) : Int) (mapPut (.int .i64) (.int .i64) 0 ((List.length (a0.1 : (List (List Int)))) : Int) []))) (0 : Int)) : Int) ≤ (a1.2.1 : Int))) then
      some (((-1), ()), [])
    else
      some (((IntKind.wrap .i64 (((Option.getD (mapFind (.int .i64) (.int .i64) (a1.1 : Int) (mapPut (.int .i64) (.int .i64) 1 ((List.length (a0.1 : (List (List Int)))) : Int) (mapPut (.int .i64) (.int .i64) 0 0 []))) (0 : Int)) : Int) + (a1.2.1 : Int))), ()), []) := by kernel_rfl
def innkeepref14_Same.res : List Sh := [.d .bool]
@[reducible] def innkeepref14_Same.R : Type := dShL [.d .bool] × Fresh
def innkeepref14_Same (n : Nat) (a0 : (List (den tKey))) (a1 : (List (den tKey))) : Option innkeepref14_Same.R := gc n 11 [.dat (.sl tKey) a0 [], .dat (.sl tKey) a1 []] [.d .bool]
def innkeepref14_Same.l0 (n m0 : Nat) (t0 : (List (den tKey))) (t1 : (List (den tKey))) (t4 : Bool) (t5 : Int) : Option innkeepref14_Same.R :=
  loopN (fun Kn K s h => run (gc n) n innkeepref14_Same.c9 Kn K s h) m0 (kBlk 0 (kSeq (run (gc n) n) innkeepref14_Same.c7 (retK innkeepref14_Same.fn innkeepref14_Same.res) (retK innkeepref14_Same.fn innkeepref14_Same.res)) (retK innkeepref14_Same.fn innkeepref14_Same.res))
    [(0, .dat (.sl tKey) t0 []), (1, .dat (.sl tKey) t1 []), (4, .dat .bool t4 []), (5, .dat (.int .i64) t5 [])]
    []
theorem innkeepref14_Same.l0_eq (n m0 : Nat) (t0 : (List (den tKey))) (t1 : (List (den tKey))) (t4 : Bool) (t5 : Int) : innkeepref14_Same.l0 n (m0 + 1) t0 t1 t4 t5 =
  bif (decide (t5 < ((List.length t0) : Int))) then
    if (0 : Int) ≤ t5 ∧ t5 < (((List.length t0) : Nat) : Int) then
    if (0 : Int) ≤ t5 ∧ t5 < (((List.length t1) : Nat) : Int) then
    bif (!(eqT tKey (List.getD t0 (Int.toNat t5) (dft tKey) : (den tKey)) (List.getD t1 (Int.toNat t5) (dft tKey) : (den tKey)))) then
      some ((false, ()), [])
    else
      innkeepref14_Same.l0 n m0 t0 t1 t4 (IntKind.wrap .i64 (t5 + 1))
    else none
    else none
  else
    some ((true, ()), []) := by kernel_rfl
theorem innkeepref14_Same.eq (n : Nat) (a0 : (List (den tKey))) (a1 : (List (den tKey))) : innkeepref14_Same (n + 1) a0 a1 =
  bif (!(decide (((List.length a0) : Int) = ((List.length a1) : Int)))) then
    some ((false, ()), [])
  else
    innkeepref14_Same.l0 n n a0 a1 false 0 := by kernel_rfl
def cmp_isNaN_int.res : List Sh := [.d .bool]
@[reducible] def cmp_isNaN_int.R : Type := dShL [.d .bool] × Fresh
def cmp_isNaN_int (n : Nat) (a0 : Int) : Option cmp_isNaN_int.R := gc n 25 [.dat (.int .i64) a0 []] [.d .bool]
theorem cmp_isNaN_int.eq (n : Nat) (a0 : Int) : cmp_isNaN_int (n + 1) a0 =
  some (((!(decide (a0 = a0))), ()), []) := by kernel_rfl
def cmp_Compare_int.res : List Sh := [.d (.int .i64)]
@[reducible] def cmp_Compare_int.R : Type := dShL [.d (.int .i64)] × Fresh
def cmp_Compare_int (n : Nat) (a0 : Int) (a1 : Int) : Option cmp_Compare_int.R := gc n 22 [.dat (.int .i64) a0 [], .dat (.int .i64) a1 []] [.d (.int .i64)]
theorem cmp_Compare_int.eq (n : Nat) (a0 : Int) (a1 : Int) : cmp_Compare_int (n + 1) a0 a1 =
  Option.bind (cmp_isNaN_int n a0) fun r1 =>
  Option.bind (cmp_isNaN_int n a1) fun r2 =>
  bif (r1.1.1 : Bool) then
    bif (r2.1.1 : Bool) then
      some ((0, ()), [])
    else
      some (((-1), ()), [])
  else
    bif (r2.1.1 : Bool) then
      some ((1, ()), [])
    else
      bif (decide (a0 < a1)) then
        some (((-1), ()), [])
      else
        bif (decide (a1 < a0)) then
          some ((1, ()), [])
        else
          some ((0, ()), []) := by kernel_rfl
def cmp_Or_int.res : List Sh := [.d (.int .i64)]
@[reducible] def cmp_Or_int.R : Type := dShL [.d (.int .i64)] × Fresh
def cmp_Or_int (n : Nat) (a0 : (List Int)) : Option cmp_Or_int.R := gc n 21 [.dat (.sl (.int .i64)) a0 []] [.d (.int .i64)]
def cmp_Or_int.l0 (n m0 : Nat) (t0 : (List Int)) (t2 : Int) (t3 : Int) (t6 : (List Int)) (t7 : Int) (t8 : Int) : Option cmp_Or_int.R :=
  loopN (fun Kn K s h => run (gc n) n cmp_Or_int.c4 Kn K s h) m0 (kBlk 0 (kSeq (run (gc n) n) cmp_Or_int.c2 (retK cmp_Or_int.fn cmp_Or_int.res) (retK cmp_Or_int.fn cmp_Or_int.res)) (retK cmp_Or_int.fn cmp_Or_int.res))
    [(0, .dat (.sl (.int .i64)) t0 []), (2, .dat (.int .i64) t2 []), (3, .dat (.int .i64) t3 []), (6, .dat (.sl (.int .i64)) t6 []), (7, .dat (.int .i64) t7 []), (8, .dat (.int .i64) t8 [])]
    []
theorem cmp_Or_int.l0_eq (n m0 : Nat) (t0 : (List Int)) (t2 : Int) (t3 : Int) (t6 : (List Int)) (t7 : Int) (t8 : Int) : cmp_Or_int.l0 n (m0 + 1) t0 t2 t3 t6 t7 t8 =
  bif (decide (t8 < t7)) then
    if (0 : Int) ≤ t8 ∧ t8 < (((List.length t6) : Nat) : Int) then
    bif (!(decide ((List.getD t6 (Int.toNat t8) (0 : Int) : Int) = t3))) then
      some (((List.getD t6 (Int.toNat t8) (0 : Int) : Int), ()), [])
    else
      cmp_Or_int.l0 n m0 t0 t2 t3 t6 t7 (IntKind.wrap .i64 (t8 + 1))
    else none
  else
    some ((t3, ()), []) := by kernel_rfl
theorem cmp_Or_int.eq (n : Nat) (a0 : (List Int)) : cmp_Or_int (n + 1) a0 =
  cmp_Or_int.l0 n n a0 0 0 a0 ((List.length a0) : Int) 0 := by kernel_rfl
def keys_compare.res : List Sh := [.d (.int .i64)]
@[reducible] def keys_compare.R : Type := dShL [.d (.int .i64)] × Fresh
def keys_compare (n : Nat) (a0 : (den tKey)) (a1 : (den tKey)) : Option keys_compare.R := gc n 19 [.dat tKey a0 [], .dat tKey a1 []] [.d (.int .i64)]
theorem keys_compare.eq (n : Nat) (a0 : (den tKey)) (a1 : (den tKey)) : keys_compare (n + 1) a0 a1 =
  Option.bind (cmp_Compare_int n (a0.1 : Int) (a1.1 : Int)) fun r1 =>
  Option.bind (cmp_Compare_int n (a0.2.1 : Int) (a1.2.1 : Int)) fun r2 =>
  Option.bind (cmp_Or_int n ([(r1.1.1 : Int), (r2.1.1 : Int)] : List Int)) fun r3 =>
  some (((r3.1.1 : Int), ()), []) := by kernel_rfl
def keys_Less.res : List Sh := [.d .bool]
@[reducible] def keys_Less.R : Type := dShL [.d .bool] × Fresh
def keys_Less (n : Nat) (a0 : (den tKey)) (a1 : (den tKey)) : Option keys_Less.R := gc n 9 [.dat tKey a0 [], .dat tKey a1 []] [.d .bool]
theorem keys_Less.eq (n : Nat) (a0 : (den tKey)) (a1 : (den tKey)) : keys_Less (n + 1) a0 a1 =
  Option.bind (keys_compare n a0 a1) fun r1 =>
  some (((decide ((r1.1.1 : Int) < 0)), ()), []) := by kernel_rfl
def innkeeplaw14_awake.res : List Sh := [.d .bool]
@[reducible] def innkeeplaw14_awake.R : Type := dShL [.d .bool] × Fresh
def innkeeplaw14_awake (n : Nat) : Option innkeeplaw14_awake.R := gc n 8 [] [.d .bool]
theorem innkeeplaw14_awake.eq (n : Nat) : innkeeplaw14_awake (n + 1) =
  Option.bind (keys_At n ((List.replicate 2 (dft (.arr 4 (.int .i64)))), ([0] : List Int), ([] : List Int), ([] : List Int), ([] : List Bool), 0, 0, 0, ()) 2) fun r1 =>
  Option.bind (keys_At n ((List.replicate 2 (dft (.arr 4 (.int .i64)))), ([0] : List Int), ([] : List Int), ([] : List Int), ([] : List Bool), 0, 0, 0, ()) 3) fun r2 =>
  Option.bind (keys_Sort n ([(1, 0, ()), (0, 5, ()), (1, 0, ()), (0, 0, ())] : List (den tKey))) fun r3 =>
  Option.bind (keys_Place n ((List.replicate 2 (dft (.arr 4 (.int .i64)))), ([0] : List Int), ([] : List Int), ([] : List Int), ([] : List Bool), 0, 0, 0, ()) (1, 0, ())) fun r4 =>
  bif (decide ((r4.1.1 : Int) = 2)) then
    Option.bind (keys_Place n ((List.replicate 2 (dft (.arr 4 (.int .i64)))), ([0] : List Int), ([] : List Int), ([] : List Int), ([] : List Bool), 0, 0, 0, ()) (0, 2, ())) fun r5 =>
    bif (decide ((r5.1.1 : Int) = (-1))) then
      bif (eqT tKey r1.1.1 (1, 0, ())) then
        bif (r1.1.2.1 : Bool) then
          bif (!(r2.1.2.1 : Bool)) then
            Option.bind (keys_Many n ((List.replicate 2 (dft (.arr 4 (.int .i64)))), ([0] : List Int), ([] : List Int), ([] : List Int), ([] : List Bool), 0, 0, 0, ())) fun r6 =>
            bif (decide ((r6.1.1 : Int) = 3)) then
              Option.bind (innkeepref14_Same n (r3.1.1 : (List (den tKey))) ([(0, 0, ()), (0, 5, ()), (1, 0, ())] : List (den tKey))) fun r7 =>
              bif (r7.1.1 : Bool) then
                Option.bind (keys_Less n (0, 9, ()) (1, 0, ())) fun r8 =>
                bif (r8.1.1 : Bool) then
                  Option.bind (keys_Less n (0, 0, ()) (0, 0, ())) fun r9 =>
                  some (((!(r9.1.1 : Bool)), ()), [])
                else
                  some ((false, ()), [])
              else
                some ((false, ()), [])
            else
              some ((false, ()), [])
          else
            some ((false, ()), [])
        else
          some ((false, ()), [])
      else
        some ((false, ()), [])
    else
      some ((false, ()), [])
  else
    some ((false, ()), []) := by kernel_rfl
def innkeepref14_Less.res : List Sh := [.d .bool]
@[reducible] def innkeepref14_Less.R : Type := dShL [.d .bool] × Fresh
def innkeepref14_Less (n : Nat) (a0 : (den tKey)) (a1 : (den tKey)) : Option innkeepref14_Less.R := gc n 10 [.dat tKey a0 [], .dat tKey a1 []] [.d .bool]
theorem innkeepref14_Less.eq (n : Nat) (a0 : (den tKey)) (a1 : (den tKey)) : innkeepref14_Less (n + 1) a0 a1 =
  bif (decide ((a0.1 : Int) < (a1.1 : Int))) then
    some ((true, ()), [])
  else
    bif (decide ((a0.1 : Int) = (a1.1 : Int))) then
      some (((decide ((a0.2.1 : Int) < (a1.2.1 : Int))), ()), [])
    else
      some ((false, ()), []) := by kernel_rfl
def innkeepref14_Sort.res : List Sh := [.d (.sl tKey)]
@[reducible] def innkeepref14_Sort.R : Type := dShL [.d (.sl tKey)] × Fresh
def innkeepref14_Sort (n : Nat) (a0 : (List (den tKey))) : Option innkeepref14_Sort.R := gc n 13 [.dat (.sl tKey) a0 []] [.d (.sl tKey)]
def innkeepref14_Sort.l0 (n m0 : Nat) (t0 : (List (den tKey))) (t2 : (List (den tKey))) (o3 : (List (den tKey))) : Option innkeepref14_Sort.R :=
  loopN (fun Kn K s h => run (gc n) n innkeepref14_Sort.c2 Kn K s h) m0 (kBlk 0 (retK innkeepref14_Sort.fn innkeepref14_Sort.res) (retK innkeepref14_Sort.fn innkeepref14_Sort.res))
    [(0, .dat (.sl tKey) t0 []), (2, .dat (.sl tKey) t2 []), (3, .dat (.sl tKey) ([] : List (den tKey)) [([], some 3)])]
    [.none, .none, .none, .arr tKey o3]
def innkeepref14_Sort.l1 (n m0 m1 : Nat) (t0_1 : (List (den tKey))) (t2_1 : (List (den tKey))) (t4_1 : Bool) (t6_1 : Int) (o0_1 : (den tKey)) (o3_1 : (List (den tKey))) : Option innkeepref14_Sort.R :=
  loopN (fun Kn K s h => run (gc n) n innkeepref14_Sort.c8 Kn K s h) m1 (kBlk 2 (kSeq (run (gc n) n) innkeepref14_Sort.c6 (kSeq (run (gc n) n) innkeepref14_Sort.c3 (fun _ s h => loopN (fun Kn K s h => run (gc n) n innkeepref14_Sort.c2 Kn K s h) m0 (kBlk 0 (retK innkeepref14_Sort.fn innkeepref14_Sort.res) (retK innkeepref14_Sort.fn innkeepref14_Sort.res)) s h) (kBlk 0 (retK innkeepref14_Sort.fn innkeepref14_Sort.res) (retK innkeepref14_Sort.fn innkeepref14_Sort.res))) (kBlk 1 (kSeq (run (gc n) n) innkeepref14_Sort.c3 (fun _ s h => loopN (fun Kn K s h => run (gc n) n innkeepref14_Sort.c2 Kn K s h) m0 (kBlk 0 (retK innkeepref14_Sort.fn innkeepref14_Sort.res) (retK innkeepref14_Sort.fn innkeepref14_Sort.res)) s h) (kBlk 0 (retK innkeepref14_Sort.fn innkeepref14_Sort.res) (retK innkeepref14_Sort.fn innkeepref14_Sort.res))) (kBlk 0 (retK innkeepref14_Sort.fn innkeepref14_Sort.res) (retK innkeepref14_Sort.fn innkeepref14_Sort.res)))) (kBlk 1 (kSeq (run (gc n) n) innkeepref14_Sort.c3 (fun _ s h => loopN (fun Kn K s h => run (gc n) n innkeepref14_Sort.c2 Kn K s h) m0 (kBlk 0 (retK innkeepref14_Sort.fn innkeepref14_Sort.res) (retK innkeepref14_Sort.fn innkeepref14_Sort.res)) s h) (kBlk 0 (retK innkeepref14_Sort.fn innkeepref14_Sort.res) (retK innkeepref14_Sort.fn innkeepref14_Sort.res))) (kBlk 0 (retK innkeepref14_Sort.fn innkeepref14_Sort.res) (retK innkeepref14_Sort.fn innkeepref14_Sort.res))))
    [(0, .dat (.sl tKey) t0_1 []), (2, .dat (.sl tKey) t2_1 []), (3, .dat (.sl tKey) ([] : List (den tKey)) [([], some 3)]), (4, .dat .bool t4_1 []), (5, .ptr 0 []), (6, .dat (.int .i64) t6_1 [])]
    [.box tKey o0_1 [], .none, .none, .arr tKey o3_1]
theorem innkeepref14_Sort.l0_eq (n m0 : Nat) (t0 : (List (den tKey))) (t2 : (List (den tKey))) (o3 : (List (den tKey))) : innkeepref14_Sort.l0 n (m0 + 1) t0 t2 o3 =
  innkeepref14_Sort.l1 n m0 n t0 t2 false 0 (0, 0, ()) o3 := by kernel_rfl
theorem innkeepref14_Sort.l1_eq (n m0 m1 : Nat) (t0_1 : (List (den tKey))) (t2_1 : (List (den tKey))) (t4_1 : Bool) (t6_1 : Int) (o0_1 : (den tKey)) (o3_1 : (List (den tKey))) : innkeepref14_Sort.l1 n m0 (m1 + 1) t0_1 t2_1 t4_1 t6_1 o0_1 o3_1 =
  bif (decide (t6_1 < ((List.length t0_1) : Int))) then
    bif (decide (0 < ((List.length o3_1) : Int))) then
      if (0 : Int) ≤ (IntKind.wrap .i64 (((List.length o3_1) : Int) - 1)) ∧ (IntKind.wrap .i64 (((List.length o3_1) : Int) - 1)) < (((List.length o3_1) : Nat) : Int) then
      if (0 : Int) ≤ t6_1 ∧ t6_1 < (((List.length t0_1) : Nat) : Int) then
      Option.bind (innkeepref14_Less n (List.getD o3_1 (Int.toNat (IntKind.wrap .i64 (((List.length o3_1) : Int) - 1))) (dft tKey) : (den tKey)) (List.getD t0_1 (Int.toNat t6_1) (dft tKey) : (den tKey))) fun r1 =>
      bif (!(r1.1.1 : Bool)) then
        innkeepref14_Sort.l1 n m0 m1 t0_1 t2_1 t4_1 (IntKind.wrap .i64 (t6_1 + 1)) o0_1 o3_1
      else
        bif (!t4_1) then
          if (0 : Int) ≤ t6_1 ∧ t6_1 < (((List.length t0_1) : Nat) : Int) then
          innkeepref14_Sort.l1 n m0 m1 t0_1 t2_1 true (IntKind.wrap .i64 (t6_1 + 1)) (List.getD t0_1 (Int.toNat t6_1) (dft tKey) : (den tKey)) o3_1
          else none
        else
          if (0 : Int) ≤ t6_1 ∧ t6_1 < (((List.length t0_1) : Nat) : Int) then
          Option.bind (innkeepref14_Less n (List.getD t0_1 (Int.toNat t6_1) (dft tKey) : (den tKey)) o0_1) fun r2 =>
          bif (r2.1.1 : Bool) then
            if (0 : Int) ≤ t6_1 ∧ t6_1 < (((List.length t0_1) : Nat) : Int) then
            innkeepref14_Sort.l1 n m0 m1 t0_1 t2_1 true (IntKind.wrap .i64 (t6_1 + 1)) (List.getD t0_1 (Int.toNat t6_1) (dft tKey) : (den tKey)) o3_1
            else none
          else
            innkeepref14_Sort.l1 n m0 m1 t0_1 t2_1 t4_1 (IntKind.wrap .i64 (t6_1 + 1)) o0_1 o3_1
          else none
      else none
      else none
    else
      bif (!t4_1) then
        if (0 : Int) ≤ t6_1 ∧ t6_1 < (((List.length t0_1) : Nat) : Int) then
        innkeepref14_Sort.l1 n m0 m1 t0_1 t2_1 true (IntKind.wrap .i64 (t6_1 + 1)) (List.getD t0_1 (Int.toNat t6_1) (dft tKey) : (den tKey)) o3_1
        else none
      else
        if (0 : Int) ≤ t6_1 ∧ t6_1 < (((List.length t0_1) : Nat) : Int) then
        Option.bind (innkeepref14_Less n (List.getD t0_1 (Int.toNat t6_1) (dft tKey) : (den tKey)) o0_1) fun r3 =>
        bif (r3.1.1 : Bool) then
          if (0 : Int) ≤ t6_1 ∧ t6_1 < (((List.length t0_1) : Nat) : Int) then
          innkeepref14_Sort.l1 n m0 m1 t0_1 t2_1 true (IntKind.wrap .i64 (t6_1 + 1)) (List.getD t0_1 (Int.toNat t6_1) (dft tKey) : (den tKey)) o3_1
          else none
        else
          innkeepref14_Sort.l1 n m0 m1 t0_1 t2_1 t4_1 (IntKind.wrap .i64 (t6_1 + 1)) o0_1 o3_1
        else none
  else
    bif (!t4_1) then
      some ((o3_1, ()), [(0, [])])
    else
      if (List.length o3_1) + 1 ≤ 1048576 then
      innkeepref14_Sort.l0 n m0 t0_1 t2_1 (o3_1 ++ ([o0_1] : List (den tKey)))
      else none := by kernel_rfl
theorem innkeepref14_Sort.eq (n : Nat) (a0 : (List (den tKey))) : innkeepref14_Sort (n + 1) a0 =
  innkeepref14_Sort.l0 n n a0 ([] : List (den tKey)) ([] : List (den tKey)) := by kernel_rfl
def innkeeplaw14_KeysSort.res : List Sh := [.d .bool]
@[reducible] def innkeeplaw14_KeysSort.R : Type := dShL [.d .bool] × Fresh
def innkeeplaw14_KeysSort (n : Nat) (a0 : (List (den tKey))) (a1 : (den tKey)) (a2 : (den tKey)) : Option innkeeplaw14_KeysSort.R := gc n 3 [.dat (.sl tKey) a0 [], .dat tKey a1 [], .dat tKey a2 []] [.d .bool]
theorem innkeeplaw14_KeysSort.eq (n : Nat) (a0 : (List (den tKey))) (a1 : (den tKey)) (a2 : (den tKey)) : innkeeplaw14_KeysSort (n + 1) a0 a1 a2 =
  Option.bind (innkeeplaw14_awake n) fun r1 =>
  bif (!(r1.1.1 : Bool)) then
    Option.bind (innkeeplaw14_awake n) fun r2 =>
    some (((r2.1.1 : Bool), ()), [])
  else
    bif (decide (60 < ((List.length a0) : Int))) then
      Option.bind (innkeeplaw14_awake n) fun r3 =>
      some (((r3.1.1 : Bool), ()), [])
    else
      Option.bind (keys_Less n a1 a2) fun r4 =>
      Option.bind (innkeepref14_Less n a1 a2) fun r5 =>
      bif (eqT .bool (r4.1.1 : Bool) (r5.1.1 : Bool)) then
        Option.bind (keys_Sort n a0) fun r6 =>
        Option.bind (innkeepref14_Sort n a0) fun r7 =>
        Option.bind (innkeepref14_Same n (r6.1.1 : (List (den tKey))) (r7.1.1 : (List (den tKey)))) fun r8 =>
        some (((r8.1.1 : Bool), ()), [])
      else
        some ((false, ()), []) := by kernel_rfl
def innkeepref06_Few.res : List Sh := [.d .bool]
@[reducible] def innkeepref06_Few.R : Type := dShL [.d .bool] × Fresh
def innkeepref06_Few (n : Nat) (a0 : (den tWorld)) : Option innkeepref06_Few.R := gc n 14 [.dat tWorld a0 []] [.d .bool]
theorem innkeepref06_Few.eq (n : Nat) (a0 : (den tWorld)) : innkeepref06_Few (n + 1) a0 =
  bif (decide (((List.length (a0.1.1 : (List (List Int)))) : Int) ≤ 20)) then
    bif (decide (((List.length (a0.1.2.1 : (List Int))) : Int) ≤ 20)) then
      bif (decide (((List.length (a0.1.2.2.1 : (List Int))) : Int) ≤ 20)) then
        bif (decide (((List.length (a0.1.2.2.2.1 : (List Int))) : Int) ≤ 40)) then
          bif (decide (((List.length (a0.1.2.2.2.2.1 : (List Bool))) : Int) ≤ 40)) then
            bif (decide (((List.length (a0.2.1 : (List Int))) : Int) ≤ 40)) then
              bif (decide (((List.length (a0.2.2.1 : (List Int))) : Int) ≤ 40)) then
                some (((decide (((List.length (a0.2.2.2.1 : (List (den tKey)))) : Int) ≤ 40)), ()), [])
              else
                some ((false, ()), [])
            else
              some ((false, ()), [])
          else
            some ((false, ()), [])
        else
          some ((false, ()), [])
      else
        some ((false, ()), [])
    else
      some ((false, ()), [])
  else
    some ((false, ()), []) := by kernel_rfl
def innkeepref14_Place.res : List Sh := [.d (.int .i64)]
@[reducible] def innkeepref14_Place.R : Type := dShL [.d (.int .i64)] × Fresh
def innkeepref14_Place (n : Nat) (a0 : (den tDesc)) (a1 : (den tKey)) : Option innkeepref14_Place.R := gc n 17 [.dat tDesc a0 [], .dat tKey a1 []] [.d (.int .i64)]
theorem innkeepref14_Place.eq (n : Nat) (a0 : (den tDesc)) (a1 : (den tKey)) : innkeepref14_Place (n + 1) a0 a1 =
  bif (decide ((a1.1 : Int) = 0)) then
    bif (decide (0 ≤ (a1.2.1 : Int))) then
      bif (decide ((a1.2.1 : Int) < ((List.length (a0.1 : (List (List Int)))) : Int))) then
        some (((a1.2.1 : Int), ()), [])
      else
        bif (decide ((a1.1 : Int) = 1)) then
          bif (decide (0 ≤ (a1.2.1 : Int))) then
            bif (decide ((a1.2.1 : Int) < ((List.length (a0.2.1 : (List Int))) : Int))) then
              some (((IntKind.wrap .i64 (((List.length (a0.1 : (List (List Int)))) : Int) + (a1.2.1 : Int))), ()), [])
            else
              some (((-1), ()), [])
          else
            some (((-1), ()), [])
        else
          some (((-1), ()), [])
    else
      bif (decide ((a1.1 : Int) = 1)) then
        bif (decide (0 ≤ (a1.2.1 : Int))) then
          bif (decide ((a1.2.1 : Int) < ((List.length (a0.2.1 : (List Int))) : Int))) then
            some (((IntKind.wrap .i64 (((List.length (a0.1 : (List (List Int)))) : Int) + (a1.2.1 : Int))), ()), [])
          else
            some (((-1), ()), [])
        else
          some (((-1), ()), [])
      else
        some (((-1), ()), [])
  else
    bif (decide ((a1.1 : Int) = 1)) then
      bif (decide (0 ≤ (a1.2.1 : Int))) then
        bif (decide ((a1.2.1 : Int) < ((List.length (a0.2.1 : (List Int))) : Int))) then
          some (((IntKind.wrap .i64 (((List.length (a0.1 : (List (List Int)))) : Int) + (a1.2.1 : Int))), ()), [])
        else
          some (((-1), ()), [])
      else
        some (((-1), ()), [])
    else
      some (((-1), ()), []) := by kernel_rfl
def innkeeplaw14_KeysPlace.res : List Sh := [.d .bool]
@[reducible] def innkeeplaw14_KeysPlace.R : Type := dShL [.d .bool] × Fresh
def innkeeplaw14_KeysPlace (n : Nat) (a0 : (den tDesc)) (a1 : (den tKey)) (a2 : Int) : Option innkeeplaw14_KeysPlace.R := gc n 4 [.dat tDesc a0 [], .dat tKey a1 [], .dat (.int .i64) a2 []] [.d .bool]
theorem innkeeplaw14_KeysPlace.eq (n : Nat) (a0 : (den tDesc)) (a1 : (den tKey)) (a2 : Int) : innkeeplaw14_KeysPlace (n + 1) a0 a1 a2 =
  Option.bind (innkeeplaw14_awake n) fun r1 =>
  bif (!(r1.1.1 : Bool)) then
    Option.bind (innkeeplaw14_awake n) fun r2 =>
    some (((r2.1.1 : Bool), ()), [])
  else
    Option.bind (innkeepref06_Few n (a0, ([] : List Int), ([] : List Int), ([] : List (den tKey)), ())) fun r3 =>
    bif (!(r3.1.1 : Bool)) then
      Option.bind (innkeeplaw14_awake n) fun r4 =>
      some (((r4.1.1 : Bool), ()), [])
    else
      Option.bind (keys_Place n a0 a1) fun r5 =>
      Option.bind (keys_At n a0 a2) fun r6 =>
      Option.bind (innkeepref14_Place n a0 a1) fun r7 =>
      bif (!(decide ((r5.1.1 : Int) = (r7.1.1 : Int)))) then
        some ((false, ()), [])
      else
        Option.bind (keys_Many n a0) fun r8 =>
        bif (!(decide ((r8.1.1 : Int) = (IntKind.wrap .i64 (((List.length (a0.1 : (List (List Int)))) : Int) + ((List.length (a0.2.1 : (List Int))) : Int)))))) then
          some ((false, ()), [])
        else
          bif (decide (0 ≤ a2)) then
            bif (!(eqT .bool (r6.1.2.1 : Bool) (decide (a2 < (IntKind.wrap .i64 (((List.length (a0.1 : (List (List Int)))) : Int) + ((List.length (a0.2.1 : (List Int))) : Int))))))) then
              some ((false, ()), [])
            else
              bif (r6.1.2.1 : Bool) then
                Option.bind (innkeepref14_Place n a0 r6.1.1) fun r9 =>
                bif (!(decide ((r9.1.1 : Int) = a2))) then
                  some ((false, ()), [])
                else
                  bif (!(r6.1.2.1 : Bool)) then
                    bif (!(eqT tKey r6.1.1 (0, 0, ()))) then
                      some ((false, ()), [])
                    else
                      Option.bind (keys_At n a0 (r5.1.1 : Int)) fun r10 =>
                      bif (eqT .bool (r10.1.2.1 : Bool) (decide (0 ≤ (r5.1.1 : Int)))) then
                        bif (!(r10.1.2.1 : Bool)) then
                          some ((true, ()), [])
                        else
                          some (((eqT tKey r10.1.1 a1), ()), [])
                      else
                        some ((false, ()), [])
                  else
                    Option.bind (keys_At n a0 (r5.1.1 : Int)) fun r11 =>
                    bif (eqT .bool (r11.1.2.1 : Bool) (decide (0 ≤ (r5.1.1 : Int)))) then
                      bif (!(r11.1.2.1 : Bool)) then
                        some ((true, ()), [])
                      else
                        some (((eqT tKey r11.1.1 a1), ()), [])
                    else
                      some ((false, ()), [])
              else
                bif (!(r6.1.2.1 : Bool)) then
                  bif (!(eqT tKey r6.1.1 (0, 0, ()))) then
                    some ((false, ()), [])
                  else
                    Option.bind (keys_At n a0 (r5.1.1 : Int)) fun r12 =>
                    bif (eqT .bool (r12.1.2.1 : Bool) (decide (0 ≤ (r5.1.1 : Int)))) then
                      bif (!(r12.1.2.1 : Bool)) then
                        some ((true, ()), [])
                      else
                        some (((eqT tKey r12.1.1 a1), ()), [])
                    else
                      some ((false, ()), [])
                else
                  Option.bind (keys_At n a0 (r5.1.1 : Int)) fun r13 =>
                  bif (eqT .bool (r13.1.2.1 : Bool) (decide (0 ≤ (r5.1.1 : Int)))) then
                    bif (!(r13.1.2.1 : Bool)) then
                      some ((true, ()), [])
                    else
                      some (((eqT tKey r13.1.1 a1), ()), [])
                  else
                    some ((false, ()), [])
          else
            bif (!(eqT .bool (r6.1.2.1 : Bool) false)) then
              some ((false, ()), [])
            else
              bif (r6.1.2.1 : Bool) then
                Option.bind (innkeepref14_Place n a0 r6.1.1) fun r14 =>
                bif (!(decide ((r14.1.1 : Int) = a2))) then
                  some ((false, ()), [])
                else
                  bif (!(r6.1.2.1 : Bool)) then
                    bif (!(eqT tKey r6.1.1 (0, 0, ()))) then
                      some ((false, ()), [])
                    else
                      Option.bind (keys_At n a0 (r5.1.1 : Int)) fun r15 =>
                      bif (eqT .bool (r15.1.2.1 : Bool) (decide (0 ≤ (r5.1.1 : Int)))) then
                        bif (!(r15.1.2.1 : Bool)) then
                          some ((true, ()), [])
                        else
                          some (((eqT tKey r15.1.1 a1), ()), [])
                      else
                        some ((false, ()), [])
                  else
                    Option.bind (keys_At n a0 (r5.1.1 : Int)) fun r16 =>
                    bif (eqT .bool (r16.1.2.1 : Bool) (decide (0 ≤ (r5.1.1 : Int)))) then
                      bif (!(r16.1.2.1 : Bool)) then
                        some ((true, ()), [])
                      else
                        some (((eqT tKey r16.1.1 a1), ()), [])
                    else
                      some ((false, ()), [])
              else
                bif (!(r6.1.2.1 : Bool)) then
                  bif (!(eqT tKey r6.1.1 (0, 0, ()))) then
                    some ((false, ()), [])
                  else
                    Option.bind (keys_At n a0 (r5.1.1 : Int)) fun r17 =>
                    bif (eqT .bool (r17.1.2.1 : Bool) (decide (0 ≤ (r5.1.1 : Int)))) then
                      bif (!(r17.1.2.1 : Bool)) then
                        some ((true, ()), [])
                      else
                        some (((eqT tKey r17.1.1 a1), ()), [])
                    else
                      some ((false, ()), [])
                else
                  Option.bind (keys_At n a0 (r5.1.1 : Int)) fun r18 =>
                  bif (eqT .bool (r18.1.2.1 : Bool) (decide (0 ≤ (r5.1.1 : Int)))) then
                    bif (!(r18.1.2.1 : Bool)) then
                      some ((true, ()), [])
                    else
                      some (((eqT tKey r18.1.1 a1), ()), [])
                  else
                    some ((false, ()), []) := by kernel_rfl
def innkeeplaw14_KeysOrder.res : List Sh := [.d .bool]
@[reducible] def innkeeplaw14_KeysOrder.R : Type := dShL [.d .bool] × Fresh
def innkeeplaw14_KeysOrder (n : Nat) (a0 : (den tDesc)) (a1 : (List (den tKey))) (a2 : Int) : Option innkeeplaw14_KeysOrder.R := gc n 5 [.dat tDesc a0 [], .dat (.sl tKey) a1 [], .dat (.int .u8) a2 []] [.d .bool]
def innkeeplaw14_KeysOrder.l0 (n m0 : Nat) (t0 : (den tDesc)) (t1 : (List (den tKey))) (t2 : Int) (t6 : Bool) (t7 : (List (den tKey))) (t8 : Int) (o0 : (den tDesc)) : Option innkeeplaw14_KeysOrder.R :=
  loopN (fun Kn K s h => run (gc n) n innkeeplaw14_KeysOrder.c12 Kn K s h) m0 (kBlk 0 (kSeq (run (gc n) n) innkeeplaw14_KeysOrder.c10 (retK innkeeplaw14_KeysOrder.fn innkeeplaw14_KeysOrder.res) (retK innkeeplaw14_KeysOrder.fn innkeeplaw14_KeysOrder.res)) (retK innkeeplaw14_KeysOrder.fn innkeeplaw14_KeysOrder.res))
    [(0, .dat tDesc t0 []), (1, .dat (.sl tKey) t1 []), (2, .dat (.int .u8) t2 []), (3, .ptr 0 []), (6, .dat .bool t6 []), (7, .dat (.sl tKey) t7 []), (8, .dat (.int .i64) t8 [])]
    [.box tDesc o0 []]
def innkeeplaw14_KeysOrder.l1 (n m0 m1 : Nat) (t0_1 : (den tDesc)) (t1_1 : (List (den tKey))) (t2_1 : Int) (t6_1 : Bool) (t7_1 : (List (den tKey))) (t8_1 : Int) (t9_1 : Int) (t10_1 : Int) (o0_1 : (den tDesc)) : Option innkeeplaw14_KeysOrder.R :=
  loopN (fun Kn K s h => run (gc n) n innkeeplaw14_KeysOrder.c22 Kn K s h) m1 (kBlk 2 (kSeq (run (gc n) n) innkeeplaw14_KeysOrder.c20 (kSeq (run (gc n) n) innkeeplaw14_KeysOrder.c18 (kSeq (run (gc n) n) innkeeplaw14_KeysOrder.c13 (fun _ s h => loopN (fun Kn K s h => run (gc n) n innkeeplaw14_KeysOrder.c12 Kn K s h) m0 (kBlk 0 (kSeq (run (gc n) n) innkeeplaw14_KeysOrder.c10 (retK innkeeplaw14_KeysOrder.fn innkeeplaw14_KeysOrder.res) (retK innkeeplaw14_KeysOrder.fn innkeeplaw14_KeysOrder.res)) (retK innkeeplaw14_KeysOrder.fn innkeeplaw14_KeysOrder.res)) s h) (kBlk 0 (kSeq (run (gc n) n) innkeeplaw14_KeysOrder.c10 (retK innkeeplaw14_KeysOrder.fn innkeeplaw14_KeysOrder.res) (retK innkeeplaw14_KeysOrder.fn innkeeplaw14_KeysOrder.res)) (retK innkeeplaw14_KeysOrder.fn innkeeplaw14_KeysOrder.res))) (kBlk 0 (kSeq (run (gc n) n) innkeeplaw14_KeysOrder.c10 (retK innkeeplaw14_KeysOrder.fn innkeeplaw14_KeysOrder.res) (retK innkeeplaw14_KeysOrder.fn innkeeplaw14_KeysOrder.res)) (retK innkeeplaw14_KeysOrder.fn innkeeplaw14_KeysOrder.res))) (kBlk 1 (kSeq (run (gc n) n) innkeeplaw14_KeysOrder.c18 (kSeq (run (gc n) n) innkeeplaw14_KeysOrder.c13 (fun _ s h => loopN (fun Kn K s h => run (gc n) n innkeeplaw14_KeysOrder.c12 Kn K s h) m0 (kBlk 0 (kSeq (run (gc n) n) innkeeplaw14_KeysOrder.c10 (retK innkeeplaw14_KeysOrder.fn innkeeplaw14_KeysOrder.res) (retK innkeeplaw14_KeysOrder.fn innkeeplaw14_KeysOrder.res)) (retK innkeeplaw14_KeysOrder.fn innkeeplaw14_KeysOrder.res)) s h) (kBlk 0 (kSeq (run (gc n) n) innkeeplaw14_KeysOrder.c10 (retK innkeeplaw14_KeysOrder.fn innkeeplaw14_KeysOrder.res) (retK innkeeplaw14_KeysOrder.fn innkeeplaw14_KeysOrder.res)) (retK innkeeplaw14_KeysOrder.fn innkeeplaw14_KeysOrder.res))) (kBlk 0 (kSeq (run (gc n) n) innkeeplaw14_KeysOrder.c10 (retK innkeeplaw14_KeysOrder.fn innkeeplaw14_KeysOrder.res) (retK innkeeplaw14_KeysOrder.fn innkeeplaw14_KeysOrder.res)) (retK innkeeplaw14_KeysOrder.fn innkeeplaw14_KeysOrder.res))) (kBlk 0 (kSeq (run (gc n) n) innkeeplaw14_KeysOrder.c10 (retK innkeeplaw14_KeysOrder.fn innkeeplaw14_KeysOrder.res) (retK innkeeplaw14_KeysOrder.fn innkeeplaw14_KeysOrder.res)) (retK innkeeplaw14_KeysOrder.fn innkeeplaw14_KeysOrder.res)))) (kBlk 1 (kSeq (run (gc n) n) innkeeplaw14_KeysOrder.c18 (kSeq (run (gc n) n) innkeeplaw14_KeysOrder.c13 (fun _ s h => loopN (fun Kn K s h => run (gc n) n innkeeplaw14_KeysOrder.c12 Kn K s h) m0 (kBlk 0 (kSeq (run (gc n) n) innkeeplaw14_KeysOrder.c10 (retK innkeeplaw14_KeysOrder.fn innkeeplaw14_KeysOrder.res) (retK innkeeplaw14_KeysOrder.fn innkeeplaw14_KeysOrder.res)) (retK innkeeplaw14_KeysOrder.fn innkeeplaw14_KeysOrder.res)) s h) (kBlk 0 (kSeq (run (gc n) n) innkeeplaw14_KeysOrder.c10 (retK innkeeplaw14_KeysOrder.fn innkeeplaw14_KeysOrder.res) (retK innkeeplaw14_KeysOrder.fn innkeeplaw14_KeysOrder.res)) (retK innkeeplaw14_KeysOrder.fn innkeeplaw14_KeysOrder.res))) (kBlk 0 (kSeq (run (gc n) n) innkeeplaw14_KeysOrder.c10 (retK innkeeplaw14_KeysOrder.fn innkeeplaw14_KeysOrder.res) (retK innkeeplaw14_KeysOrder.fn innkeeplaw14_KeysOrder.res)) (retK innkeeplaw14_KeysOrder.fn innkeeplaw14_KeysOrder.res))) (kBlk 0 (kSeq (run (gc n) n) innkeeplaw14_KeysOrder.c10 (retK innkeeplaw14_KeysOrder.fn innkeeplaw14_KeysOrder.res) (retK innkeeplaw14_KeysOrder.fn innkeeplaw14_KeysOrder.res)) (retK innkeeplaw14_KeysOrder.fn innkeeplaw14_KeysOrder.res))))
    [(0, .dat tDesc t0_1 []), (1, .dat (.sl tKey) t1_1 []), (2, .dat (.int .u8) t2_1 []), (3, .ptr 0 []), (6, .dat .bool t6_1 []), (7, .dat (.sl tKey) t7_1 []), (8, .dat (.int .i64) t8_1 []), (9, .dat (.int .i64) t9_1 []), (10, .dat (.int .i64) t10_1 [])]
    [.box tDesc o0_1 []]
def innkeeplaw14_KeysOrder.l2 (n m0 : Nat) (t0_2 : (den tDesc)) (t1_2 : (List (den tKey))) (t2_2 : Int) (t6_2 : Bool) (t7_2 : (List (den tKey))) (t8_2 : Int) (t11_2 : Int) (t12_2 : Int) (o0_2 : (den tDesc)) : Option innkeeplaw14_KeysOrder.R :=
  loopN (fun Kn K s h => run (gc n) n innkeeplaw14_KeysOrder.c46 Kn K s h) m0 (kBlk 4 (kSeq (run (gc n) n) innkeeplaw14_KeysOrder.c44 (retK innkeeplaw14_KeysOrder.fn innkeeplaw14_KeysOrder.res) (retK innkeeplaw14_KeysOrder.fn innkeeplaw14_KeysOrder.res)) (retK innkeeplaw14_KeysOrder.fn innkeeplaw14_KeysOrder.res))
    [(0, .dat tDesc t0_2 []), (1, .dat (.sl tKey) t1_2 []), (2, .dat (.int .u8) t2_2 []), (3, .ptr 0 []), (6, .dat .bool t6_2 []), (7, .dat (.sl tKey) t7_2 []), (8, .dat (.int .i64) t8_2 []), (11, .dat (.int .i64) t11_2 []), (12, .dat (.int .i64) t12_2 [])]
    [.box tDesc o0_2 []]
def innkeeplaw14_KeysOrder.l3 (n m0 m1 : Nat) (t0_3 : (den tDesc)) (t1_3 : (List (den tKey))) (t2_3 : Int) (t6_3 : Bool) (t7_3 : (List (den tKey))) (t8_3 : Int) (t11_3 : Int) (t12_3 : Int) (t13_3 : Bool) (t14_3 : Int) (o0_3 : (den tDesc)) : Option innkeeplaw14_KeysOrder.R :=
  loopN (fun Kn K s h => run (gc n) n innkeeplaw14_KeysOrder.c56 Kn K s h) m1 (kBlk 6 (kSeq (run (gc n) n) innkeeplaw14_KeysOrder.c54 (kSeq (run (gc n) n) innkeeplaw14_KeysOrder.c52 (kSeq (run (gc n) n) innkeeplaw14_KeysOrder.c47 (fun _ s h => loopN (fun Kn K s h => run (gc n) n innkeeplaw14_KeysOrder.c46 Kn K s h) m0 (kBlk 4 (kSeq (run (gc n) n) innkeeplaw14_KeysOrder.c44 (retK innkeeplaw14_KeysOrder.fn innkeeplaw14_KeysOrder.res) (retK innkeeplaw14_KeysOrder.fn innkeeplaw14_KeysOrder.res)) (retK innkeeplaw14_KeysOrder.fn innkeeplaw14_KeysOrder.res)) s h) (kBlk 4 (kSeq (run (gc n) n) innkeeplaw14_KeysOrder.c44 (retK innkeeplaw14_KeysOrder.fn innkeeplaw14_KeysOrder.res) (retK innkeeplaw14_KeysOrder.fn innkeeplaw14_KeysOrder.res)) (retK innkeeplaw14_KeysOrder.fn innkeeplaw14_KeysOrder.res))) (kBlk 4 (kSeq (run (gc n) n) innkeeplaw14_KeysOrder.c44 (retK innkeeplaw14_KeysOrder.fn innkeeplaw14_KeysOrder.res) (retK innkeeplaw14_KeysOrder.fn innkeeplaw14_KeysOrder.res)) (retK innkeeplaw14_KeysOrder.fn innkeeplaw14_KeysOrder.res))) (kBlk 5 (kSeq (run (gc n) n) innkeeplaw14_KeysOrder.c52 (kSeq (run (gc n) n) innkeeplaw14_KeysOrder.c47 (fun _ s h => loopN (fun Kn K s h => run (gc n) n innkeeplaw14_KeysOrder.c46 Kn K s h) m0 (kBlk 4 (kSeq (run (gc n) n) innkeeplaw14_KeysOrder.c44 (retK innkeeplaw14_KeysOrder.fn innkeeplaw14_KeysOrder.res) (retK innkeeplaw14_KeysOrder.fn innkeeplaw14_KeysOrder.res)) (retK innkeeplaw14_KeysOrder.fn innkeeplaw14_KeysOrder.res)) s h) (kBlk 4 (kSeq (run (gc n) n) innkeeplaw14_KeysOrder.c44 (retK innkeeplaw14_KeysOrder.fn innkeeplaw14_KeysOrder.res) (retK innkeeplaw14_KeysOrder.fn innkeeplaw14_KeysOrder.res)) (retK innkeeplaw14_KeysOrder.fn innkeeplaw14_KeysOrder.res))) (kBlk 4 (kSeq (run (gc n) n) innkeeplaw14_KeysOrder.c44 (retK innkeeplaw14_KeysOrder.fn innkeeplaw14_KeysOrder.res) (retK innkeeplaw14_KeysOrder.fn innkeeplaw14_KeysOrder.res)) (retK innkeeplaw14_KeysOrder.fn innkeeplaw14_KeysOrder.res))) (kBlk 4 (kSeq (run (gc n) n) innkeeplaw14_KeysOrder.c44 (retK innkeeplaw14_KeysOrder.fn innkeeplaw14_KeysOrder.res) (retK innkeeplaw14_KeysOrder.fn innkeeplaw14_KeysOrder.res)) (retK innkeeplaw14_KeysOrder.fn innkeeplaw14_KeysOrder.res)))) (kBlk 5 (kSeq (run (gc n) n) innkeeplaw14_KeysOrder.c52 (kSeq (run (gc n) n) innkeeplaw14_KeysOrder.c47 (fun _ s h => loopN (fun Kn K s h => run (gc n) n innkeeplaw14_KeysOrder.c46 Kn K s h) m0 (kBlk 4 (kSeq (run (gc n) n) innkeeplaw14_KeysOrder.c44 (retK innkeeplaw14_KeysOrder.fn innkeeplaw14_KeysOrder.res) (retK innkeeplaw14_KeysOrder.fn innkeeplaw14_KeysOrder.res)) (retK innkeeplaw14_KeysOrder.fn innkeeplaw14_KeysOrder.res)) s h) (kBlk 4 (kSeq (run (gc n) n) innkeeplaw14_KeysOrder.c44 (retK innkeeplaw14_KeysOrder.fn innkeeplaw14_KeysOrder.res) (retK innkeeplaw14_KeysOrder.fn innkeeplaw14_KeysOrder.res)) (retK innkeeplaw14_KeysOrder.fn innkeeplaw14_KeysOrder.res))) (kBlk 4 (kSeq (run (gc n) n) innkeeplaw14_KeysOrder.c44 (retK innkeeplaw14_KeysOrder.fn innkeeplaw14_KeysOrder.res) (retK innkeeplaw14_KeysOrder.fn innkeeplaw14_KeysOrder.res)) (retK innkeeplaw14_KeysOrder.fn innkeeplaw14_KeysOrder.res))) (kBlk 4 (kSeq (run (gc n) n) innkeeplaw14_KeysOrder.c44 (retK innkeeplaw14_KeysOrder.fn innkeeplaw14_KeysOrder.res) (retK innkeeplaw14_KeysOrder.fn innkeeplaw14_KeysOrder.res)) (retK innkeeplaw14_KeysOrder.fn innkeeplaw14_KeysOrder.res))))
    [(0, .dat tDesc t0_3 []), (1, .dat (.sl tKey) t1_3 []), (2, .dat (.int .u8) t2_3 []), (3, .ptr 0 []), (6, .dat .bool t6_3 []), (7, .dat (.sl tKey) t7_3 []), (8, .dat (.int .i64) t8_3 []), (11, .dat (.int .i64) t11_3 []), (12, .dat (.int .i64) t12_3 []), (13, .dat .bool t13_3 []), (14, .dat (.int .i64) t14_3 [])]
    [.box tDesc o0_3 []]
def innkeeplaw14_KeysOrder.l4 (n m0 : Nat) (t0_4 : (den tDesc)) (t1_4 : (List (den tKey))) (t2_4 : Int) (t6_4 : Bool) (t7_4 : (List (den tKey))) (t8_4 : Int) (t11_4 : Int) (t12_4 : Int) (t17_4 : Int) (o0_4 : (den tDesc)) (o3_4 : (List (den tKey))) : Option innkeeplaw14_KeysOrder.R :=
  loopN (fun Kn K s h => run (gc n) n innkeeplaw14_KeysOrder.c80 Kn K s h) m0 (kBlk 8 (kSeq (run (gc n) n) innkeeplaw14_KeysOrder.c78 (retK innkeeplaw14_KeysOrder.fn innkeeplaw14_KeysOrder.res) (retK innkeeplaw14_KeysOrder.fn innkeeplaw14_KeysOrder.res)) (retK innkeeplaw14_KeysOrder.fn innkeeplaw14_KeysOrder.res))
    [(0, .dat tDesc t0_4 []), (1, .dat (.sl tKey) t1_4 []), (2, .dat (.int .u8) t2_4 []), (3, .ptr 0 []), (6, .dat .bool t6_4 []), (7, .dat (.sl tKey) t7_4 []), (8, .dat (.int .i64) t8_4 []), (11, .dat (.int .i64) t11_4 []), (12, .dat (.int .i64) t12_4 []), (16, .dat (.sl tKey) ([] : List (den tKey)) [([], some 3)]), (17, .dat (.int .i64) t17_4 [])]
    [.box tDesc o0_4 [], .none, .none, .arr tKey o3_4]
theorem innkeeplaw14_KeysOrder.l0_eq (n m0 : Nat) (t0 : (den tDesc)) (t1 : (List (den tKey))) (t2 : Int) (t6 : Bool) (t7 : (List (den tKey))) (t8 : Int) (o0 : (den tDesc)) : innkeeplaw14_KeysOrder.l0 n (m0 + 1) t0 t1 t2 t6 t7 t8 o0 =
  bif (decide (t8 < ((List.length t1) : Int))) then
    innkeeplaw14_KeysOrder.l1 n m0 n t0 t1 t2 t6 t7 t8 0 0 o0
  else
    innkeeplaw14_KeysOrder.l2 n n t0 t1 t2 t6 t7 t8 (-1) 0 o0 := by kernel_rfl
theorem innkeeplaw14_KeysOrder.l1_eq (n m0 m1 : Nat) (t0_1 : (den tDesc)) (t1_1 : (List (den tKey))) (t2_1 : Int) (t6_1 : Bool) (t7_1 : (List (den tKey))) (t8_1 : Int) (t9_1 : Int) (t10_1 : Int) (o0_1 : (den tDesc)) : innkeeplaw14_KeysOrder.l1 n m0 (m1 + 1) t0_1 t1_1 t2_1 t6_1 t7_1 t8_1 t9_1 t10_1 o0_1 =
  bif (decide (t10_1 < ((List.length t7_1) : Int))) then
    if (0 : Int) ≤ t10_1 ∧ t10_1 < (((List.length t7_1) : Nat) : Int) then
    if (0 : Int) ≤ t8_1 ∧ t8_1 < (((List.length t1_1) : Nat) : Int) then
    bif (eqT tKey (List.getD t7_1 (Int.toNat t10_1) (dft tKey) : (den tKey)) (List.getD t1_1 (Int.toNat t8_1) (dft tKey) : (den tKey))) then
      innkeeplaw14_KeysOrder.l1 n m0 m1 t0_1 t1_1 t2_1 t6_1 t7_1 t8_1 (IntKind.wrap .i64 (t9_1 + 1)) (IntKind.wrap .i64 (t10_1 + 1)) o0_1
    else
      innkeeplaw14_KeysOrder.l1 n m0 m1 t0_1 t1_1 t2_1 t6_1 t7_1 t8_1 t9_1 (IntKind.wrap .i64 (t10_1 + 1)) o0_1
    else none
    else none
  else
    bif (!(decide (t9_1 = 1))) then
      some ((false, ()), [])
    else
      innkeeplaw14_KeysOrder.l0 n m0 t0_1 t1_1 t2_1 t6_1 t7_1 (IntKind.wrap .i64 (t8_1 + 1)) o0_1 := by kernel_rfl
theorem innkeeplaw14_KeysOrder.l2_eq (n m0 : Nat) (t0_2 : (den tDesc)) (t1_2 : (List (den tKey))) (t2_2 : Int) (t6_2 : Bool) (t7_2 : (List (den tKey))) (t8_2 : Int) (t11_2 : Int) (t12_2 : Int) (o0_2 : (den tDesc)) : innkeeplaw14_KeysOrder.l2 n (m0 + 1) t0_2 t1_2 t2_2 t6_2 t7_2 t8_2 t11_2 t12_2 o0_2 =
  bif (decide (t12_2 < ((List.length t7_2) : Int))) then
    innkeeplaw14_KeysOrder.l3 n m0 n t0_2 t1_2 t2_2 t6_2 t7_2 t8_2 t11_2 t12_2 false 0 o0_2
  else
    innkeeplaw14_KeysOrder.l4 n n t0_2 t1_2 t2_2 t6_2 t7_2 t8_2 t11_2 t12_2 0 o0_2 ([] : List (den tKey)) := by kernel_rfl
theorem innkeeplaw14_KeysOrder.l3_eq (n m0 m1 : Nat) (t0_3 : (den tDesc)) (t1_3 : (List (den tKey))) (t2_3 : Int) (t6_3 : Bool) (t7_3 : (List (den tKey))) (t8_3 : Int) (t11_3 : Int) (t12_3 : Int) (t13_3 : Bool) (t14_3 : Int) (o0_3 : (den tDesc)) : innkeeplaw14_KeysOrder.l3 n m0 (m1 + 1) t0_3 t1_3 t2_3 t6_3 t7_3 t8_3 t11_3 t12_3 t13_3 t14_3 o0_3 =
  bif (decide (t14_3 < ((List.length t1_3) : Int))) then
    bif t13_3 then
      innkeeplaw14_KeysOrder.l3 n m0 m1 t0_3 t1_3 t2_3 t6_3 t7_3 t8_3 t11_3 t12_3 true (IntKind.wrap .i64 (t14_3 + 1)) o0_3
    else
      if (0 : Int) ≤ t14_3 ∧ t14_3 < (((List.length t1_3) : Nat) : Int) then
      if (0 : Int) ≤ t12_3 ∧ t12_3 < (((List.length t7_3) : Nat) : Int) then
      innkeeplaw14_KeysOrder.l3 n m0 m1 t0_3 t1_3 t2_3 t6_3 t7_3 t8_3 t11_3 t12_3 (eqT tKey (List.getD t1_3 (Int.toNat t14_3) (dft tKey) : (den tKey)) (List.getD t7_3 (Int.toNat t12_3) (dft tKey) : (den tKey))) (IntKind.wrap .i64 (t14_3 + 1)) o0_3
      else none
      else none
  else
    if (0 : Int) ≤ t12_3 ∧ t12_3 < (((List.length t7_3) : Nat) : Int) then
    Option.bind (keys_Place n o0_3 (List.getD t7_3 (Int.toNat t12_3) (dft tKey) : (den tKey))) fun r7 =>
    bif (!t13_3) then
      some ((false, ()), [])
    else
      bif (decide (0 < t12_3)) then
        if (0 : Int) ≤ (IntKind.wrap .i64 (t12_3 - 1)) ∧ (IntKind.wrap .i64 (t12_3 - 1)) < (((List.length t7_3) : Nat) : Int) then
        if (0 : Int) ≤ t12_3 ∧ t12_3 < (((List.length t7_3) : Nat) : Int) then
        Option.bind (keys_Less n (List.getD t7_3 (Int.toNat (IntKind.wrap .i64 (t12_3 - 1))) (dft tKey) : (den tKey)) (List.getD t7_3 (Int.toNat t12_3) (dft tKey) : (den tKey))) fun r8 =>
        bif (!(r8.1.1 : Bool)) then
          some ((false, ()), [])
        else
          bif (decide (0 ≤ (r7.1.1 : Int))) then
            bif (decide ((r7.1.1 : Int) ≤ t11_3)) then
              some ((false, ()), [])
            else
              innkeeplaw14_KeysOrder.l2 n m0 t0_3 t1_3 t2_3 t6_3 t7_3 t8_3 (if t11_3 < (r7.1.1 : Int) then (r7.1.1 : Int) else t11_3) (IntKind.wrap .i64 (t12_3 + 1)) o0_3
          else
            innkeeplaw14_KeysOrder.l2 n m0 t0_3 t1_3 t2_3 t6_3 t7_3 t8_3 (if t11_3 < (r7.1.1 : Int) then (r7.1.1 : Int) else t11_3) (IntKind.wrap .i64 (t12_3 + 1)) o0_3
        else none
        else none
      else
        bif (decide (0 ≤ (r7.1.1 : Int))) then
          bif (decide ((r7.1.1 : Int) ≤ t11_3)) then
            some ((false, ()), [])
          else
            innkeeplaw14_KeysOrder.l2 n m0 t0_3 t1_3 t2_3 t6_3 t7_3 t8_3 (if t11_3 < (r7.1.1 : Int) then (r7.1.1 : Int) else t11_3) (IntKind.wrap .i64 (t12_3 + 1)) o0_3
        else
          innkeeplaw14_KeysOrder.l2 n m0 t0_3 t1_3 t2_3 t6_3 t7_3 t8_3 (if t11_3 < (r7.1.1 : Int) then (r7.1.1 : Int) else t11_3) (IntKind.wrap .i64 (t12_3 + 1)) o0_3
    else none := by kernel_rfl
theorem innkeeplaw14_KeysOrder.l4_eq (n m0 : Nat) (t0_4 : (den tDesc)) (t1_4 : (List (den tKey))) (t2_4 : Int) (t6_4 : Bool) (t7_4 : (List (den tKey))) (t8_4 : Int) (t11_4 : Int) (t12_4 : Int) (t17_4 : Int) (o0_4 : (den tDesc)) (o3_4 : (List (den tKey))) : innkeeplaw14_KeysOrder.l4 n (m0 + 1) t0_4 t1_4 t2_4 t6_4 t7_4 t8_4 t11_4 t12_4 t17_4 o0_4 o3_4 =
  bif (decide (t17_4 < ((List.length t1_4) : Int))) then
    if ((List.length t1_4) : Int) = 0 then none else
    if (0 : Int) ≤ (Int.tmod (IntKind.wrap .i64 (t17_4 + (IntKind.wrap .i64 (t2_4)))) ((List.length t1_4) : Int)) ∧ (Int.tmod (IntKind.wrap .i64 (t17_4 + (IntKind.wrap .i64 (t2_4)))) ((List.length t1_4) : Int)) < (((List.length t1_4) : Nat) : Int) then
    if (List.length o3_4) + 1 ≤ 1048576 then
    innkeeplaw14_KeysOrder.l4 n m0 t0_4 t1_4 t2_4 t6_4 t7_4 t8_4 t11_4 t12_4 (IntKind.wrap .i64 (t17_4 + 1)) o0_4 (o3_4 ++ ([(List.getD t1_4 (Int.toNat (Int.tmod (IntKind.wrap .i64 (t17_4 + (IntKind.wrap .i64 (t2_4)))) ((List.length t1_4) : Int))) (dft tKey) : (den tKey))] : List (den tKey)))
    else none
    else none
  else
    Option.bind (keys_Sort n t7_4) fun r9 =>
    Option.bind (innkeepref14_Same n (r9.1.1 : (List (den tKey))) t7_4) fun r10 =>
    bif (r10.1.1 : Bool) then
      Option.bind (keys_Sort n o3_4) fun r11 =>
      Option.bind (innkeepref14_Same n (r11.1.1 : (List (den tKey))) t7_4) fun r12 =>
      some (((r12.1.1 : Bool), ()), [])
    else
      some ((false, ()), []) := by kernel_rfl
theorem innkeeplaw14_KeysOrder.eq (n : Nat) (a0 : (den tDesc)) (a1 : (List (den tKey))) (a2 : Int) : innkeeplaw14_KeysOrder (n + 1) a0 a1 a2 =
  Option.bind (innkeeplaw14_awake n) fun r1 =>
  bif (!(r1.1.1 : Bool)) then
    Option.bind (innkeeplaw14_awake n) fun r2 =>
    some (((r2.1.1 : Bool), ()), [])
  else
    Option.bind (innkeepref06_Few n (a0, ([] : List Int), ([] : List Int), ([] : List (den tKey)), ())) fun r3 =>
    bif (!(r3.1.1 : Bool)) then
      Option.bind (innkeeplaw14_awake n) fun r4 =>
      some (((r4.1.1 : Bool), ()), [])
    else
      bif (decide (40 < ((List.length a1) : Int))) then
        Option.bind (innkeeplaw14_awake n) fun r5 =>
        some (((r5.1.1 : Bool), ()), [])
      else
        Option.bind (keys_Sort n a1) fun r6 =>
        innkeeplaw14_KeysOrder.l0 n n a0 a1 a2 false (r6.1.1 : (List (den tKey))) 0 a0 := by kernel_rfl
def innkeeplaw14_KeysKeep.res : List Sh := [.d .bool]
@[reducible] def innkeeplaw14_KeysKeep.R : Type := dShL [.d .bool] × Fresh
def innkeeplaw14_KeysKeep (n : Nat) (a0 : (List (den tKey))) : Option innkeeplaw14_KeysKeep.R := gc n 6 [.dat (.sl tKey) a0 []] [.d .bool]
def innkeeplaw14_KeysKeep.l0 (n m0 : Nat) (t0 : (List (den tKey))) (t2 : Bool) (t5 : Int) (o1 : (List (den tKey))) (o2 : (List (den tKey))) : Option innkeeplaw14_KeysKeep.R :=
  loopN (fun Kn K s h => run (gc n) n innkeeplaw14_KeysKeep.c14 Kn K s h) m0 (kBlk 0 (kSeq (run (gc n) n) innkeeplaw14_KeysKeep.c12 (retK innkeeplaw14_KeysKeep.fn innkeeplaw14_KeysKeep.res) (retK innkeeplaw14_KeysKeep.fn innkeeplaw14_KeysKeep.res)) (retK innkeeplaw14_KeysKeep.fn innkeeplaw14_KeysKeep.res))
    [(0, .dat (.sl tKey) t0 []), (2, .dat .bool t2 []), (3, .dat (.sl tKey) ([] : List (den tKey)) [([], some 1)]), (4, .dat (.sl tKey) ([] : List (den tKey)) [([], some 2)]), (5, .dat (.int .i64) t5 [])]
    [.dead, .frz tKey o1, .arr tKey o2]
theorem innkeeplaw14_KeysKeep.l0_eq (n m0 : Nat) (t0 : (List (den tKey))) (t2 : Bool) (t5 : Int) (o1 : (List (den tKey))) (o2 : (List (den tKey))) : innkeeplaw14_KeysKeep.l0 n (m0 + 1) t0 t2 t5 o1 o2 =
  bif (decide (t5 < ((List.length o2) : Int))) then
    if (0 : Int) ≤ t5 ∧ t5 < (((List.length o2) : Nat) : Int) then
    innkeeplaw14_KeysKeep.l0 n m0 t0 t2 (IntKind.wrap .i64 (t5 + 1)) o1 (List.set o2 (Int.toNat t5) (9, 0, ()) : (List (den tKey)))
    else none
  else
    Option.bind (innkeepref14_Same n o1 t0) fun r5 =>
    some (((r5.1.1 : Bool), ()), []) := by kernel_rfl
theorem innkeeplaw14_KeysKeep.eq (n : Nat) (a0 : (List (den tKey))) : innkeeplaw14_KeysKeep (n + 1) a0 =
  Option.bind (innkeeplaw14_awake n) fun r1 =>
  bif (!(r1.1.1 : Bool)) then
    Option.bind (innkeeplaw14_awake n) fun r2 =>
    some (((r2.1.1 : Bool), ()), [])
  else
    bif (decide (60 < ((List.length a0) : Int))) then
      Option.bind (innkeeplaw14_awake n) fun r3 =>
      some (((r3.1.1 : Bool), ()), [])
    else
      if 0 + (List.length a0) ≤ 1048576 then
      Option.bind (keys_Sort n (([] : List (den tKey)) ++ a0)) fun r4 =>
      bif (keepAll r4.2 [((0, []), 2)]) then
        innkeeplaw14_KeysKeep.l0 n n a0 false 0 (([] : List (den tKey)) ++ a0) (r4.1.1 : (List (den tKey)))
      else
        none
      else none := by kernel_rfl
def innkeeplaw14_KeysFrom.res : List Sh := [.d .bool]
@[reducible] def innkeeplaw14_KeysFrom.R : Type := dShL [.d .bool] × Fresh
def innkeeplaw14_KeysFrom (n : Nat) (a0 : (den tKey)) (a1 : (den tKey)) (a2 : (den tKey)) : Option innkeeplaw14_KeysFrom.R := gc n 7 [.dat tKey a0 [], .dat tKey a1 [], .dat tKey a2 []] [.d .bool]
theorem innkeeplaw14_KeysFrom.eq (n : Nat) (a0 : (den tKey)) (a1 : (den tKey)) (a2 : (den tKey)) : innkeeplaw14_KeysFrom (n + 1) a0 a1 a2 =
  Option.bind (innkeeplaw14_awake n) fun r1 =>
  bif (!(r1.1.1 : Bool)) then
    some ((false, ()), [])
  else
    Option.bind (keys_Less n a0 a0) fun r2 =>
    bif (r2.1.1 : Bool) then
      some ((false, ()), [])
    else
      Option.bind (keys_Less n a0 a1) fun r3 =>
      bif (r3.1.1 : Bool) then
        Option.bind (keys_Less n a1 a0) fun r4 =>
        bif (r4.1.1 : Bool) then
          some ((false, ()), [])
        else
          bif (!(eqT tKey a0 a1)) then
            Option.bind (keys_Less n a0 a1) fun r5 =>
            bif (!(r5.1.1 : Bool)) then
              Option.bind (keys_Less n a1 a0) fun r6 =>
              bif (!(r6.1.1 : Bool)) then
                some ((false, ()), [])
              else
                Option.bind (keys_Less n a0 a1) fun r7 =>
                bif (r7.1.1 : Bool) then
                  Option.bind (keys_Less n a1 a2) fun r8 =>
                  bif (r8.1.1 : Bool) then
                    Option.bind (keys_Less n a0 a2) fun r9 =>
                    bif (!(r9.1.1 : Bool)) then
                      some ((false, ()), [])
                    else
                      Option.bind (keys_Sort n ([a0, a1, a2] : List (den tKey))) fun r10 =>
                      bif (decide (1 ≤ ((List.length (r10.1.1 : (List (den tKey)))) : Int))) then
                        bif (decide (((List.length (r10.1.1 : (List (den tKey)))) : Int) ≤ 3)) then
                          bif (eqT tKey a0 a1) then
                            bif (eqT .bool (decide (((List.length (r10.1.1 : (List (den tKey)))) : Int) = 1)) (eqT tKey a1 a2)) then
                              if (0 : Int) ≤ 0 ∧ 0 < (((List.length (r10.1.1 : (List (den tKey)))) : Nat) : Int) then
                              Option.bind (keys_Less n a0 (List.getD (r10.1.1 : (List (den tKey))) 0 (dft tKey) : (den tKey))) fun r11 =>
                              bif (!(r11.1.1 : Bool)) then
                                if (0 : Int) ≤ 0 ∧ 0 < (((List.length (r10.1.1 : (List (den tKey)))) : Nat) : Int) then
                                Option.bind (keys_Less n a1 (List.getD (r10.1.1 : (List (den tKey))) 0 (dft tKey) : (den tKey))) fun r12 =>
                                bif (!(r12.1.1 : Bool)) then
                                  if (0 : Int) ≤ 0 ∧ 0 < (((List.length (r10.1.1 : (List (den tKey)))) : Nat) : Int) then
                                  Option.bind (keys_Less n a2 (List.getD (r10.1.1 : (List (den tKey))) 0 (dft tKey) : (den tKey))) fun r13 =>
                                  some (((!(r13.1.1 : Bool)), ()), [])
                                  else none
                                else
                                  some ((false, ()), [])
                                else none
                              else
                                some ((false, ()), [])
                              else none
                            else
                              some ((false, ()), [])
                          else
                            bif (eqT .bool (decide (((List.length (r10.1.1 : (List (den tKey)))) : Int) = 1)) false) then
                              if (0 : Int) ≤ 0 ∧ 0 < (((List.length (r10.1.1 : (List (den tKey)))) : Nat) : Int) then
                              Option.bind (keys_Less n a0 (List.getD (r10.1.1 : (List (den tKey))) 0 (dft tKey) : (den tKey))) fun r14 =>
                              bif (!(r14.1.1 : Bool)) then
                                if (0 : Int) ≤ 0 ∧ 0 < (((List.length (r10.1.1 : (List (den tKey)))) : Nat) : Int) then
                                Option.bind (keys_Less n a1 (List.getD (r10.1.1 : (List (den tKey))) 0 (dft tKey) : (den tKey))) fun r15 =>
                                bif (!(r15.1.1 : Bool)) then
                                  if (0 : Int) ≤ 0 ∧ 0 < (((List.length (r10.1.1 : (List (den tKey)))) : Nat) : Int) then
                                  Option.bind (keys_Less n a2 (List.getD (r10.1.1 : (List (den tKey))) 0 (dft tKey) : (den tKey))) fun r16 =>
                                  some (((!(r16.1.1 : Bool)), ()), [])
                                  else none
                                else
                                  some ((false, ()), [])
                                else none
                              else
                                some ((false, ()), [])
                              else none
                            else
                              some ((false, ()), [])
                        else
                          some ((false, ()), [])
                      else
                        some ((false, ()), [])
                  else
                    Option.bind (keys_Sort n ([a0, a1, a2] : List (den tKey))) fun r17 =>
                    bif (decide (1 ≤ ((List.length (r17.1.1 : (List (den tKey)))) : Int))) then
                      bif (decide (((List.length (r17.1.1 : (List (den tKey)))) : Int) ≤ 3)) then
                        bif (eqT tKey a0 a1) then
                          bif (eqT .bool (decide (((List.length (r17.1.1 : (List (den tKey)))) : Int) = 1)) (eqT tKey a1 a2)) then
                            if (0 : Int) ≤ 0 ∧ 0 < (((List.length (r17.1.1 : (List (den tKey)))) : Nat) : Int) then
                            Option.bind (keys_Less n a0 (List.getD (r17.1.1 : (List (den tKey))) 0 (dft tKey) : (den tKey))) fun r18 =>
                            bif (!(r18.1.1 : Bool)) then
                              if (0 : Int) ≤ 0 ∧ 0 < (((List.length (r17.1.1 : (List (den tKey)))) : Nat) : Int) then
                              Option.bind (keys_Less n a1 (List.getD (r17.1.1 : (List (den tKey))) 0 (dft tKey) : (den tKey))) fun r19 =>
                              bif (!(r19.1.1 : Bool)) then
                                if (0 : Int) ≤ 0 ∧ 0 < (((List.length (r17.1.1 : (List (den tKey)))) : Nat) : Int) then
                                Option.bind (keys_Less n a2 (List.getD (r17.1.1 : (List (den tKey))) 0 (dft tKey) : (den tKey))) fun r20 =>
                                some (((!(r20.1.1 : Bool)), ()), [])
                                else none
                              else
                                some ((false, ()), [])
                              else none
                            else
                              some ((false, ()), [])
                            else none
                          else
                            some ((false, ()), [])
                        else
                          bif (eqT .bool (decide (((List.length (r17.1.1 : (List (den tKey)))) : Int) = 1)) false) then
                            if (0 : Int) ≤ 0 ∧ 0 < (((List.length (r17.1.1 : (List (den tKey)))) : Nat) : Int) then
                            Option.bind (keys_Less n a0 (List.getD (r17.1.1 : (List (den tKey))) 0 (dft tKey) : (den tKey))) fun r21 =>
                            bif (!(r21.1.1 : Bool)) then
                              if (0 : Int) ≤ 0 ∧ 0 < (((List.length (r17.1.1 : (List (den tKey)))) : Nat) : Int) then
                              Option.bind (keys_Less n a1 (List.getD (r17.1.1 : (List (den tKey))) 0 (dft tKey) : (den tKey))) fun r22 =>
                              bif (!(r22.1.1 : Bool)) then
                                if (0 : Int) ≤ 0 ∧ 0 < (((List.length (r17.1.1 : (List (den tKey)))) : Nat) : Int) then
                                Option.bind (keys_Less n a2 (List.getD (r17.1.1 : (List (den tKey))) 0 (dft tKey) : (den tKey))) fun r23 =>
                                some (((!(r23.1.1 : Bool)), ()), [])
                                else none
                              else
                                some ((false, ()), [])
                              else none
                            else
                              some ((false, ()), [])
                            else none
                          else
                            some ((false, ()), [])
                      else
                        some ((false, ()), [])
                    else
                      some ((false, ()), [])
                else
                  Option.bind (keys_Sort n ([a0, a1, a2] : List (den tKey))) fun r24 =>
                  bif (decide (1 ≤ ((List.length (r24.1.1 : (List (den tKey)))) : Int))) then
                    bif (decide (((List.length (r24.1.1 : (List (den tKey)))) : Int) ≤ 3)) then
                      bif (eqT tKey a0 a1) then
                        bif (eqT .bool (decide (((List.length (r24.1.1 : (List (den tKey)))) : Int) = 1)) (eqT tKey a1 a2)) then
                          if (0 : Int) ≤ 0 ∧ 0 < (((List.length (r24.1.1 : (List (den tKey)))) : Nat) : Int) then
                          Option.bind (keys_Less n a0 (List.getD (r24.1.1 : (List (den tKey))) 0 (dft tKey) : (den tKey))) fun r25 =>
                          bif (!(r25.1.1 : Bool)) then
                            if (0 : Int) ≤ 0 ∧ 0 < (((List.length (r24.1.1 : (List (den tKey)))) : Nat) : Int) then
                            Option.bind (keys_Less n a1 (List.getD (r24.1.1 : (List (den tKey))) 0 (dft tKey) : (den tKey))) fun r26 =>
                            bif (!(r26.1.1 : Bool)) then
                              if (0 : Int) ≤ 0 ∧ 0 < (((List.length (r24.1.1 : (List (den tKey)))) : Nat) : Int) then
                              Option.bind (keys_Less n a2 (List.getD (r24.1.1 : (List (den tKey))) 0 (dft tKey) : (den tKey))) fun r27 =>
                              some (((!(r27.1.1 : Bool)), ()), [])
                              else none
                            else
                              some ((false, ()), [])
                            else none
                          else
                            some ((false, ()), [])
                          else none
                        else
                          some ((false, ()), [])
                      else
                        bif (eqT .bool (decide (((List.length (r24.1.1 : (List (den tKey)))) : Int) = 1)) false) then
                          if (0 : Int) ≤ 0 ∧ 0 < (((List.length (r24.1.1 : (List (den tKey)))) : Nat) : Int) then
                          Option.bind (keys_Less n a0 (List.getD (r24.1.1 : (List (den tKey))) 0 (dft tKey) : (den tKey))) fun r28 =>
                          bif (!(r28.1.1 : Bool)) then
                            if (0 : Int) ≤ 0 ∧ 0 < (((List.length (r24.1.1 : (List (den tKey)))) : Nat) : Int) then
                            Option.bind (keys_Less n a1 (List.getD (r24.1.1 : (List (den tKey))) 0 (dft tKey) : (den tKey))) fun r29 =>
                            bif (!(r29.1.1 : Bool)) then
                              if (0 : Int) ≤ 0 ∧ 0 < (((List.length (r24.1.1 : (List (den tKey)))) : Nat) : Int) then
                              Option.bind (keys_Less n a2 (List.getD (r24.1.1 : (List (den tKey))) 0 (dft tKey) : (den tKey))) fun r30 =>
                              some (((!(r30.1.1 : Bool)), ()), [])
                              else none
                            else
                              some ((false, ()), [])
                            else none
                          else
                            some ((false, ()), [])
                          else none
                        else
                          some ((false, ()), [])
                    else
                      some ((false, ()), [])
                  else
                    some ((false, ()), [])
            else
              Option.bind (keys_Less n a0 a1) fun r31 =>
              bif (r31.1.1 : Bool) then
                Option.bind (keys_Less n a1 a2) fun r32 =>
                bif (r32.1.1 : Bool) then
                  Option.bind (keys_Less n a0 a2) fun r33 =>
                  bif (!(r33.1.1 : Bool)) then
                    some ((false, ()), [])
                  else
                    Option.bind (keys_Sort n ([a0, a1, a2] : List (den tKey))) fun r34 =>
                    bif (decide (1 ≤ ((List.length (r34.1.1 : (List (den tKey)))) : Int))) then
                      bif (decide (((List.length (r34.1.1 : (List (den tKey)))) : Int) ≤ 3)) then
                        bif (eqT tKey a0 a1) then
                          bif (eqT .bool (decide (((List.length (r34.1.1 : (List (den tKey)))) : Int) = 1)) (eqT tKey a1 a2)) then
                            if (0 : Int) ≤ 0 ∧ 0 < (((List.length (r34.1.1 : (List (den tKey)))) : Nat) : Int) then
                            Option.bind (keys_Less n a0 (List.getD (r34.1.1 : (List (den tKey))) 0 (dft tKey) : (den tKey))) fun r35 =>
                            bif (!(r35.1.1 : Bool)) then
                              if (0 : Int) ≤ 0 ∧ 0 < (((List.length (r34.1.1 : (List (den tKey)))) : Nat) : Int) then
                              Option.bind (keys_Less n a1 (List.getD (r34.1.1 : (List (den tKey))) 0 (dft tKey) : (den tKey))) fun r36 =>
                              bif (!(r36.1.1 : Bool)) then
                                if (0 : Int) ≤ 0 ∧ 0 < (((List.length (r34.1.1 : (List (den tKey)))) : Nat) : Int) then
                                Option.bind (keys_Less n a2 (List.getD (r34.1.1 : (List (den tKey))) 0 (dft tKey) : (den tKey))) fun r37 =>
                                some (((!(r37.1.1 : Bool)), ()), [])
                                else none
                              else
                                some ((false, ()), [])
                              else none
                            else
                              some ((false, ()), [])
                            else none
                          else
                            some ((false, ()), [])
                        else
                          bif (eqT .bool (decide (((List.length (r34.1.1 : (List (den tKey)))) : Int) = 1)) false) then
                            if (0 : Int) ≤ 0 ∧ 0 < (((List.length (r34.1.1 : (List (den tKey)))) : Nat) : Int) then
                            Option.bind (keys_Less n a0 (List.getD (r34.1.1 : (List (den tKey))) 0 (dft tKey) : (den tKey))) fun r38 =>
                            bif (!(r38.1.1 : Bool)) then
                              if (0 : Int) ≤ 0 ∧ 0 < (((List.length (r34.1.1 : (List (den tKey)))) : Nat) : Int) then
                              Option.bind (keys_Less n a1 (List.getD (r34.1.1 : (List (den tKey))) 0 (dft tKey) : (den tKey))) fun r39 =>
                              bif (!(r39.1.1 : Bool)) then
                                if (0 : Int) ≤ 0 ∧ 0 < (((List.length (r34.1.1 : (List (den tKey)))) : Nat) : Int) then
                                Option.bind (keys_Less n a2 (List.getD (r34.1.1 : (List (den tKey))) 0 (dft tKey) : (den tKey))) fun r40 =>
                                some (((!(r40.1.1 : Bool)), ()), [])
                                else none
                              else
                                some ((false, ()), [])
                              else none
                            else
                              some ((false, ()), [])
                            else none
                          else
                            some ((false, ()), [])
                      else
                        some ((false, ()), [])
                    else
                      some ((false, ()), [])
                else
                  Option.bind (keys_Sort n ([a0, a1, a2] : List (den tKey))) fun r41 =>
                  bif (decide (1 ≤ ((List.length (r41.1.1 : (List (den tKey)))) : Int))) then
                    bif (decide (((List.length (r41.1.1 : (List (den tKey)))) : Int) ≤ 3)) then
                      bif (eqT tKey a0 a1) then
                        bif (eqT .bool (decide (((List.length (r41.1.1 : (List (den tKey)))) : Int) = 1)) (eqT tKey a1 a2)) then
                          if (0 : Int) ≤ 0 ∧ 0 < (((List.length (r41.1.1 : (List (den tKey)))) : Nat) : Int) then
                          Option.bind (keys_Less n a0 (List.getD (r41.1.1 : (List (den tKey))) 0 (dft tKey) : (den tKey))) fun r42 =>
                          bif (!(r42.1.1 : Bool)) then
                            if (0 : Int) ≤ 0 ∧ 0 < (((List.length (r41.1.1 : (List (den tKey)))) : Nat) : Int) then
                            Option.bind (keys_Less n a1 (List.getD (r41.1.1 : (List (den tKey))) 0 (dft tKey) : (den tKey))) fun r43 =>
                            bif (!(r43.1.1 : Bool)) then
                              if (0 : Int) ≤ 0 ∧ 0 < (((List.length (r41.1.1 : (List (den tKey)))) : Nat) : Int) then
                              Option.bind (keys_Less n a2 (List.getD (r41.1.1 : (List (den tKey))) 0 (dft tKey) : (den tKey))) fun r44 =>
                              some (((!(r44.1.1 : Bool)), ()), [])
                              else none
                            else
                              some ((false, ()), [])
                            else none
                          else
                            some ((false, ()), [])
                          else none
                        else
                          some ((false, ()), [])
                      else
                        bif (eqT .bool (decide (((List.length (r41.1.1 : (List (den tKey)))) : Int) = 1)) false) then
                          if (0 : Int) ≤ 0 ∧ 0 < (((List.length (r41.1.1 : (List (den tKey)))) : Nat) : Int) then
                          Option.bind (keys_Less n a0 (List.getD (r41.1.1 : (List (den tKey))) 0 (dft tKey) : (den tKey))) fun r45 =>
                          bif (!(r45.1.1 : Bool)) then
                            if (0 : Int) ≤ 0 ∧ 0 < (((List.length (r41.1.1 : (List (den tKey)))) : Nat) : Int) then
                            Option.bind (keys_Less n a1 (List.getD (r41.1.1 : (List (den tKey))) 0 (dft tKey) : (den tKey))) fun r46 =>
                            bif (!(r46.1.1 : Bool)) then
                              if (0 : Int) ≤ 0 ∧ 0 < (((List.length (r41.1.1 : (List (den tKey)))) : Nat) : Int) then
                              Option.bind (keys_Less n a2 (List.getD (r41.1.1 : (List (den tKey))) 0 (dft tKey) : (den tKey))) fun r47 =>
                              some (((!(r47.1.1 : Bool)), ()), [])
                              else none
                            else
                              some ((false, ()), [])
                            else none
                          else
                            some ((false, ()), [])
                          else none
                        else
                          some ((false, ()), [])
                    else
                      some ((false, ()), [])
                  else
                    some ((false, ()), [])
              else
                Option.bind (keys_Sort n ([a0, a1, a2] : List (den tKey))) fun r48 =>
                bif (decide (1 ≤ ((List.length (r48.1.1 : (List (den tKey)))) : Int))) then
                  bif (decide (((List.length (r48.1.1 : (List (den tKey)))) : Int) ≤ 3)) then
                    bif (eqT tKey a0 a1) then
                      bif (eqT .bool (decide (((List.length (r48.1.1 : (List (den tKey)))) : Int) = 1)) (eqT tKey a1 a2)) then
                        if (0 : Int) ≤ 0 ∧ 0 < (((List.length (r48.1.1 : (List (den tKey)))) : Nat) : Int) then
                        Option.bind (keys_Less n a0 (List.getD (r48.1.1 : (List (den tKey))) 0 (dft tKey) : (den tKey))) fun r49 =>
                        bif (!(r49.1.1 : Bool)) then
                          if (0 : Int) ≤ 0 ∧ 0 < (((List.length (r48.1.1 : (List (den tKey)))) : Nat) : Int) then
                          Option.bind (keys_Less n a1 (List.getD (r48.1.1 : (List (den tKey))) 0 (dft tKey) : (den tKey))) fun r50 =>
                          bif (!(r50.1.1 : Bool)) then
                            if (0 : Int) ≤ 0 ∧ 0 < (((List.length (r48.1.1 : (List (den tKey)))) : Nat) : Int) then
                            Option.bind (keys_Less n a2 (List.getD (r48.1.1 : (List (den tKey))) 0 (dft tKey) : (den tKey))) fun r51 =>
                            some (((!(r51.1.1 : Bool)), ()), [])
                            else none
                          else
                            some ((false, ()), [])
                          else none
                        else
                          some ((false, ()), [])
                        else none
                      else
                        some ((false, ()), [])
                    else
                      bif (eqT .bool (decide (((List.length (r48.1.1 : (List (den tKey)))) : Int) = 1)) false) then
                        if (0 : Int) ≤ 0 ∧ 0 < (((List.length (r48.1.1 : (List (den tKey)))) : Nat) : Int) then
                        Option.bind (keys_Less n a0 (List.getD (r48.1.1 : (List (den tKey))) 0 (dft tKey) : (den tKey))) fun r52 =>
                        bif (!(r52.1.1 : Bool)) then
                          if (0 : Int) ≤ 0 ∧ 0 < (((List.length (r48.1.1 : (List (den tKey)))) : Nat) : Int) then
                          Option.bind (keys_Less n a1 (List.getD (r48.1.1 : (List (den tKey))) 0 (dft tKey) : (den tKey))) fun r53 =>
                          bif (!(r53.1.1 : Bool)) then
                            if (0 : Int) ≤ 0 ∧ 0 < (((List.length (r48.1.1 : (List (den tKey)))) : Nat) : Int) then
                            Option.bind (keys_Less n a2 (List.getD (r48.1.1 : (List (den tKey))) 0 (dft tKey) : (den tKey))) fun r54 =>
                            some (((!(r54.1.1 : Bool)), ()), [])
                            else none
                          else
                            some ((false, ()), [])
                          else none
                        else
                          some ((false, ()), [])
                        else none
                      else
                        some ((false, ()), [])
                  else
                    some ((false, ()), [])
                else
                  some ((false, ()), [])
          else
            Option.bind (keys_Less n a0 a1) fun r55 =>
            bif (r55.1.1 : Bool) then
              Option.bind (keys_Less n a1 a2) fun r56 =>
              bif (r56.1.1 : Bool) then
                Option.bind (keys_Less n a0 a2) fun r57 =>
                bif (!(r57.1.1 : Bool)) then
                  some ((false, ()), [])
                else
                  Option.bind (keys_Sort n ([a0, a1, a2] : List (den tKey))) fun r58 =>
                  bif (decide (1 ≤ ((List.length (r58.1.1 : (List (den tKey)))) : Int))) then
                    bif (decide (((List.length (r58.1.1 : (List (den tKey)))) : Int) ≤ 3)) then
                      bif (eqT tKey a0 a1) then
                        bif (eqT .bool (decide (((List.length (r58.1.1 : (List (den tKey)))) : Int) = 1)) (eqT tKey a1 a2)) then
                          if (0 : Int) ≤ 0 ∧ 0 < (((List.length (r58.1.1 : (List (den tKey)))) : Nat) : Int) then
                          Option.bind (keys_Less n a0 (List.getD (r58.1.1 : (List (den tKey))) 0 (dft tKey) : (den tKey))) fun r59 =>
                          bif (!(r59.1.1 : Bool)) then
                            if (0 : Int) ≤ 0 ∧ 0 < (((List.length (r58.1.1 : (List (den tKey)))) : Nat) : Int) then
                            Option.bind (keys_Less n a1 (List.getD (r58.1.1 : (List (den tKey))) 0 (dft tKey) : (den tKey))) fun r60 =>
                            bif (!(r60.1.1 : Bool)) then
                              if (0 : Int) ≤ 0 ∧ 0 < (((List.length (r58.1.1 : (List (den tKey)))) : Nat) : Int) then
                              Option.bind (keys_Less n a2 (List.getD (r58.1.1 : (List (den tKey))) 0 (dft tKey) : (den tKey))) fun r61 =>
                              some (((!(r61.1.1 : Bool)), ()), [])
                              else none
                            else
                              some ((false, ()), [])
                            else none
                          else
                            some ((false, ()), [])
                          else none
                        else
                          some ((false, ()), [])
                      else
                        bif (eqT .bool (decide (((List.length (r58.1.1 : (List (den tKey)))) : Int) = 1)) false) then
                          if (0 : Int) ≤ 0 ∧ 0 < (((List.length (r58.1.1 : (List (den tKey)))) : Nat) : Int) then
                          Option.bind (keys_Less n a0 (List.getD (r58.1.1 : (List (den tKey))) 0 (dft tKey) : (den tKey))) fun r62 =>
                          bif (!(r62.1.1 : Bool)) then
                            if (0 : Int) ≤ 0 ∧ 0 < (((List.length (r58.1.1 : (List (den tKey)))) : Nat) : Int) then
                            Option.bind (keys_Less n a1 (List.getD (r58.1.1 : (List (den tKey))) 0 (dft tKey) : (den tKey))) fun r63 =>
                            bif (!(r63.1.1 : Bool)) then
                              if (0 : Int) ≤ 0 ∧ 0 < (((List.length (r58.1.1 : (List (den tKey)))) : Nat) : Int) then
                              Option.bind (keys_Less n a2 (List.getD (r58.1.1 : (List (den tKey))) 0 (dft tKey) : (den tKey))) fun r64 =>
                              some (((!(r64.1.1 : Bool)), ()), [])
                              else none
                            else
                              some ((false, ()), [])
                            else none
                          else
                            some ((false, ()), [])
                          else none
                        else
                          some ((false, ()), [])
                    else
                      some ((false, ()), [])
                  else
                    some ((false, ()), [])
              else
                Option.bind (keys_Sort n ([a0, a1, a2] : List (den tKey))) fun r65 =>
                bif (decide (1 ≤ ((List.length (r65.1.1 : (List (den tKey)))) : Int))) then
                  bif (decide (((List.length (r65.1.1 : (List (den tKey)))) : Int) ≤ 3)) then
                    bif (eqT tKey a0 a1) then
                      bif (eqT .bool (decide (((List.length (r65.1.1 : (List (den tKey)))) : Int) = 1)) (eqT tKey a1 a2)) then
                        if (0 : Int) ≤ 0 ∧ 0 < (((List.length (r65.1.1 : (List (den tKey)))) : Nat) : Int) then
                        Option.bind (keys_Less n a0 (List.getD (r65.1.1 : (List (den tKey))) 0 (dft tKey) : (den tKey))) fun r66 =>
                        bif (!(r66.1.1 : Bool)) then
                          if (0 : Int) ≤ 0 ∧ 0 < (((List.length (r65.1.1 : (List (den tKey)))) : Nat) : Int) then
                          Option.bind (keys_Less n a1 (List.getD (r65.1.1 : (List (den tKey))) 0 (dft tKey) : (den tKey))) fun r67 =>
                          bif (!(r67.1.1 : Bool)) then
                            if (0 : Int) ≤ 0 ∧ 0 < (((List.length (r65.1.1 : (List (den tKey)))) : Nat) : Int) then
                            Option.bind (keys_Less n a2 (List.getD (r65.1.1 : (List (den tKey))) 0 (dft tKey) : (den tKey))) fun r68 =>
                            some (((!(r68.1.1 : Bool)), ()), [])
                            else none
                          else
                            some ((false, ()), [])
                          else none
                        else
                          some ((false, ()), [])
                        else none
                      else
                        some ((false, ()), [])
                    else
                      bif (eqT .bool (decide (((List.length (r65.1.1 : (List (den tKey)))) : Int) = 1)) false) then
                        if (0 : Int) ≤ 0 ∧ 0 < (((List.length (r65.1.1 : (List (den tKey)))) : Nat) : Int) then
                        Option.bind (keys_Less n a0 (List.getD (r65.1.1 : (List (den tKey))) 0 (dft tKey) : (den tKey))) fun r69 =>
                        bif (!(r69.1.1 : Bool)) then
                          if (0 : Int) ≤ 0 ∧ 0 < (((List.length (r65.1.1 : (List (den tKey)))) : Nat) : Int) then
                          Option.bind (keys_Less n a1 (List.getD (r65.1.1 : (List (den tKey))) 0 (dft tKey) : (den tKey))) fun r70 =>
                          bif (!(r70.1.1 : Bool)) then
                            if (0 : Int) ≤ 0 ∧ 0 < (((List.length (r65.1.1 : (List (den tKey)))) : Nat) : Int) then
                            Option.bind (keys_Less n a2 (List.getD (r65.1.1 : (List (den tKey))) 0 (dft tKey) : (den tKey))) fun r71 =>
                            some (((!(r71.1.1 : Bool)), ()), [])
                            else none
                          else
                            some ((false, ()), [])
                          else none
                        else
                          some ((false, ()), [])
                        else none
                      else
                        some ((false, ()), [])
                  else
                    some ((false, ()), [])
                else
                  some ((false, ()), [])
            else
              Option.bind (keys_Sort n ([a0, a1, a2] : List (den tKey))) fun r72 =>
              bif (decide (1 ≤ ((List.length (r72.1.1 : (List (den tKey)))) : Int))) then
                bif (decide (((List.length (r72.1.1 : (List (den tKey)))) : Int) ≤ 3)) then
                  bif (eqT tKey a0 a1) then
                    bif (eqT .bool (decide (((List.length (r72.1.1 : (List (den tKey)))) : Int) = 1)) (eqT tKey a1 a2)) then
                      if (0 : Int) ≤ 0 ∧ 0 < (((List.length (r72.1.1 : (List (den tKey)))) : Nat) : Int) then
                      Option.bind (keys_Less n a0 (List.getD (r72.1.1 : (List (den tKey))) 0 (dft tKey) : (den tKey))) fun r73 =>
                      bif (!(r73.1.1 : Bool)) then
                        if (0 : Int) ≤ 0 ∧ 0 < (((List.length (r72.1.1 : (List (den tKey)))) : Nat) : Int) then
                        Option.bind (keys_Less n a1 (List.getD (r72.1.1 : (List (den tKey))) 0 (dft tKey) : (den tKey))) fun r74 =>
                        bif (!(r74.1.1 : Bool)) then
                          if (0 : Int) ≤ 0 ∧ 0 < (((List.length (r72.1.1 : (List (den tKey)))) : Nat) : Int) then
                          Option.bind (keys_Less n a2 (List.getD (r72.1.1 : (List (den tKey))) 0 (dft tKey) : (den tKey))) fun r75 =>
                          some (((!(r75.1.1 : Bool)), ()), [])
                          else none
                        else
                          some ((false, ()), [])
                        else none
                      else
                        some ((false, ()), [])
                      else none
                    else
                      some ((false, ()), [])
                  else
                    bif (eqT .bool (decide (((List.length (r72.1.1 : (List (den tKey)))) : Int) = 1)) false) then
                      if (0 : Int) ≤ 0 ∧ 0 < (((List.length (r72.1.1 : (List (den tKey)))) : Nat) : Int) then
                      Option.bind (keys_Less n a0 (List.getD (r72.1.1 : (List (den tKey))) 0 (dft tKey) : (den tKey))) fun r76 =>
                      bif (!(r76.1.1 : Bool)) then
                        if (0 : Int) ≤ 0 ∧ 0 < (((List.length (r72.1.1 : (List (den tKey)))) : Nat) : Int) then
                        Option.bind (keys_Less n a1 (List.getD (r72.1.1 : (List (den tKey))) 0 (dft tKey) : (den tKey))) fun r77 =>
                        bif (!(r77.1.1 : Bool)) then
                          if (0 : Int) ≤ 0 ∧ 0 < (((List.length (r72.1.1 : (List (den tKey)))) : Nat) : Int) then
                          Option.bind (keys_Less n a2 (List.getD (r72.1.1 : (List (den tKey))) 0 (dft tKey) : (den tKey))) fun r78 =>
                          some (((!(r78.1.1 : Bool)), ()), [])
                          else none
                        else
                          some ((false, ()), [])
                        else none
                      else
                        some ((false, ()), [])
                      else none
                    else
                      some ((false, ()), [])
                else
                  some ((false, ()), [])
              else
                some ((false, ()), [])
      else
        bif (!(eqT tKey a0 a1)) then
          Option.bind (keys_Less n a0 a1) fun r79 =>
          bif (!(r79.1.1 : Bool)) then
            Option.bind (keys_Less n a1 a0) fun r80 =>
            bif (!(r80.1.1 : Bool)) then
              some ((false, ()), [])
            else
              Option.bind (keys_Less n a0 a1) fun r81 =>
              bif (r81.1.1 : Bool) then
                Option.bind (keys_Less n a1 a2) fun r82 =>
                bif (r82.1.1 : Bool) then
                  Option.bind (keys_Less n a0 a2) fun r83 =>
                  bif (!(r83.1.1 : Bool)) then
                    some ((false, ()), [])
                  else
                    Option.bind (keys_Sort n ([a0, a1, a2] : List (den tKey))) fun r84 =>
                    bif (decide (1 ≤ ((List.length (r84.1.1 : (List (den tKey)))) : Int))) then
                      bif (decide (((List.length (r84.1.1 : (List (den tKey)))) : Int) ≤ 3)) then
                        bif (eqT tKey a0 a1) then
                          bif (eqT .bool (decide (((List.length (r84.1.1 : (List (den tKey)))) : Int) = 1)) (eqT tKey a1 a2)) then
                            if (0 : Int) ≤ 0 ∧ 0 < (((List.length (r84.1.1 : (List (den tKey)))) : Nat) : Int) then
                            Option.bind (keys_Less n a0 (List.getD (r84.1.1 : (List (den tKey))) 0 (dft tKey) : (den tKey))) fun r85 =>
                            bif (!(r85.1.1 : Bool)) then
                              if (0 : Int) ≤ 0 ∧ 0 < (((List.length (r84.1.1 : (List (den tKey)))) : Nat) : Int) then
                              Option.bind (keys_Less n a1 (List.getD (r84.1.1 : (List (den tKey))) 0 (dft tKey) : (den tKey))) fun r86 =>
                              bif (!(r86.1.1 : Bool)) then
                                if (0 : Int) ≤ 0 ∧ 0 < (((List.length (r84.1.1 : (List (den tKey)))) : Nat) : Int) then
                                Option.bind (keys_Less n a2 (List.getD (r84.1.1 : (List (den tKey))) 0 (dft tKey) : (den tKey))) fun r87 =>
                                some (((!(r87.1.1 : Bool)), ()), [])
                                else none
                              else
                                some ((false, ()), [])
                              else none
                            else
                              some ((false, ()), [])
                            else none
                          else
                            some ((false, ()), [])
                        else
                          bif (eqT .bool (decide (((List.length (r84.1.1 : (List (den tKey)))) : Int) = 1)) false) then
                            if (0 : Int) ≤ 0 ∧ 0 < (((List.length (r84.1.1 : (List (den tKey)))) : Nat) : Int) then
                            Option.bind (keys_Less n a0 (List.getD (r84.1.1 : (List (den tKey))) 0 (dft tKey) : (den tKey))) fun r88 =>
                            bif (!(r88.1.1 : Bool)) then
                              if (0 : Int) ≤ 0 ∧ 0 < (((List.length (r84.1.1 : (List (den tKey)))) : Nat) : Int) then
                              Option.bind (keys_Less n a1 (List.getD (r84.1.1 : (List (den tKey))) 0 (dft tKey) : (den tKey))) fun r89 =>
                              bif (!(r89.1.1 : Bool)) then
                                if (0 : Int) ≤ 0 ∧ 0 < (((List.length (r84.1.1 : (List (den tKey)))) : Nat) : Int) then
                                Option.bind (keys_Less n a2 (List.getD (r84.1.1 : (List (den tKey))) 0 (dft tKey) : (den tKey))) fun r90 =>
                                some (((!(r90.1.1 : Bool)), ()), [])
                                else none
                              else
                                some ((false, ()), [])
                              else none
                            else
                              some ((false, ()), [])
                            else none
                          else
                            some ((false, ()), [])
                      else
                        some ((false, ()), [])
                    else
                      some ((false, ()), [])
                else
                  Option.bind (keys_Sort n ([a0, a1, a2] : List (den tKey))) fun r91 =>
                  bif (decide (1 ≤ ((List.length (r91.1.1 : (List (den tKey)))) : Int))) then
                    bif (decide (((List.length (r91.1.1 : (List (den tKey)))) : Int) ≤ 3)) then
                      bif (eqT tKey a0 a1) then
                        bif (eqT .bool (decide (((List.length (r91.1.1 : (List (den tKey)))) : Int) = 1)) (eqT tKey a1 a2)) then
                          if (0 : Int) ≤ 0 ∧ 0 < (((List.length (r91.1.1 : (List (den tKey)))) : Nat) : Int) then
                          Option.bind (keys_Less n a0 (List.getD (r91.1.1 : (List (den tKey))) 0 (dft tKey) : (den tKey))) fun r92 =>
                          bif (!(r92.1.1 : Bool)) then
                            if (0 : Int) ≤ 0 ∧ 0 < (((List.length (r91.1.1 : (List (den tKey)))) : Nat) : Int) then
                            Option.bind (keys_Less n a1 (List.getD (r91.1.1 : (List (den tKey))) 0 (dft tKey) : (den tKey))) fun r93 =>
                            bif (!(r93.1.1 : Bool)) then
                              if (0 : Int) ≤ 0 ∧ 0 < (((List.length (r91.1.1 : (List (den tKey)))) : Nat) : Int) then
                              Option.bind (keys_Less n a2 (List.getD (r91.1.1 : (List (den tKey))) 0 (dft tKey) : (den tKey))) fun r94 =>
                              some (((!(r94.1.1 : Bool)), ()), [])
                              else none
                            else
                              some ((false, ()), [])
                            else none
                          else
                            some ((false, ()), [])
                          else none
                        else
                          some ((false, ()), [])
                      else
                        bif (eqT .bool (decide (((List.length (r91.1.1 : (List (den tKey)))) : Int) = 1)) false) then
                          if (0 : Int) ≤ 0 ∧ 0 < (((List.length (r91.1.1 : (List (den tKey)))) : Nat) : Int) then
                          Option.bind (keys_Less n a0 (List.getD (r91.1.1 : (List (den tKey))) 0 (dft tKey) : (den tKey))) fun r95 =>
                          bif (!(r95.1.1 : Bool)) then
                            if (0 : Int) ≤ 0 ∧ 0 < (((List.length (r91.1.1 : (List (den tKey)))) : Nat) : Int) then
                            Option.bind (keys_Less n a1 (List.getD (r91.1.1 : (List (den tKey))) 0 (dft tKey) : (den tKey))) fun r96 =>
                            bif (!(r96.1.1 : Bool)) then
                              if (0 : Int) ≤ 0 ∧ 0 < (((List.length (r91.1.1 : (List (den tKey)))) : Nat) : Int) then
                              Option.bind (keys_Less n a2 (List.getD (r91.1.1 : (List (den tKey))) 0 (dft tKey) : (den tKey))) fun r97 =>
                              some (((!(r97.1.1 : Bool)), ()), [])
                              else none
                            else
                              some ((false, ()), [])
                            else none
                          else
                            some ((false, ()), [])
                          else none
                        else
                          some ((false, ()), [])
                    else
                      some ((false, ()), [])
                  else
                    some ((false, ()), [])
              else
                Option.bind (keys_Sort n ([a0, a1, a2] : List (den tKey))) fun r98 =>
                bif (decide (1 ≤ ((List.length (r98.1.1 : (List (den tKey)))) : Int))) then
                  bif (decide (((List.length (r98.1.1 : (List (den tKey)))) : Int) ≤ 3)) then
                    bif (eqT tKey a0 a1) then
                      bif (eqT .bool (decide (((List.length (r98.1.1 : (List (den tKey)))) : Int) = 1)) (eqT tKey a1 a2)) then
                        if (0 : Int) ≤ 0 ∧ 0 < (((List.length (r98.1.1 : (List (den tKey)))) : Nat) : Int) then
                        Option.bind (keys_Less n a0 (List.getD (r98.1.1 : (List (den tKey))) 0 (dft tKey) : (den tKey))) fun r99 =>
                        bif (!(r99.1.1 : Bool)) then
                          if (0 : Int) ≤ 0 ∧ 0 < (((List.length (r98.1.1 : (List (den tKey)))) : Nat) : Int) then
                          Option.bind (keys_Less n a1 (List.getD (r98.1.1 : (List (den tKey))) 0 (dft tKey) : (den tKey))) fun r100 =>
                          bif (!(r100.1.1 : Bool)) then
                            if (0 : Int) ≤ 0 ∧ 0 < (((List.length (r98.1.1 : (List (den tKey)))) : Nat) : Int) then
                            Option.bind (keys_Less n a2 (List.getD (r98.1.1 : (List (den tKey))) 0 (dft tKey) : (den tKey))) fun r101 =>
                            some (((!(r101.1.1 : Bool)), ()), [])
                            else none
                          else
                            some ((false, ()), [])
                          else none
                        else
                          some ((false, ()), [])
                        else none
                      else
                        some ((false, ()), [])
                    else
                      bif (eqT .bool (decide (((List.length (r98.1.1 : (List (den tKey)))) : Int) = 1)) false) then
                        if (0 : Int) ≤ 0 ∧ 0 < (((List.length (r98.1.1 : (List (den tKey)))) : Nat) : Int) then
                        Option.bind (keys_Less n a0 (List.getD (r98.1.1 : (List (den tKey))) 0 (dft tKey) : (den tKey))) fun r102 =>
                        bif (!(r102.1.1 : Bool)) then
                          if (0 : Int) ≤ 0 ∧ 0 < (((List.length (r98.1.1 : (List (den tKey)))) : Nat) : Int) then
                          Option.bind (keys_Less n a1 (List.getD (r98.1.1 : (List (den tKey))) 0 (dft tKey) : (den tKey))) fun r103 =>
                          bif (!(r103.1.1 : Bool)) then
                            if (0 : Int) ≤ 0 ∧ 0 < (((List.length (r98.1.1 : (List (den tKey)))) : Nat) : Int) then
                            Option.bind (keys_Less n a2 (List.getD (r98.1.1 : (List (den tKey))) 0 (dft tKey) : (den tKey))) fun r104 =>
                            some (((!(r104.1.1 : Bool)), ()), [])
                            else none
                          else
                            some ((false, ()), [])
                          else none
                        else
                          some ((false, ()), [])
                        else none
                      else
                        some ((false, ()), [])
                  else
                    some ((false, ()), [])
                else
                  some ((false, ()), [])
          else
            Option.bind (keys_Less n a0 a1) fun r105 =>
            bif (r105.1.1 : Bool) then
              Option.bind (keys_Less n a1 a2) fun r106 =>
              bif (r106.1.1 : Bool) then
                Option.bind (keys_Less n a0 a2) fun r107 =>
                bif (!(r107.1.1 : Bool)) then
                  some ((false, ()), [])
                else
                  Option.bind (keys_Sort n ([a0, a1, a2] : List (den tKey))) fun r108 =>
                  bif (decide (1 ≤ ((List.length (r108.1.1 : (List (den tKey)))) : Int))) then
                    bif (decide (((List.length (r108.1.1 : (List (den tKey)))) : Int) ≤ 3)) then
                      bif (eqT tKey a0 a1) then
                        bif (eqT .bool (decide (((List.length (r108.1.1 : (List (den tKey)))) : Int) = 1)) (eqT tKey a1 a2)) then
                          if (0 : Int) ≤ 0 ∧ 0 < (((List.length (r108.1.1 : (List (den tKey)))) : Nat) : Int) then
                          Option.bind (keys_Less n a0 (List.getD (r108.1.1 : (List (den tKey))) 0 (dft tKey) : (den tKey))) fun r109 =>
                          bif (!(r109.1.1 : Bool)) then
                            if (0 : Int) ≤ 0 ∧ 0 < (((List.length (r108.1.1 : (List (den tKey)))) : Nat) : Int) then
                            Option.bind (keys_Less n a1 (List.getD (r108.1.1 : (List (den tKey))) 0 (dft tKey) : (den tKey))) fun r110 =>
                            bif (!(r110.1.1 : Bool)) then
                              if (0 : Int) ≤ 0 ∧ 0 < (((List.length (r108.1.1 : (List (den tKey)))) : Nat) : Int) then
                              Option.bind (keys_Less n a2 (List.getD (r108.1.1 : (List (den tKey))) 0 (dft tKey) : (den tKey))) fun r111 =>
                              some (((!(r111.1.1 : Bool)), ()), [])
                              else none
                            else
                              some ((false, ()), [])
                            else none
                          else
                            some ((false, ()), [])
                          else none
                        else
                          some ((false, ()), [])
                      else
                        bif (eqT .bool (decide (((List.length (r108.1.1 : (List (den tKey)))) : Int) = 1)) false) then
                          if (0 : Int) ≤ 0 ∧ 0 < (((List.length (r108.1.1 : (List (den tKey)))) : Nat) : Int) then
                          Option.bind (keys_Less n a0 (List.getD (r108.1.1 : (List (den tKey))) 0 (dft tKey) : (den tKey))) fun r112 =>
                          bif (!(r112.1.1 : Bool)) then
                            if (0 : Int) ≤ 0 ∧ 0 < (((List.length (r108.1.1 : (List (den tKey)))) : Nat) : Int) then
                            Option.bind (keys_Less n a1 (List.getD (r108.1.1 : (List (den tKey))) 0 (dft tKey) : (den tKey))) fun r113 =>
                            bif (!(r113.1.1 : Bool)) then
                              if (0 : Int) ≤ 0 ∧ 0 < (((List.length (r108.1.1 : (List (den tKey)))) : Nat) : Int) then
                              Option.bind (keys_Less n a2 (List.getD (r108.1.1 : (List (den tKey))) 0 (dft tKey) : (den tKey))) fun r114 =>
                              some (((!(r114.1.1 : Bool)), ()), [])
                              else none
                            else
                              some ((false, ()), [])
                            else none
                          else
                            some ((false, ()), [])
                          else none
                        else
                          some ((false, ()), [])
                    else
                      some ((false, ()), [])
                  else
                    some ((false, ()), [])
              else
                Option.bind (keys_Sort n ([a0, a1, a2] : List (den tKey))) fun r115 =>
                bif (decide (1 ≤ ((List.length (r115.1.1 : (List (den tKey)))) : Int))) then
                  bif (decide (((List.length (r115.1.1 : (List (den tKey)))) : Int) ≤ 3)) then
                    bif (eqT tKey a0 a1) then
                      bif (eqT .bool (decide (((List.length (r115.1.1 : (List (den tKey)))) : Int) = 1)) (eqT tKey a1 a2)) then
                        if (0 : Int) ≤ 0 ∧ 0 < (((List.length (r115.1.1 : (List (den tKey)))) : Nat) : Int) then
                        Option.bind (keys_Less n a0 (List.getD (r115.1.1 : (List (den tKey))) 0 (dft tKey) : (den tKey))) fun r116 =>
                        bif (!(r116.1.1 : Bool)) then
                          if (0 : Int) ≤ 0 ∧ 0 < (((List.length (r115.1.1 : (List (den tKey)))) : Nat) : Int) then
                          Option.bind (keys_Less n a1 (List.getD (r115.1.1 : (List (den tKey))) 0 (dft tKey) : (den tKey))) fun r117 =>
                          bif (!(r117.1.1 : Bool)) then
                            if (0 : Int) ≤ 0 ∧ 0 < (((List.length (r115.1.1 : (List (den tKey)))) : Nat) : Int) then
                            Option.bind (keys_Less n a2 (List.getD (r115.1.1 : (List (den tKey))) 0 (dft tKey) : (den tKey))) fun r118 =>
                            some (((!(r118.1.1 : Bool)), ()), [])
                            else none
                          else
                            some ((false, ()), [])
                          else none
                        else
                          some ((false, ()), [])
                        else none
                      else
                        some ((false, ()), [])
                    else
                      bif (eqT .bool (decide (((List.length (r115.1.1 : (List (den tKey)))) : Int) = 1)) false) then
                        if (0 : Int) ≤ 0 ∧ 0 < (((List.length (r115.1.1 : (List (den tKey)))) : Nat) : Int) then
                        Option.bind (keys_Less n a0 (List.getD (r115.1.1 : (List (den tKey))) 0 (dft tKey) : (den tKey))) fun r119 =>
                        bif (!(r119.1.1 : Bool)) then
                          if (0 : Int) ≤ 0 ∧ 0 < (((List.length (r115.1.1 : (List (den tKey)))) : Nat) : Int) then
                          Option.bind (keys_Less n a1 (List.getD (r115.1.1 : (List (den tKey))) 0 (dft tKey) : (den tKey))) fun r120 =>
                          bif (!(r120.1.1 : Bool)) then
                            if (0 : Int) ≤ 0 ∧ 0 < (((List.length (r115.1.1 : (List (den tKey)))) : Nat) : Int) then
                            Option.bind (keys_Less n a2 (List.getD (r115.1.1 : (List (den tKey))) 0 (dft tKey) : (den tKey))) fun r121 =>
                            some (((!(r121.1.1 : Bool)), ()), [])
                            else none
                          else
                            some ((false, ()), [])
                          else none
                        else
                          some ((false, ()), [])
                        else none
                      else
                        some ((false, ()), [])
                  else
                    some ((false, ()), [])
                else
                  some ((false, ()), [])
            else
              Option.bind (keys_Sort n ([a0, a1, a2] : List (den tKey))) fun r122 =>
              bif (decide (1 ≤ ((List.length (r122.1.1 : (List (den tKey)))) : Int))) then
                bif (decide (((List.length (r122.1.1 : (List (den tKey)))) : Int) ≤ 3)) then
                  bif (eqT tKey a0 a1) then
                    bif (eqT .bool (decide (((List.length (r122.1.1 : (List (den tKey)))) : Int) = 1)) (eqT tKey a1 a2)) then
                      if (0 : Int) ≤ 0 ∧ 0 < (((List.length (r122.1.1 : (List (den tKey)))) : Nat) : Int) then
                      Option.bind (keys_Less n a0 (List.getD (r122.1.1 : (List (den tKey))) 0 (dft tKey) : (den tKey))) fun r123 =>
                      bif (!(r123.1.1 : Bool)) then
                        if (0 : Int) ≤ 0 ∧ 0 < (((List.length (r122.1.1 : (List (den tKey)))) : Nat) : Int) then
                        Option.bind (keys_Less n a1 (List.getD (r122.1.1 : (List (den tKey))) 0 (dft tKey) : (den tKey))) fun r124 =>
                        bif (!(r124.1.1 : Bool)) then
                          if (0 : Int) ≤ 0 ∧ 0 < (((List.length (r122.1.1 : (List (den tKey)))) : Nat) : Int) then
                          Option.bind (keys_Less n a2 (List.getD (r122.1.1 : (List (den tKey))) 0 (dft tKey) : (den tKey))) fun r125 =>
                          some (((!(r125.1.1 : Bool)), ()), [])
                          else none
                        else
                          some ((false, ()), [])
                        else none
                      else
                        some ((false, ()), [])
                      else none
                    else
                      some ((false, ()), [])
                  else
                    bif (eqT .bool (decide (((List.length (r122.1.1 : (List (den tKey)))) : Int) = 1)) false) then
                      if (0 : Int) ≤ 0 ∧ 0 < (((List.length (r122.1.1 : (List (den tKey)))) : Nat) : Int) then
                      Option.bind (keys_Less n a0 (List.getD (r122.1.1 : (List (den tKey))) 0 (dft tKey) : (den tKey))) fun r126 =>
                      bif (!(r126.1.1 : Bool)) then
                        if (0 : Int) ≤ 0 ∧ 0 < (((List.length (r122.1.1 : (List (den tKey)))) : Nat) : Int) then
                        Option.bind (keys_Less n a1 (List.getD (r122.1.1 : (List (den tKey))) 0 (dft tKey) : (den tKey))) fun r127 =>
                        bif (!(r127.1.1 : Bool)) then
                          if (0 : Int) ≤ 0 ∧ 0 < (((List.length (r122.1.1 : (List (den tKey)))) : Nat) : Int) then
                          Option.bind (keys_Less n a2 (List.getD (r122.1.1 : (List (den tKey))) 0 (dft tKey) : (den tKey))) fun r128 =>
                          some (((!(r128.1.1 : Bool)), ()), [])
                          else none
                        else
                          some ((false, ()), [])
                        else none
                      else
                        some ((false, ()), [])
                      else none
                    else
                      some ((false, ()), [])
                else
                  some ((false, ()), [])
              else
                some ((false, ()), [])
        else
          Option.bind (keys_Less n a0 a1) fun r129 =>
          bif (r129.1.1 : Bool) then
            Option.bind (keys_Less n a1 a2) fun r130 =>
            bif (r130.1.1 : Bool) then
              Option.bind (keys_Less n a0 a2) fun r131 =>
              bif (!(r131.1.1 : Bool)) then
                some ((false, ()), [])
              else
                Option.bind (keys_Sort n ([a0, a1, a2] : List (den tKey))) fun r132 =>
                bif (decide (1 ≤ ((List.length (r132.1.1 : (List (den tKey)))) : Int))) then
                  bif (decide (((List.length (r132.1.1 : (List (den tKey)))) : Int) ≤ 3)) then
                    bif (eqT tKey a0 a1) then
                      bif (eqT .bool (decide (((List.length (r132.1.1 : (List (den tKey)))) : Int) = 1)) (eqT tKey a1 a2)) then
                        if (0 : Int) ≤ 0 ∧ 0 < (((List.length (r132.1.1 : (List (den tKey)))) : Nat) : Int) then
                        Option.bind (keys_Less n a0 (List.getD (r132.1.1 : (List (den tKey))) 0 (dft tKey) : (den tKey))) fun r133 =>
                        bif (!(r133.1.1 : Bool)) then
                          if (0 : Int) ≤ 0 ∧ 0 < (((List.length (r132.1.1 : (List (den tKey)))) : Nat) : Int) then
                          Option.bind (keys_Less n a1 (List.getD (r132.1.1 : (List (den tKey))) 0 (dft tKey) : (den tKey))) fun r134 =>
                          bif (!(r134.1.1 : Bool)) then
                            if (0 : Int) ≤ 0 ∧ 0 < (((List.length (r132.1.1 : (List (den tKey)))) : Nat) : Int) then
                            Option.bind (keys_Less n a2 (List.getD (r132.1.1 : (List (den tKey))) 0 (dft tKey) : (den tKey))) fun r135 =>
                            some (((!(r135.1.1 : Bool)), ()), [])
                            else none
                          else
                            some ((false, ()), [])
                          else none
                        else
                          some ((false, ()), [])
                        else none
                      else
                        some ((false, ()), [])
                    else
                      bif (eqT .bool (decide (((List.length (r132.1.1 : (List (den tKey)))) : Int) = 1)) false) then
                        if (0 : Int) ≤ 0 ∧ 0 < (((List.length (r132.1.1 : (List (den tKey)))) : Nat) : Int) then
                        Option.bind (keys_Less n a0 (List.getD (r132.1.1 : (List (den tKey))) 0 (dft tKey) : (den tKey))) fun r136 =>
                        bif (!(r136.1.1 : Bool)) then
                          if (0 : Int) ≤ 0 ∧ 0 < (((List.length (r132.1.1 : (List (den tKey)))) : Nat) : Int) then
                          Option.bind (keys_Less n a1 (List.getD (r132.1.1 : (List (den tKey))) 0 (dft tKey) : (den tKey))) fun r137 =>
                          bif (!(r137.1.1 : Bool)) then
                            if (0 : Int) ≤ 0 ∧ 0 < (((List.length (r132.1.1 : (List (den tKey)))) : Nat) : Int) then
                            Option.bind (keys_Less n a2 (List.getD (r132.1.1 : (List (den tKey))) 0 (dft tKey) : (den tKey))) fun r138 =>
                            some (((!(r138.1.1 : Bool)), ()), [])
                            else none
                          else
                            some ((false, ()), [])
                          else none
                        else
                          some ((false, ()), [])
                        else none
                      else
                        some ((false, ()), [])
                  else
                    some ((false, ()), [])
                else
                  some ((false, ()), [])
            else
              Option.bind (keys_Sort n ([a0, a1, a2] : List (den tKey))) fun r139 =>
              bif (decide (1 ≤ ((List.length (r139.1.1 : (List (den tKey)))) : Int))) then
                bif (decide (((List.length (r139.1.1 : (List (den tKey)))) : Int) ≤ 3)) then
                  bif (eqT tKey a0 a1) then
                    bif (eqT .bool (decide (((List.length (r139.1.1 : (List (den tKey)))) : Int) = 1)) (eqT tKey a1 a2)) then
                      if (0 : Int) ≤ 0 ∧ 0 < (((List.length (r139.1.1 : (List (den tKey)))) : Nat) : Int) then
                      Option.bind (keys_Less n a0 (List.getD (r139.1.1 : (List (den tKey))) 0 (dft tKey) : (den tKey))) fun r140 =>
                      bif (!(r140.1.1 : Bool)) then
                        if (0 : Int) ≤ 0 ∧ 0 < (((List.length (r139.1.1 : (List (den tKey)))) : Nat) : Int) then
                        Option.bind (keys_Less n a1 (List.getD (r139.1.1 : (List (den tKey))) 0 (dft tKey) : (den tKey))) fun r141 =>
                        bif (!(r141.1.1 : Bool)) then
                          if (0 : Int) ≤ 0 ∧ 0 < (((List.length (r139.1.1 : (List (den tKey)))) : Nat) : Int) then
                          Option.bind (keys_Less n a2 (List.getD (r139.1.1 : (List (den tKey))) 0 (dft tKey) : (den tKey))) fun r142 =>
                          some (((!(r142.1.1 : Bool)), ()), [])
                          else none
                        else
                          some ((false, ()), [])
                        else none
                      else
                        some ((false, ()), [])
                      else none
                    else
                      some ((false, ()), [])
                  else
                    bif (eqT .bool (decide (((List.length (r139.1.1 : (List (den tKey)))) : Int) = 1)) false) then
                      if (0 : Int) ≤ 0 ∧ 0 < (((List.length (r139.1.1 : (List (den tKey)))) : Nat) : Int) then
                      Option.bind (keys_Less n a0 (List.getD (r139.1.1 : (List (den tKey))) 0 (dft tKey) : (den tKey))) fun r143 =>
                      bif (!(r143.1.1 : Bool)) then
                        if (0 : Int) ≤ 0 ∧ 0 < (((List.length (r139.1.1 : (List (den tKey)))) : Nat) : Int) then
                        Option.bind (keys_Less n a1 (List.getD (r139.1.1 : (List (den tKey))) 0 (dft tKey) : (den tKey))) fun r144 =>
                        bif (!(r144.1.1 : Bool)) then
                          if (0 : Int) ≤ 0 ∧ 0 < (((List.length (r139.1.1 : (List (den tKey)))) : Nat) : Int) then
                          Option.bind (keys_Less n a2 (List.getD (r139.1.1 : (List (den tKey))) 0 (dft tKey) : (den tKey))) fun r145 =>
                          some (((!(r145.1.1 : Bool)), ()), [])
                          else none
                        else
                          some ((false, ()), [])
                        else none
                      else
                        some ((false, ()), [])
                      else none
                    else
                      some ((false, ()), [])
                else
                  some ((false, ()), [])
              else
                some ((false, ()), [])
          else
            Option.bind (keys_Sort n ([a0, a1, a2] : List (den tKey))) fun r146 =>
            bif (decide (1 ≤ ((List.length (r146.1.1 : (List (den tKey)))) : Int))) then
              bif (decide (((List.length (r146.1.1 : (List (den tKey)))) : Int) ≤ 3)) then
                bif (eqT tKey a0 a1) then
                  bif (eqT .bool (decide (((List.length (r146.1.1 : (List (den tKey)))) : Int) = 1)) (eqT tKey a1 a2)) then
                    if (0 : Int) ≤ 0 ∧ 0 < (((List.length (r146.1.1 : (List (den tKey)))) : Nat) : Int) then
                    Option.bind (keys_Less n a0 (List.getD (r146.1.1 : (List (den tKey))) 0 (dft tKey) : (den tKey))) fun r147 =>
                    bif (!(r147.1.1 : Bool)) then
                      if (0 : Int) ≤ 0 ∧ 0 < (((List.length (r146.1.1 : (List (den tKey)))) : Nat) : Int) then
                      Option.bind (keys_Less n a1 (List.getD (r146.1.1 : (List (den tKey))) 0 (dft tKey) : (den tKey))) fun r148 =>
                      bif (!(r148.1.1 : Bool)) then
                        if (0 : Int) ≤ 0 ∧ 0 < (((List.length (r146.1.1 : (List (den tKey)))) : Nat) : Int) then
                        Option.bind (keys_Less n a2 (List.getD (r146.1.1 : (List (den tKey))) 0 (dft tKey) : (den tKey))) fun r149 =>
                        some (((!(r149.1.1 : Bool)), ()), [])
                        else none
                      else
                        some ((false, ()), [])
                      else none
                    else
                      some ((false, ()), [])
                    else none
                  else
                    some ((false, ()), [])
                else
                  bif (eqT .bool (decide (((List.length (r146.1.1 : (List (den tKey)))) : Int) = 1)) false) then
                    if (0 : Int) ≤ 0 ∧ 0 < (((List.length (r146.1.1 : (List (den tKey)))) : Nat) : Int) then
                    Option.bind (keys_Less n a0 (List.getD (r146.1.1 : (List (den tKey))) 0 (dft tKey) : (den tKey))) fun r150 =>
                    bif (!(r150.1.1 : Bool)) then
                      if (0 : Int) ≤ 0 ∧ 0 < (((List.length (r146.1.1 : (List (den tKey)))) : Nat) : Int) then
                      Option.bind (keys_Less n a1 (List.getD (r146.1.1 : (List (den tKey))) 0 (dft tKey) : (den tKey))) fun r151 =>
                      bif (!(r151.1.1 : Bool)) then
                        if (0 : Int) ≤ 0 ∧ 0 < (((List.length (r146.1.1 : (List (den tKey)))) : Nat) : Int) then
                        Option.bind (keys_Less n a2 (List.getD (r146.1.1 : (List (den tKey))) 0 (dft tKey) : (den tKey))) fun r152 =>
                        some (((!(r152.1.1 : Bool)), ()), [])
                        else none
                      else
                        some ((false, ()), [])
                      else none
                    else
                      some ((false, ()), [])
                    else none
                  else
                    some ((false, ()), [])
              else
                some ((false, ()), [])
            else
              some ((false, ()), []) := by kernel_rfl
end Go.Proofs.Ytobegmljkfphjaa.Ghost
