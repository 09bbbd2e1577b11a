/- What each function and each loop comes to, one step. Conditions: none. -/
import Derived.Test.YtkjcmjfdkmnikaaGSp
import Derived.KernelRfl
set_option linter.unusedVariables false
set_option linter.unusedSimpArgs false
set_option linter.unusedSectionVars false
set_option linter.unnecessarySimpa false
namespace Go.Proofs.Ytkjcmjfdkmnikaa.Ghost
open Go
abbrev gc (n : Nat) : Calls := gcall prog sp n
def desc_is.res : List Sh := [.d .bool]
@[reducible] def desc_is.R : Type := dShL [.d .bool] × Fresh
def desc_is (n : Nat) (a0 : Int) (a1 : Int) : Option desc_is.R := gc n 23 [.dat (.int .i64) a0 [], .dat (.int .i64) a1 []] [.d .bool]
theorem desc_is.eq (n : Nat) (a0 : Int) (a1 : Int) : desc_is (n + 1) a0 a1 =
  bif (decide (0 ≤ a0)) then
    some (((decide (a0 < a1)), ()), [])
  else
    some ((false, ()), []) := by kernel_rfl
def desc_holds.res : List Sh := [.d .bool]
@[reducible] def desc_holds.R : Type := dShL [.d .bool] × Fresh
def desc_holds (n : Nat) (a0 : Int) : Option desc_holds.R := gc n 27 [.dat (.int .i64) a0 []] [.d .bool]
theorem desc_holds.eq (n : Nat) (a0 : Int) : desc_holds (n + 1) a0 =
  Option.bind (desc_is n a0 65) fun r1 =>
  some (((r1.1.1 : Bool), ()), []) := by kernel_rfl
def desc_May_1.res : List Sh := [.d .bool]
@[reducible] def desc_May_1.R : Type := dShL [.d .bool] × Fresh
def desc_May_1 (n : Nat) (a0 : Int) (a1 : Int) : Option desc_May_1.R := gc n 22 [.dat (.int .i64) a0 [], .ref (.int .i64) a1] [.d .bool]
theorem desc_May_1.eq (n : Nat) (a0 : Int) (a1 : Int) : desc_May_1 (n + 1) a0 a1 =
  Option.bind (desc_is n a0 a1) fun r1 =>
  some (((r1.1.1 : Bool), ()), []) := by kernel_rfl
def desc_May_2_1.res : List Sh := [.d .bool]
@[reducible] def desc_May_2_1.R : Type := dShL [.d .bool] × Fresh
def desc_May_2_1 (n : Nat) (a0 : Int) (a1 : Int) : Option desc_May_2_1.R := gc n 26 [.dat (.int .i64) a0 [], .refv (.clo 22 [.ref (.int .i64) a1])] [.d .bool]
theorem desc_May_2_1.eq (n : Nat) (a0 : Int) (a1 : Int) : desc_May_2_1 (n + 1) a0 a1 =
  bif (decide (a0 = (-1))) then
    some ((true, ()), [])
  else
    Option.bind (desc_May_1 n a0 a1) fun r1 =>
    some (((r1.1.1 : Bool), ()), []) := by kernel_rfl
def desc_all_int_1.res : List Sh := [.d .bool]
@[reducible] def desc_all_int_1.R : Type := dShL [.d .bool] × Fresh
def desc_all_int_1 (n : Nat) (a0 : Int) (a1 : Int) : Option desc_all_int_1.R := gc n 46 [.dat (.int .i64) a0 [], .refv (.clo 26 [.refv (.clo 22 [.ref (.int .i64) a1])])] [.d .bool]
theorem desc_all_int_1.eq (n : Nat) (a0 : Int) (a1 : Int) : desc_all_int_1 (n + 1) a0 a1 =
  Option.bind (desc_May_2_1 n a0 a1) fun r1 =>
  some (((!(r1.1.1 : Bool)), ()), []) := by kernel_rfl
def slices_IndexFunc_sint_int.res : List Sh := [.d (.int .i64)]
@[reducible] def slices_IndexFunc_sint_int.R : Type := dShL [.d (.int .i64)] × Fresh
def slices_IndexFunc_sint_int (n : Nat) (a0 : (List Int)) (a1 : Int) : Option slices_IndexFunc_sint_int.R := gc n 53 [.dat (.sl (.int .i64)) a0 [], .clo 46 [.refv (.clo 26 [.refv (.clo 22 [.ref (.int .i64) a1])])]] [.d (.int .i64)]
def slices_IndexFunc_sint_int.l0 (n m0 : Nat) (t0 : (List Int)) (t1 : Int) (t4 : Int) (t7 : Int) (t8 : Int) : Option slices_IndexFunc_sint_int.R :=
  loopN (fun Kn K s h => run (gc n) n slices_IndexFunc_sint_int.c4 Kn K s h) m0 (kBlk 0 (kSeq (run (gc n) n) slices_IndexFunc_sint_int.c1 (retK slices_IndexFunc_sint_int.fn slices_IndexFunc_sint_int.res) (retK slices_IndexFunc_sint_int.fn slices_IndexFunc_sint_int.res)) (retK slices_IndexFunc_sint_int.fn slices_IndexFunc_sint_int.res))
    [(0, .dat (.sl (.int .i64)) t0 []), (1, .clo 46 [.refv (.clo 26 [.refv (.clo 22 [.ref (.int .i64) t1])])]), (4, .dat (.int .i64) t4 []), (7, .dat (.int .i64) t7 []), (8, .dat (.int .i64) t8 [])]
    []
theorem slices_IndexFunc_sint_int.l0_eq (n m0 : Nat) (t0 : (List Int)) (t1 : Int) (t4 : Int) (t7 : Int) (t8 : Int) : slices_IndexFunc_sint_int.l0 n (m0 + 1) t0 t1 t4 t7 t8 =
  bif (decide (t8 < t7)) then
    if (0 : Int) ≤ t8 ∧ t8 < (((List.length t0) : Nat) : Int) then
    Option.bind (desc_all_int_1 n (List.getD t0 (Int.toNat t8) (0 : Int) : Int) t1) fun r1 =>
    bif (r1.1.1 : Bool) then
      some ((t8, ()), [])
    else
      slices_IndexFunc_sint_int.l0 n m0 t0 t1 t4 t7 (IntKind.wrap .i64 (t8 + 1))
    else none
  else
    some (((-1), ()), []) := by kernel_rfl
theorem slices_IndexFunc_sint_int.eq (n : Nat) (a0 : (List Int)) (a1 : Int) : slices_IndexFunc_sint_int (n + 1) a0 a1 =
  slices_IndexFunc_sint_int.l0 n n a0 a1 0 ((List.length a0) : Int) 0 := by kernel_rfl
def slices_ContainsFunc_sint_int.res : List Sh := [.d .bool]
@[reducible] def slices_ContainsFunc_sint_int.R : Type := dShL [.d .bool] × Fresh
def slices_ContainsFunc_sint_int (n : Nat) (a0 : (List Int)) (a1 : Int) : Option slices_ContainsFunc_sint_int.R := gc n 45 [.dat (.sl (.int .i64)) a0 [], .clo 46 [.refv (.clo 26 [.refv (.clo 22 [.ref (.int .i64) a1])])]] [.d .bool]
theorem slices_ContainsFunc_sint_int.eq (n : Nat) (a0 : (List Int)) (a1 : Int) : slices_ContainsFunc_sint_int (n + 1) a0 a1 =
  Option.bind (slices_IndexFunc_sint_int n a0 a1) fun r1 =>
  some (((decide (0 ≤ (r1.1.1 : Int))), ()), []) := by kernel_rfl
def desc_all_int.res : List Sh := [.d .bool]
@[reducible] def desc_all_int.R : Type := dShL [.d .bool] × Fresh
def desc_all_int (n : Nat) (a0 : (List Int)) (a1 : Int) : Option desc_all_int.R := gc n 25 [.dat (.sl (.int .i64)) a0 [], .clo 26 [.refv (.clo 22 [.ref (.int .i64) a1])]] [.d .bool]
theorem desc_all_int.eq (n : Nat) (a0 : (List Int)) (a1 : Int) : desc_all_int (n + 1) a0 a1 =
  Option.bind (slices_ContainsFunc_sint_int n a0 a1) fun r1 =>
  some (((!(r1.1.1 : Bool)), ()), []) := by kernel_rfl
def desc_May_2.res : List Sh := [.d .bool]
@[reducible] def desc_May_2.R : Type := dShL [.d .bool] × Fresh
def desc_May_2 (n : Nat) (a0 : (List Int)) (a1 : Int) : Option desc_May_2.R := gc n 24 [.dat (.arr 4 (.int .i64)) a0 [], .refv (.clo 22 [.ref (.int .i64) a1])] [.d .bool]
theorem desc_May_2.eq (n : Nat) (a0 : (List Int)) (a1 : Int) : desc_May_2 (n + 1) a0 a1 =
  Option.bind (desc_all_int n a0 a1) fun r1 =>
  some (((r1.1.1 : Bool), ()), []) := by kernel_rfl
def desc_all_a4int_1.res : List Sh := [.d .bool]
@[reducible] def desc_all_a4int_1.R : Type := dShL [.d .bool] × Fresh
def desc_all_a4int_1 (n : Nat) (a0 : (List Int)) (a1 : Int) : Option desc_all_a4int_1.R := gc n 48 [.dat (.arr 4 (.int .i64)) a0 [], .refv (.clo 24 [.refv (.clo 22 [.ref (.int .i64) a1])])] [.d .bool]
theorem desc_all_a4int_1.eq (n : Nat) (a0 : (List Int)) (a1 : Int) : desc_all_a4int_1 (n + 1) a0 a1 =
  Option.bind (desc_May_2 n a0 a1) fun r1 =>
  some (((!(r1.1.1 : Bool)), ()), []) := by kernel_rfl
def slices_IndexFunc_sa4int_a4int.res : List Sh := [.d (.int .i64)]
@[reducible] def slices_IndexFunc_sa4int_a4int.R : Type := dShL [.d (.int .i64)] × Fresh
def slices_IndexFunc_sa4int_a4int (n : Nat) (a0 : (List (List Int))) (a1 : Int) : Option slices_IndexFunc_sa4int_a4int.R := gc n 54 [.dat (.sl (.arr 4 (.int .i64))) a0 [], .clo 48 [.refv (.clo 24 [.refv (.clo 22 [.ref (.int .i64) a1])])]] [.d (.int .i64)]
def slices_IndexFunc_sa4int_a4int.l0 (n m0 : Nat) (t0 : (List (List Int))) (t1 : Int) (t4 : Int) (t7 : Int) (t8 : Int) : Option slices_IndexFunc_sa4int_a4int.R :=
  loopN (fun Kn K s h => run (gc n) n slices_IndexFunc_sa4int_a4int.c4 Kn K s h) m0 (kBlk 0 (kSeq (run (gc n) n) slices_IndexFunc_sa4int_a4int.c1 (retK slices_IndexFunc_sa4int_a4int.fn slices_IndexFunc_sa4int_a4int.res) (retK slices_IndexFunc_sa4int_a4int.fn slices_IndexFunc_sa4int_a4int.res)) (retK slices_IndexFunc_sa4int_a4int.fn slices_IndexFunc_sa4int_a4int.res))
    [(0, .dat (.sl (.arr 4 (.int .i64))) t0 []), (1, .clo 48 [.refv (.clo 24 [.refv (.clo 22 [.ref (.int .i64) t1])])]), (4, .dat (.int .i64) t4 []), (7, .dat (.int .i64) t7 []), (8, .dat (.int .i64) t8 [])]
    []
theorem slices_IndexFunc_sa4int_a4int.l0_eq (n m0 : Nat) (t0 : (List (List Int))) (t1 : Int) (t4 : Int) (t7 : Int) (t8 : Int) : slices_IndexFunc_sa4int_a4int.l0 n (m0 + 1) t0 t1 t4 t7 t8 =
  bif (decide (t8 < t7)) then
    if (0 : Int) ≤ t8 ∧ t8 < (((List.length t0) : Nat) : Int) then
    Option.bind (desc_all_a4int_1 n (List.getD t0 (Int.toNat t8) (dft (.arr 4 (.int .i64))) : (List Int)) t1) fun r1 =>
    bif (r1.1.1 : Bool) then
      some ((t8, ()), [])
    else
      slices_IndexFunc_sa4int_a4int.l0 n m0 t0 t1 t4 t7 (IntKind.wrap .i64 (t8 + 1))
    else none
  else
    some (((-1), ()), []) := by kernel_rfl
theorem slices_IndexFunc_sa4int_a4int.eq (n : Nat) (a0 : (List (List Int))) (a1 : Int) : slices_IndexFunc_sa4int_a4int (n + 1) a0 a1 =
  slices_IndexFunc_sa4int_a4int.l0 n n a0 a1 0 ((List.length a0) : Int) 0 := by kernel_rfl
def slices_ContainsFunc_sa4int_a4int.res : List Sh := [.d .bool]
@[reducible] def slices_ContainsFunc_sa4int_a4int.R : Type := dShL [.d .bool] × Fresh
def slices_ContainsFunc_sa4int_a4int (n : Nat) (a0 : (List (List Int))) (a1 : Int) : Option slices_ContainsFunc_sa4int_a4int.R := gc n 47 [.dat (.sl (.arr 4 (.int .i64))) a0 [], .clo 48 [.refv (.clo 24 [.refv (.clo 22 [.ref (.int .i64) a1])])]] [.d .bool]
theorem slices_ContainsFunc_sa4int_a4int.eq (n : Nat) (a0 : (List (List Int))) (a1 : Int) : slices_ContainsFunc_sa4int_a4int (n + 1) a0 a1 =
  Option.bind (slices_IndexFunc_sa4int_a4int n a0 a1) fun r1 =>
  some (((decide (0 ≤ (r1.1.1 : Int))), ()), []) := by kernel_rfl
def desc_all_a4int.res : List Sh := [.d .bool]
@[reducible] def desc_all_a4int.R : Type := dShL [.d .bool] × Fresh
def desc_all_a4int (n : Nat) (a0 : (List (List Int))) (a1 : Int) : Option desc_all_a4int.R := gc n 28 [.dat (.sl (.arr 4 (.int .i64))) a0 [], .clo 24 [.refv (.clo 22 [.ref (.int .i64) a1])]] [.d .bool]
theorem desc_all_a4int.eq (n : Nat) (a0 : (List (List Int))) (a1 : Int) : desc_all_a4int (n + 1) a0 a1 =
  Option.bind (slices_ContainsFunc_sa4int_a4int n a0 a1) fun r1 =>
  some (((!(r1.1.1 : Bool)), ()), []) := by kernel_rfl
def desc_all_int_1_v1.res : List Sh := [.d .bool]
@[reducible] def desc_all_int_1_v1.R : Type := dShL [.d .bool] × Fresh
def desc_all_int_1_v1 (n : Nat) (a0 : Int) (a1 : Int) : Option desc_all_int_1_v1.R := gc n 46 [.dat (.int .i64) a0 [], .refv (.clo 22 [.ref (.int .i64) a1])] [.d .bool]
theorem desc_all_int_1_v1.eq (n : Nat) (a0 : Int) (a1 : Int) : desc_all_int_1_v1 (n + 1) a0 a1 =
  Option.bind (desc_May_1 n a0 a1) fun r1 =>
  some (((!(r1.1.1 : Bool)), ()), []) := by kernel_rfl
def slices_IndexFunc_sint_int_v1.res : List Sh := [.d (.int .i64)]
@[reducible] def slices_IndexFunc_sint_int_v1.R : Type := dShL [.d (.int .i64)] × Fresh
def slices_IndexFunc_sint_int_v1 (n : Nat) (a0 : (List Int)) (a1 : Int) : Option slices_IndexFunc_sint_int_v1.R := gc n 53 [.dat (.sl (.int .i64)) a0 [], .clo 46 [.refv (.clo 22 [.ref (.int .i64) a1])]] [.d (.int .i64)]
def slices_IndexFunc_sint_int_v1.l0 (n m0 : Nat) (t0 : (List Int)) (t1 : Int) (t4 : Int) (t7 : Int) (t8 : Int) : Option slices_IndexFunc_sint_int_v1.R :=
  loopN (fun Kn K s h => run (gc n) n slices_IndexFunc_sint_int.c4 Kn K s h) m0 (kBlk 0 (kSeq (run (gc n) n) slices_IndexFunc_sint_int.c1 (retK slices_IndexFunc_sint_int.fn slices_IndexFunc_sint_int_v1.res) (retK slices_IndexFunc_sint_int.fn slices_IndexFunc_sint_int_v1.res)) (retK slices_IndexFunc_sint_int.fn slices_IndexFunc_sint_int_v1.res))
    [(0, .dat (.sl (.int .i64)) t0 []), (1, .clo 46 [.refv (.clo 22 [.ref (.int .i64) t1])]), (4, .dat (.int .i64) t4 []), (7, .dat (.int .i64) t7 []), (8, .dat (.int .i64) t8 [])]
    []
theorem slices_IndexFunc_sint_int_v1.l0_eq (n m0 : Nat) (t0 : (List Int)) (t1 : Int) (t4 : Int) (t7 : Int) (t8 : Int) : slices_IndexFunc_sint_int_v1.l0 n (m0 + 1) t0 t1 t4 t7 t8 =
  bif (decide (t8 < t7)) then
    if (0 : Int) ≤ t8 ∧ t8 < (((List.length t0) : Nat) : Int) then
    Option.bind (desc_all_int_1_v1 n (List.getD t0 (Int.toNat t8) (0 : Int) : Int) t1) fun r1 =>
    bif (r1.1.1 : Bool) then
      some ((t8, ()), [])
    else
      slices_IndexFunc_sint_int_v1.l0 n m0 t0 t1 t4 t7 (IntKind.wrap .i64 (t8 + 1))
    else none
  else
    some (((-1), ()), []) := by kernel_rfl
theorem slices_IndexFunc_sint_int_v1.eq (n : Nat) (a0 : (List Int)) (a1 : Int) : slices_IndexFunc_sint_int_v1 (n + 1) a0 a1 =
  slices_IndexFunc_sint_int_v1.l0 n n a0 a1 0 ((List.length a0) : Int) 0 := by kernel_rfl
def slices_ContainsFunc_sint_int_v1.res : List Sh := [.d .bool]
@[reducible] def slices_ContainsFunc_sint_int_v1.R : Type := dShL [.d .bool] × Fresh
def slices_ContainsFunc_sint_int_v1 (n : Nat) (a0 : (List Int)) (a1 : Int) : Option slices_ContainsFunc_sint_int_v1.R := gc n 45 [.dat (.sl (.int .i64)) a0 [], .clo 46 [.refv (.clo 22 [.ref (.int .i64) a1])]] [.d .bool]
theorem slices_ContainsFunc_sint_int_v1.eq (n : Nat) (a0 : (List Int)) (a1 : Int) : slices_ContainsFunc_sint_int_v1 (n + 1) a0 a1 =
  Option.bind (slices_IndexFunc_sint_int_v1 n a0 a1) fun r1 =>
  some (((decide (0 ≤ (r1.1.1 : Int))), ()), []) := by kernel_rfl
def desc_all_int_v1.res : List Sh := [.d .bool]
@[reducible] def desc_all_int_v1.R : Type := dShL [.d .bool] × Fresh
def desc_all_int_v1 (n : Nat) (a0 : (List Int)) (a1 : Int) : Option desc_all_int_v1.R := gc n 25 [.dat (.sl (.int .i64)) a0 [], .clo 22 [.ref (.int .i64) a1]] [.d .bool]
theorem desc_all_int_v1.eq (n : Nat) (a0 : (List Int)) (a1 : Int) : desc_all_int_v1 (n + 1) a0 a1 =
  Option.bind (slices_ContainsFunc_sint_int_v1 n a0 a1) fun r1 =>
  some (((!(r1.1.1 : Bool)), ()), []) := by kernel_rfl
def coin_Is.res : List Sh := [.d .bool]
@[reducible] def coin_Is.R : Type := dShL [.d .bool] × Fresh
def coin_Is (n : Nat) (a0 : Int) : Option coin_Is.R := gc n 29 [.dat (.int .i64) a0 []] [.d .bool]
theorem coin_Is.eq (n : Nat) (a0 : Int) : coin_Is (n + 1) a0 =
  bif (decide (0 ≤ a0)) then
    some (((decide (a0 ≤ 1073741824)), ()), [])
  else
    some ((false, ()), []) := by kernel_rfl
def desc_all_int_1_v2.res : List Sh := [.d .bool]
@[reducible] def desc_all_int_1_v2.R : Type := dShL [.d .bool] × Fresh
def desc_all_int_1_v2 (n : Nat) (a0 : Int) : Option desc_all_int_1_v2.R := gc n 46 [.dat (.int .i64) a0 [], .refv (.clo 29 [])] [.d .bool]
theorem desc_all_int_1_v2.eq (n : Nat) (a0 : Int) : desc_all_int_1_v2 (n + 1) a0 =
  Option.bind (coin_Is n a0) fun r1 =>
  some (((!(r1.1.1 : Bool)), ()), []) := by kernel_rfl
def slices_IndexFunc_sint_int_v2.res : List Sh := [.d (.int .i64)]
@[reducible] def slices_IndexFunc_sint_int_v2.R : Type := dShL [.d (.int .i64)] × Fresh
def slices_IndexFunc_sint_int_v2 (n : Nat) (a0 : (List Int)) : Option slices_IndexFunc_sint_int_v2.R := gc n 53 [.dat (.sl (.int .i64)) a0 [], .clo 46 [.refv (.clo 29 [])]] [.d (.int .i64)]
def slices_IndexFunc_sint_int_v2.l0 (n m0 : Nat) (t0 : (List Int)) (t4 : Int) (t7 : Int) (t8 : Int) : Option slices_IndexFunc_sint_int_v2.R :=
  loopN (fun Kn K s h => run (gc n) n slices_IndexFunc_sint_int.c4 Kn K s h) m0 (kBlk 0 (kSeq (run (gc n) n) slices_IndexFunc_sint_int.c1 (retK slices_IndexFunc_sint_int.fn slices_IndexFunc_sint_int_v2.res) (retK slices_IndexFunc_sint_int.fn slices_IndexFunc_sint_int_v2.res)) (retK slices_IndexFunc_sint_int.fn slices_IndexFunc_sint_int_v2.res))
    [(0, .dat (.sl (.int .i64)) t0 []), (1, .clo 46 [.refv (.clo 29 [])]), (4, .dat (.int .i64) t4 []), (7, .dat (.int .i64) t7 []), (8, .dat (.int .i64) t8 [])]
    []
theorem slices_IndexFunc_sint_int_v2.l0_eq (n m0 : Nat) (t0 : (List Int)) (t4 : Int) (t7 : Int) (t8 : Int) : slices_IndexFunc_sint_int_v2.l0 n (m0 + 1) t0 t4 t7 t8 =
  bif (decide (t8 < t7)) then
    if (0 : Int) ≤ t8 ∧ t8 < (((List.length t0) : Nat) : Int) then
    Option.bind (desc_all_int_1_v2 n (List.getD t0 (Int.toNat t8) (0 : Int) : Int)) fun r1 =>
    bif (r1.1.1 : Bool) then
      some ((t8, ()), [])
    else
      slices_IndexFunc_sint_int_v2.l0 n m0 t0 t4 t7 (IntKind.wrap .i64 (t8 + 1))
    else none
  else
    some (((-1), ()), []) := by kernel_rfl
theorem slices_IndexFunc_sint_int_v2.eq (n : Nat) (a0 : (List Int)) : slices_IndexFunc_sint_int_v2 (n + 1) a0 =
  slices_IndexFunc_sint_int_v2.l0 n n a0 0 ((List.length a0) : Int) 0 := by kernel_rfl
def slices_ContainsFunc_sint_int_v2.res : List Sh := [.d .bool]
@[reducible] def slices_ContainsFunc_sint_int_v2.R : Type := dShL [.d .bool] × Fresh
def slices_ContainsFunc_sint_int_v2 (n : Nat) (a0 : (List Int)) : Option slices_ContainsFunc_sint_int_v2.R := gc n 45 [.dat (.sl (.int .i64)) a0 [], .clo 46 [.refv (.clo 29 [])]] [.d .bool]
theorem slices_ContainsFunc_sint_int_v2.eq (n : Nat) (a0 : (List Int)) : slices_ContainsFunc_sint_int_v2 (n + 1) a0 =
  Option.bind (slices_IndexFunc_sint_int_v2 n a0) fun r1 =>
  some (((decide (0 ≤ (r1.1.1 : Int))), ()), []) := by kernel_rfl
def desc_all_int_v2.res : List Sh := [.d .bool]
@[reducible] def desc_all_int_v2.R : Type := dShL [.d .bool] × Fresh
def desc_all_int_v2 (n : Nat) (a0 : (List Int)) : Option desc_all_int_v2.R := gc n 25 [.dat (.sl (.int .i64)) a0 [], .clo 29 []] [.d .bool]
theorem desc_all_int_v2.eq (n : Nat) (a0 : (List Int)) : desc_all_int_v2 (n + 1) a0 =
  Option.bind (slices_ContainsFunc_sint_int_v2 n a0) fun r1 =>
  some (((!(r1.1.1 : Bool)), ()), []) := by kernel_rfl
def desc_May_3.res : List Sh := [.d .bool]
@[reducible] def desc_May_3.R : Type := dShL [.d .bool] × Fresh
def desc_May_3 (n : Nat) (a0 : Int) (a1 : (den tDesc)) : Option desc_May_3.R := gc n 30 [.dat (.int .i64) a0 [], .ref tDesc a1] [.d .bool]
theorem desc_May_3.eq (n : Nat) (a0 : Int) (a1 : (den tDesc)) : desc_May_3 (n + 1) a0 a1 =
  some (((decide (a0 ≤ (a1.2.2.2.2.2.1 : Int))), ()), []) := by kernel_rfl
def desc_all_int_1_v3.res : List Sh := [.d .bool]
@[reducible] def desc_all_int_1_v3.R : Type := dShL [.d .bool] × Fresh
def desc_all_int_1_v3 (n : Nat) (a0 : Int) (a1 : (den tDesc)) : Option desc_all_int_1_v3.R := gc n 46 [.dat (.int .i64) a0 [], .refv (.clo 30 [.ref tDesc a1])] [.d .bool]
theorem desc_all_int_1_v3.eq (n : Nat) (a0 : Int) (a1 : (den tDesc)) : desc_all_int_1_v3 (n + 1) a0 a1 =
  Option.bind (desc_May_3 n a0 a1) fun r1 =>
  some (((!(r1.1.1 : Bool)), ()), []) := by kernel_rfl
def slices_IndexFunc_sint_int_v3.res : List Sh := [.d (.int .i64)]
@[reducible] def slices_IndexFunc_sint_int_v3.R : Type := dShL [.d (.int .i64)] × Fresh
def slices_IndexFunc_sint_int_v3 (n : Nat) (a0 : (List Int)) (a1 : (den tDesc)) : Option slices_IndexFunc_sint_int_v3.R := gc n 53 [.dat (.sl (.int .i64)) a0 [], .clo 46 [.refv (.clo 30 [.ref tDesc a1])]] [.d (.int .i64)]
def slices_IndexFunc_sint_int_v3.l0 (n m0 : Nat) (t0 : (List Int)) (t1 : (den tDesc)) (t4 : Int) (t7 : Int) (t8 : Int) : Option slices_IndexFunc_sint_int_v3.R :=
  loopN (fun Kn K s h => run (gc n) n slices_IndexFunc_sint_int.c4 Kn K s h) m0 (kBlk 0 (kSeq (run (gc n) n) slices_IndexFunc_sint_int.c1 (retK slices_IndexFunc_sint_int.fn slices_IndexFunc_sint_int_v3.res) (retK slices_IndexFunc_sint_int.fn slices_IndexFunc_sint_int_v3.res)) (retK slices_IndexFunc_sint_int.fn slices_IndexFunc_sint_int_v3.res))
    [(0, .dat (.sl (.int .i64)) t0 []), (1, .clo 46 [.refv (.clo 30 [.ref tDesc t1])]), (4, .dat (.int .i64) t4 []), (7, .dat (.int .i64) t7 []), (8, .dat (.int .i64) t8 [])]
    []
theorem slices_IndexFunc_sint_int_v3.l0_eq (n m0 : Nat) (t0 : (List Int)) (t1 : (den tDesc)) (t4 : Int) (t7 : Int) (t8 : Int) : slices_IndexFunc_sint_int_v3.l0 n (m0 + 1) t0 t1 t4 t7 t8 =
  bif (decide (t8 < t7)) then
    if (0 : Int) ≤ t8 ∧ t8 < (((List.length t0) : Nat) : Int) then
    Option.bind (desc_all_int_1_v3 n (List.getD t0 (Int.toNat t8) (0 : Int) : Int) t1) fun r1 =>
    bif (r1.1.1 : Bool) then
      some ((t8, ()), [])
    else
      slices_IndexFunc_sint_int_v3.l0 n m0 t0 t1 t4 t7 (IntKind.wrap .i64 (t8 + 1))
    else none
  else
    some (((-1), ()), []) := by kernel_rfl
theorem slices_IndexFunc_sint_int_v3.eq (n : Nat) (a0 : (List Int)) (a1 : (den tDesc)) : slices_IndexFunc_sint_int_v3 (n + 1) a0 a1 =
  slices_IndexFunc_sint_int_v3.l0 n n a0 a1 0 ((List.length a0) : Int) 0 := by kernel_rfl
def slices_ContainsFunc_sint_int_v3.res : List Sh := [.d .bool]
@[reducible] def slices_ContainsFunc_sint_int_v3.R : Type := dShL [.d .bool] × Fresh
def slices_ContainsFunc_sint_int_v3 (n : Nat) (a0 : (List Int)) (a1 : (den tDesc)) : Option slices_ContainsFunc_sint_int_v3.R := gc n 45 [.dat (.sl (.int .i64)) a0 [], .clo 46 [.refv (.clo 30 [.ref tDesc a1])]] [.d .bool]
theorem slices_ContainsFunc_sint_int_v3.eq (n : Nat) (a0 : (List Int)) (a1 : (den tDesc)) : slices_ContainsFunc_sint_int_v3 (n + 1) a0 a1 =
  Option.bind (slices_IndexFunc_sint_int_v3 n a0 a1) fun r1 =>
  some (((decide (0 ≤ (r1.1.1 : Int))), ()), []) := by kernel_rfl
def desc_all_int_v3.res : List Sh := [.d .bool]
@[reducible] def desc_all_int_v3.R : Type := dShL [.d .bool] × Fresh
def desc_all_int_v3 (n : Nat) (a0 : (List Int)) (a1 : (den tDesc)) : Option desc_all_int_v3.R := gc n 25 [.dat (.sl (.int .i64)) a0 [], .clo 30 [.ref tDesc a1]] [.d .bool]
theorem desc_all_int_v3.eq (n : Nat) (a0 : (List Int)) (a1 : (den tDesc)) : desc_all_int_v3 (n + 1) a0 a1 =
  Option.bind (slices_ContainsFunc_sint_int_v3 n a0 a1) fun r1 =>
  some (((!(r1.1.1 : Bool)), ()), []) := by kernel_rfl
def desc_May.res : List Sh := [.d .bool]
@[reducible] def desc_May.R : Type := dShL [.d .bool] × Fresh
def desc_May (n : Nat) (a0 : (den tDesc)) : Option desc_May.R := gc n 11 [.dat tDesc a0 []] [.d .bool]
def desc_May.l0 (n m0 : Nat) (t0 : (den tDesc)) (t2 : Bool) (t100 : (List Int)) (t101 : Int) (t102 : Int) (o0 : (den tDesc)) (o1 : Int) (o3 : (List Int)) : Option desc_May.R :=
  loopN (fun Kn K s h => run (gc n) n desc_May.c30 Kn K s h) m0 (kBlk 0 (kSeq (run (gc n) n) desc_May.c27 (retK desc_May.fn desc_May.res) (retK desc_May.fn desc_May.res)) (retK desc_May.fn desc_May.res))
    [(0, .dat tDesc t0 []), (1, .ptr 0 []), (2, .dat .bool t2 []), (3, .ptr 1 []), (4, .ptr 2 []), (5, .clo 24 [.ptr 2 []]), (6, .dat (.sl (.int .i64)) ([] : List Int) [([], some 3)]), (100, .dat (.sl (.int .i64)) t100 []), (101, .dat (.int .i64) t101 []), (102, .dat (.int .i64) t102 [])]
    [.box tDesc o0 [], .box (.int .i64) o1 [], .boxv (.clo 22 [.ptr 1 []]), .arr (.int .i64) o3]
theorem desc_May.l0_eq (n m0 : Nat) (t0 : (den tDesc)) (t2 : Bool) (t100 : (List Int)) (t101 : Int) (t102 : Int) (o0 : (den tDesc)) (o1 : Int) (o3 : (List Int)) : desc_May.l0 n (m0 + 1) t0 t2 t100 t101 t102 o0 o1 o3 =
  bif (decide (t102 < t101)) then
    if (0 : Int) ≤ t102 ∧ t102 < (((List.length t100) : Nat) : Int) then
    if (0 : Int) ≤ (List.getD t100 (Int.toNat t102) (0 : Int) : Int) ∧ (List.getD t100 (Int.toNat t102) (0 : Int) : Int) < (((List.length o3) : Nat) : Int) then
    if (0 : Int) ≤ (List.getD t100 (Int.toNat t102) (0 : Int) : Int) ∧ (List.getD t100 (Int.toNat t102) (0 : Int) : Int) < (((List.length o3) : Nat) : Int) then
    desc_May.l0 n m0 t0 t2 t100 t101 (IntKind.wrap .i64 (t102 + 1)) o0 o1 (List.set o3 (Int.toNat (List.getD t100 (Int.toNat t102) (0 : Int) : Int)) (IntKind.wrap .i64 ((List.getD o3 (Int.toNat (List.getD t100 (Int.toNat t102) (0 : Int) : Int)) (0 : Int) : Int) + 1)) : (List Int))
    else none
    else none
    else none
  else
    Option.bind (desc_all_int_v3 n o3 o0) fun r8 =>
    some (((r8.1.1 : Bool), ()), []) := by kernel_rfl
theorem desc_May.eq (n : Nat) (a0 : (den tDesc)) : desc_May (n + 1) a0 =
  bif (decide (((List.length (a0.1 : (List (List Int)))) : Int) < 1)) then
    some ((false, ()), [])
  else
    bif (decide (8 < ((List.length (a0.1 : (List (List Int)))) : Int))) then
      some ((false, ()), [])
    else
      bif (decide (((List.length (a0.2.1 : (List Int))) : Int) < 1)) then
        some ((false, ()), [])
      else
        bif (decide (6 < ((List.length (a0.2.1 : (List Int))) : Int))) then
          some ((false, ()), [])
        else
          bif (decide (16 < ((List.length (a0.2.2.2.1 : (List Int))) : Int))) then
            some ((false, ()), [])
          else
            bif (!(decide (((List.length (a0.2.2.1 : (List Int))) : Int) = ((List.length (a0.2.1 : (List Int))) : Int)))) then
              some ((false, ()), [])
            else
              bif (!(decide (((List.length (a0.2.2.2.2.1 : (List Bool))) : Int) = ((List.length (a0.2.2.2.1 : (List Int))) : Int)))) then
                some ((false, ()), [])
              else
                Option.bind (desc_holds n (a0.2.2.2.2.2.1 : Int)) fun r1 =>
                bif (!(r1.1.1 : Bool)) then
                  some ((false, ()), [])
                else
                  Option.bind (desc_holds n (a0.2.2.2.2.2.2.1 : Int)) fun r2 =>
                  bif (!(r2.1.1 : Bool)) then
                    some ((false, ()), [])
                  else
                    Option.bind (desc_holds n (a0.2.2.2.2.2.2.2.1 : Int)) fun r3 =>
                    bif (!(r3.1.1 : Bool)) then
                      some ((false, ()), [])
                    else
                      Option.bind (desc_all_a4int n (a0.1 : (List (List Int))) ((List.length (a0.1 : (List (List Int)))) : Int)) fun r4 =>
                      bif (!(r4.1.1 : Bool)) then
                        some ((false, ()), [])
                      else
                        Option.bind (desc_all_int_v1 n (a0.2.1 : (List Int)) ((List.length (a0.1 : (List (List Int)))) : Int)) fun r5 =>
                        bif (!(r5.1.1 : Bool)) then
                          some ((false, ()), [])
                        else
                          Option.bind (desc_all_int_v1 n (a0.2.2.2.1 : (List Int)) ((List.length (a0.1 : (List (List Int)))) : Int)) fun r6 =>
                          bif (!(r6.1.1 : Bool)) then
                            some ((false, ()), [])
                          else
                            Option.bind (desc_all_int_v2 n (a0.2.2.1 : (List Int))) fun r7 =>
                            bif (!(r7.1.1 : Bool)) then
                              some ((false, ()), [])
                            else
                              if (0 : Int) ≤ ((List.length (a0.1 : (List (List Int)))) : Int) ∧ ((List.length (a0.1 : (List (List Int)))) : Int) ≤ 1048576 then
                              desc_May.l0 n n a0 false (a0.2.2.2.1 : (List Int)) ((List.length (a0.2.2.2.1 : (List Int))) : Int) 0 a0 ((List.length (a0.1 : (List (List Int)))) : Int) (List.replicate (Int.toNat ((List.length (a0.1 : (List (List Int)))) : Int)) (0 : Int))
                              else none := by kernel_rfl
def slices_Clone_sint_int.res : List Sh := [.d (.sl (.int .i64))]
@[reducible] def slices_Clone_sint_int.R : Type := dShL [.d (.sl (.int .i64))] × Fresh
def slices_Clone_sint_int (n : Nat) (a0 : (List Int)) : Option slices_Clone_sint_int.R := gc n 21 [.dat (.sl (.int .i64)) a0 []] [.d (.sl (.int .i64))]
def desc_New.res : List Sh := [.d tWorld, .d (.int .i64)]
@[reducible] def desc_New.R : Type := dShL [.d tWorld, .d (.int .i64)] × Fresh
def desc_New (n : Nat) (a0 : (den tDesc)) : Option desc_New.R := gc n 10 [.dat tDesc a0 []] [.d tWorld, .d (.int .i64)]
def desc_New.l0 (n m0 : Nat) (t0 : (den tDesc)) (t3 : Int) (t20 : (List Int)) (t21 : Int) (t22 : Int) (o0 : (den tDesc)) (o1 : (den tWorld)) (o2 : (den tWorld)) (o5 : (List (den tPlace))) (o9 : (List Int)) (o10 : (List Int)) : Option desc_New.R :=
  loopN (fun Kn K s h => run (gc n) n desc_New.c13 Kn K s h) m0 (kBlk 0 (kSeq (run (gc n) n) desc_New.c10 (retK desc_New.fn desc_New.res) (retK desc_New.fn desc_New.res)) (retK desc_New.fn desc_New.res))
    [(0, .dat tDesc t0 []), (1, .ptr 0 []), (2, .ptr 1 []), (3, .dat (.int .i64) t3 []), (4, .ptr 2 []), (20, .dat (.sl (.int .i64)) t20 []), (21, .dat (.int .i64) t21 []), (22, .dat (.int .i64) t22 [])]
    [.box tDesc o0 [], .box tWorld o1 [], .box tWorld o2 [([1], some 9), ([2], some 10), ([3], some 5)], .none, .none, .arr tPlace o5, .none, .none, .none, .arr (.int .i64) o9, .arr (.int .i64) o10]
theorem desc_New.l0_eq (n m0 : Nat) (t0 : (den tDesc)) (t3 : Int) (t20 : (List Int)) (t21 : Int) (t22 : Int) (o0 : (den tDesc)) (o1 : (den tWorld)) (o2 : (den tWorld)) (o5 : (List (den tPlace))) (o9 : (List Int)) (o10 : (List Int)) : desc_New.l0 n (m0 + 1) t0 t3 t20 t21 t22 o0 o1 o2 o5 o9 o10 =
  bif (decide (t22 < t21)) then
    if (0 : Int) ≤ t22 ∧ t22 < (((List.length t20) : Nat) : Int) then
    if (List.length o5) + 1 ≤ 1048576 then
    desc_New.l0 n m0 t0 t3 t20 t21 (IntKind.wrap .i64 (t22 + 1)) o0 o1 (o2.1, (o2.2.1 : (List Int)), (o2.2.2.1 : (List Int)), ([] : List (den tPlace)), ()) (o5 ++ ([(0, (List.getD t20 (Int.toNat t22) (0 : Int) : Int), ())] : List (den tPlace))) o9 o10
    else none
    else none
  else
    some (((o2.1, o9, o10, o5, ()), 0, ()), [(0, [1]), (0, [2]), (0, [3])]) := by kernel_rfl
theorem desc_New.eq (n : Nat) (a0 : (den tDesc)) : desc_New (n + 1) a0 =
  Option.bind (desc_May n a0) fun r1 =>
  bif (!(r1.1.1 : Bool)) then
    some ((((([] : List (List Int)), ([] : List Int), ([] : List Int), ([] : List Int), ([] : List Bool), 0, 0, 0, ()), ([] : List Int), ([] : List Int), ([] : List (den tPlace)), ()), 1, ()), [(0, [1]), (0, [2]), (0, [3])])
  else
    Option.bind (slices_Clone_sint_int n (a0.2.1 : (List Int))) fun r2 =>
    bif (keepAll r2.2 [((0, []), 9)]) then
      Option.bind (slices_Clone_sint_int n (a0.2.2.1 : (List Int))) fun r3 =>
      bif (keepAll r3.2 [((0, []), 10)]) then
        desc_New.l0 n n a0 0 (a0.2.2.2.1 : (List Int)) ((List.length (a0.2.2.2.1 : (List Int))) : Int) 0 a0 ((([] : List (List Int)), ([] : List Int), ([] : List Int), ([] : List Int), ([] : List Bool), 0, 0, 0, ()), ([] : List Int), ([] : List Int), ([] : List (den tPlace)), ()) (a0, ([] : List Int), ([] : List Int), ([] : List (den tPlace)), ()) ([] : List (den tPlace)) (r2.1.1 : (List Int)) (r3.1.1 : (List Int))
      else
        none
    else
      none := by kernel_rfl
def slices_Clone_sapi_Place_api_Place.res : List Sh := [.d (.sl tPlace)]
@[reducible] def slices_Clone_sapi_Place_api_Place.R : Type := dShL [.d (.sl tPlace)] × Fresh
def slices_Clone_sapi_Place_api_Place (n : Nat) (a0 : (List (den tPlace))) : Option slices_Clone_sapi_Place_api_Place.R := gc n 44 [.dat (.sl tPlace) a0 []] [.d (.sl tPlace)]
def desc_Copy.res : List Sh := [.d tWorld]
@[reducible] def desc_Copy.R : Type := dShL [.d tWorld] × Fresh
def desc_Copy (n : Nat) (a0 : (den tWorld)) : Option desc_Copy.R := gc n 17 [.dat tWorld a0 []] [.d tWorld]
theorem desc_Copy.eq (n : Nat) (a0 : (den tWorld)) : desc_Copy (n + 1) a0 =
  Option.bind (slices_Clone_sint_int n (a0.2.1 : (List Int))) fun r1 =>
  bif (keepAll r1.2 [((0, []), 2)]) then
    Option.bind (slices_Clone_sint_int n (a0.2.2.1 : (List Int))) fun r2 =>
    bif (keepAll r2.2 [((0, []), 3)]) then
      Option.bind (slices_Clone_sapi_Place_api_Place n (a0.2.2.2.1 : (List (den tPlace)))) fun r3 =>
      bif (keepAll r3.2 [((0, []), 4)]) then
        some (((a0.1, (r1.1.1 : (List Int)), (r2.1.1 : (List Int)), (r3.1.1 : (List (den tPlace))), ()), ()), [(0, [1]), (0, [2]), (0, [3])])
      else
        none
    else
      none
  else
    none := by kernel_rfl
def desc_Right_2.res : List Sh := [.d .bool]
@[reducible] def desc_Right_2.R : Type := dShL [.d .bool] × Fresh
def desc_Right_2 (n : Nat) (a0 : Int) (a1 : (den tDesc)) : Option desc_Right_2.R := gc n 34 [.dat (.int .i64) a0 [], .ref tDesc a1] [.d .bool]
theorem desc_Right_2.eq (n : Nat) (a0 : Int) (a1 : (den tDesc)) : desc_Right_2 (n + 1) a0 a1 =
  Option.bind (desc_is n a0 ((List.length (a1.1 : (List (List Int)))) : Int)) fun r1 =>
  some (((r1.1.1 : Bool), ()), []) := by kernel_rfl
def desc_all_int_1_v4.res : List Sh := [.d .bool]
@[reducible] def desc_all_int_1_v4.R : Type := dShL [.d .bool] × Fresh
def desc_all_int_1_v4 (n : Nat) (a0 : Int) (a1 : (den tDesc)) : Option desc_all_int_1_v4.R := gc n 46 [.dat (.int .i64) a0 [], .refv (.clo 34 [.ref tDesc a1])] [.d .bool]
theorem desc_all_int_1_v4.eq (n : Nat) (a0 : Int) (a1 : (den tDesc)) : desc_all_int_1_v4 (n + 1) a0 a1 =
  Option.bind (desc_Right_2 n a0 a1) fun r1 =>
  some (((!(r1.1.1 : Bool)), ()), []) := by kernel_rfl
def slices_IndexFunc_sint_int_v4.res : List Sh := [.d (.int .i64)]
@[reducible] def slices_IndexFunc_sint_int_v4.R : Type := dShL [.d (.int .i64)] × Fresh
def slices_IndexFunc_sint_int_v4 (n : Nat) (a0 : (List Int)) (a1 : (den tDesc)) : Option slices_IndexFunc_sint_int_v4.R := gc n 53 [.dat (.sl (.int .i64)) a0 [], .clo 46 [.refv (.clo 34 [.ref tDesc a1])]] [.d (.int .i64)]
def slices_IndexFunc_sint_int_v4.l0 (n m0 : Nat) (t0 : (List Int)) (t1 : (den tDesc)) (t4 : Int) (t7 : Int) (t8 : Int) : Option slices_IndexFunc_sint_int_v4.R :=
  loopN (fun Kn K s h => run (gc n) n slices_IndexFunc_sint_int.c4 Kn K s h) m0 (kBlk 0 (kSeq (run (gc n) n) slices_IndexFunc_sint_int.c1 (retK slices_IndexFunc_sint_int.fn slices_IndexFunc_sint_int_v4.res) (retK slices_IndexFunc_sint_int.fn slices_IndexFunc_sint_int_v4.res)) (retK slices_IndexFunc_sint_int.fn slices_IndexFunc_sint_int_v4.res))
    [(0, .dat (.sl (.int .i64)) t0 []), (1, .clo 46 [.refv (.clo 34 [.ref tDesc t1])]), (4, .dat (.int .i64) t4 []), (7, .dat (.int .i64) t7 []), (8, .dat (.int .i64) t8 [])]
    []
theorem slices_IndexFunc_sint_int_v4.l0_eq (n m0 : Nat) (t0 : (List Int)) (t1 : (den tDesc)) (t4 : Int) (t7 : Int) (t8 : Int) : slices_IndexFunc_sint_int_v4.l0 n (m0 + 1) t0 t1 t4 t7 t8 =
  bif (decide (t8 < t7)) then
    if (0 : Int) ≤ t8 ∧ t8 < (((List.length t0) : Nat) : Int) then
    Option.bind (desc_all_int_1_v4 n (List.getD t0 (Int.toNat t8) (0 : Int) : Int) t1) fun r1 =>
    bif (r1.1.1 : Bool) then
      some ((t8, ()), [])
    else
      slices_IndexFunc_sint_int_v4.l0 n m0 t0 t1 t4 t7 (IntKind.wrap .i64 (t8 + 1))
    else none
  else
    some (((-1), ()), []) := by kernel_rfl
theorem slices_IndexFunc_sint_int_v4.eq (n : Nat) (a0 : (List Int)) (a1 : (den tDesc)) : slices_IndexFunc_sint_int_v4 (n + 1) a0 a1 =
  slices_IndexFunc_sint_int_v4.l0 n n a0 a1 0 ((List.length a0) : Int) 0 := by kernel_rfl
def slices_ContainsFunc_sint_int_v4.res : List Sh := [.d .bool]
@[reducible] def slices_ContainsFunc_sint_int_v4.R : Type := dShL [.d .bool] × Fresh
def slices_ContainsFunc_sint_int_v4 (n : Nat) (a0 : (List Int)) (a1 : (den tDesc)) : Option slices_ContainsFunc_sint_int_v4.R := gc n 45 [.dat (.sl (.int .i64)) a0 [], .clo 46 [.refv (.clo 34 [.ref tDesc a1])]] [.d .bool]
theorem slices_ContainsFunc_sint_int_v4.eq (n : Nat) (a0 : (List Int)) (a1 : (den tDesc)) : slices_ContainsFunc_sint_int_v4 (n + 1) a0 a1 =
  Option.bind (slices_IndexFunc_sint_int_v4 n a0 a1) fun r1 =>
  some (((decide (0 ≤ (r1.1.1 : Int))), ()), []) := by kernel_rfl
def desc_all_int_v4.res : List Sh := [.d .bool]
@[reducible] def desc_all_int_v4.R : Type := dShL [.d .bool] × Fresh
def desc_all_int_v4 (n : Nat) (a0 : (List Int)) (a1 : (den tDesc)) : Option desc_all_int_v4.R := gc n 25 [.dat (.sl (.int .i64)) a0 [], .clo 34 [.ref tDesc a1]] [.d .bool]
theorem desc_all_int_v4.eq (n : Nat) (a0 : (List Int)) (a1 : (den tDesc)) : desc_all_int_v4 (n + 1) a0 a1 =
  Option.bind (slices_ContainsFunc_sint_int_v4 n a0 a1) fun r1 =>
  some (((!(r1.1.1 : Bool)), ()), []) := by kernel_rfl
def desc_Right_1.res : List Sh := [.d .bool]
@[reducible] def desc_Right_1.R : Type := dShL [.d .bool] × Fresh
def desc_Right_1 (n : Nat) (a0 : (den tPlace)) (a1 : (den tDesc)) : Option desc_Right_1.R := gc n 33 [.dat tPlace a0 [], .ref tDesc a1] [.d .bool]
theorem desc_Right_1.eq (n : Nat) (a0 : (den tPlace)) (a1 : (den tDesc)) : desc_Right_1 (n + 1) a0 a1 =
  bif (decide ((a0.1 : Int) = 0)) then
    Option.bind (desc_is n (a0.2.1 : Int) ((List.length (a1.1 : (List (List Int)))) : Int)) fun r1 =>
    some (((r1.1.1 : Bool), ()), [])
  else
    bif (decide ((a0.1 : Int) = 1)) then
      Option.bind (desc_is n (a0.2.1 : Int) ((List.length (a1.2.1 : (List Int))) : Int)) fun r2 =>
      some (((r2.1.1 : Bool), ()), [])
    else
      bif (decide ((a0.1 : Int) = 2)) then
        Option.bind (desc_is n (a0.2.1 : Int) ((List.length (a1.2.2.2.1 : (List Int))) : Int)) fun r3 =>
        bif (r3.1.1 : Bool) then
          if (0 : Int) ≤ (a0.2.1 : Int) ∧ (a0.2.1 : Int) < (((List.length (a1.2.2.2.2.1 : (List Bool))) : Nat) : Int) then
          some (((List.getD (a1.2.2.2.2.1 : (List Bool)) (Int.toNat (a0.2.1 : Int)) false : Bool), ()), [])
          else none
        else
          some ((false, ()), [])
      else
        some ((false, ()), []) := by kernel_rfl
def desc_all_api_Place_1.res : List Sh := [.d .bool]
@[reducible] def desc_all_api_Place_1.R : Type := dShL [.d .bool] × Fresh
def desc_all_api_Place_1 (n : Nat) (a0 : (den tPlace)) (a1 : (den tDesc)) : Option desc_all_api_Place_1.R := gc n 50 [.dat tPlace a0 [], .refv (.clo 33 [.ref tDesc a1])] [.d .bool]
theorem desc_all_api_Place_1.eq (n : Nat) (a0 : (den tPlace)) (a1 : (den tDesc)) : desc_all_api_Place_1 (n + 1) a0 a1 =
  Option.bind (desc_Right_1 n a0 a1) fun r1 =>
  some (((!(r1.1.1 : Bool)), ()), []) := by kernel_rfl
def slices_IndexFunc_sapi_Place_api_Place.res : List Sh := [.d (.int .i64)]
@[reducible] def slices_IndexFunc_sapi_Place_api_Place.R : Type := dShL [.d (.int .i64)] × Fresh
def slices_IndexFunc_sapi_Place_api_Place (n : Nat) (a0 : (List (den tPlace))) (a1 : (den tDesc)) : Option slices_IndexFunc_sapi_Place_api_Place.R := gc n 55 [.dat (.sl tPlace) a0 [], .clo 50 [.refv (.clo 33 [.ref tDesc a1])]] [.d (.int .i64)]
def slices_IndexFunc_sapi_Place_api_Place.l0 (n m0 : Nat) (t0 : (List (den tPlace))) (t1 : (den tDesc)) (t4 : Int) (t7 : Int) (t8 : Int) : Option slices_IndexFunc_sapi_Place_api_Place.R :=
  loopN (fun Kn K s h => run (gc n) n slices_IndexFunc_sapi_Place_api_Place.c4 Kn K s h) m0 (kBlk 0 (kSeq (run (gc n) n) slices_IndexFunc_sapi_Place_api_Place.c1 (retK slices_IndexFunc_sapi_Place_api_Place.fn slices_IndexFunc_sapi_Place_api_Place.res) (retK slices_IndexFunc_sapi_Place_api_Place.fn slices_IndexFunc_sapi_Place_api_Place.res)) (retK slices_IndexFunc_sapi_Place_api_Place.fn slices_IndexFunc_sapi_Place_api_Place.res))
    [(0, .dat (.sl tPlace) t0 []), (1, .clo 50 [.refv (.clo 33 [.ref tDesc t1])]), (4, .dat (.int .i64) t4 []), (7, .dat (.int .i64) t7 []), (8, .dat (.int .i64) t8 [])]
    []
theorem slices_IndexFunc_sapi_Place_api_Place.l0_eq (n m0 : Nat) (t0 : (List (den tPlace))) (t1 : (den tDesc)) (t4 : Int) (t7 : Int) (t8 : Int) : slices_IndexFunc_sapi_Place_api_Place.l0 n (m0 + 1) t0 t1 t4 t7 t8 =
  bif (decide (t8 < t7)) then
    if (0 : Int) ≤ t8 ∧ t8 < (((List.length t0) : Nat) : Int) then
    Option.bind (desc_all_api_Place_1 n (List.getD t0 (Int.toNat t8) (dft tPlace) : (den tPlace)) t1) fun r1 =>
    bif (r1.1.1 : Bool) then
      some ((t8, ()), [])
    else
      slices_IndexFunc_sapi_Place_api_Place.l0 n m0 t0 t1 t4 t7 (IntKind.wrap .i64 (t8 + 1))
    else none
  else
    some (((-1), ()), []) := by kernel_rfl
theorem slices_IndexFunc_sapi_Place_api_Place.eq (n : Nat) (a0 : (List (den tPlace))) (a1 : (den tDesc)) : slices_IndexFunc_sapi_Place_api_Place (n + 1) a0 a1 =
  slices_IndexFunc_sapi_Place_api_Place.l0 n n a0 a1 0 ((List.length a0) : Int) 0 := by kernel_rfl
def slices_ContainsFunc_sapi_Place_api_Place.res : List Sh := [.d .bool]
@[reducible] def slices_ContainsFunc_sapi_Place_api_Place.R : Type := dShL [.d .bool] × Fresh
def slices_ContainsFunc_sapi_Place_api_Place (n : Nat) (a0 : (List (den tPlace))) (a1 : (den tDesc)) : Option slices_ContainsFunc_sapi_Place_api_Place.R := gc n 49 [.dat (.sl tPlace) a0 [], .clo 50 [.refv (.clo 33 [.ref tDesc a1])]] [.d .bool]
theorem slices_ContainsFunc_sapi_Place_api_Place.eq (n : Nat) (a0 : (List (den tPlace))) (a1 : (den tDesc)) : slices_ContainsFunc_sapi_Place_api_Place (n + 1) a0 a1 =
  Option.bind (slices_IndexFunc_sapi_Place_api_Place n a0 a1) fun r1 =>
  some (((decide (0 ≤ (r1.1.1 : Int))), ()), []) := by kernel_rfl
def desc_all_api_Place.res : List Sh := [.d .bool]
@[reducible] def desc_all_api_Place.R : Type := dShL [.d .bool] × Fresh
def desc_all_api_Place (n : Nat) (a0 : (List (den tPlace))) (a1 : (den tDesc)) : Option desc_all_api_Place.R := gc n 35 [.dat (.sl tPlace) a0 [], .clo 33 [.ref tDesc a1]] [.d .bool]
theorem desc_all_api_Place.eq (n : Nat) (a0 : (List (den tPlace))) (a1 : (den tDesc)) : desc_all_api_Place (n + 1) a0 a1 =
  Option.bind (slices_ContainsFunc_sapi_Place_api_Place n a0 a1) fun r1 =>
  some (((!(r1.1.1 : Bool)), ()), []) := by kernel_rfl
def desc_Right_3.res : List Sh := [.d .bool]
@[reducible] def desc_Right_3.R : Type := dShL [.d .bool] × Fresh
def desc_Right_3 (n : Nat) (a0 : (den tPlace)) (a1 : Int) (a2 : (den tWorld)) (a3 : (den tWorld)) : Option desc_Right_3.R := gc n 36 [.dat tPlace a0 [], .dat (.int .i64) a1 [], .selfc 36 [.ref tWorld a2], .ref tWorld a3] [.d .bool]
theorem desc_Right_3.eq (n : Nat) (a0 : (den tPlace)) (a1 : Int) (a2 : (den tWorld)) (a3 : (den tWorld)) : desc_Right_3 (n + 1) a0 a1 a2 a3 =
  bif (!(decide ((a0.1 : Int) = 2))) then
    some ((true, ()), [])
  else
    bif (decide (a1 < 4)) then
      if (0 : Int) ≤ (a0.2.1 : Int) ∧ (a0.2.1 : Int) < (((List.length (a3.2.2.2.1 : (List (den tPlace)))) : Nat) : Int) then
      Option.bind (desc_Right_3 n (List.getD (a3.2.2.2.1 : (List (den tPlace))) (Int.toNat (a0.2.1 : Int)) (dft tPlace) : (den tPlace)) (IntKind.wrap .i64 (a1 + 1)) a2 a2) fun r1 =>
      some (((r1.1.1 : Bool), ()), [])
      else none
    else
      some ((false, ()), []) := by kernel_rfl
def desc_Right.res : List Sh := [.d .bool]
@[reducible] def desc_Right.R : Type := dShL [.d .bool] × Fresh
def desc_Right (n : Nat) (a0 : (den tWorld)) : Option desc_Right.R := gc n 13 [.dat tWorld a0 []] [.d .bool]
def desc_Right.l0 (n m0 : Nat) (t0 : (den tWorld)) (t2 : Bool) (t71 : (List (den tPlace))) (t72 : Int) (t73 : Int) (o0 : (den tWorld)) (o1 : (den tDesc)) (o3 : (List ((den tPlace) × Int))) (o4 : (List Int)) : Option desc_Right.R :=
  loopN (fun Kn K s h => run (gc n) n desc_Right.c25 Kn K s h) m0 (kBlk 0 (kSeq (run (gc n) n) desc_Right.c22 (retK desc_Right.fn desc_Right.res) (retK desc_Right.fn desc_Right.res)) (retK desc_Right.fn desc_Right.res))
    [(0, .dat tWorld t0 []), (1, .ptr 0 []), (2, .dat .bool t2 []), (3, .ptr 1 []), (4, .clo 33 [.ptr 1 []]), (5, .ptr 2 []), (7, .ptr 4 []), (6, .ptr 3 []), (71, .dat (.sl tPlace) t71 []), (72, .dat (.int .i64) t72 []), (73, .dat (.int .i64) t73 [])]
    [.box tWorld o0 [], .box tDesc o1 [], .boxv (.clo 36 [.ptr 2 [], .ptr 0 []]), .map tPlace (.int .i64) o3, .box (.arr 3 (.int .i64)) o4 []]
theorem desc_Right.l0_eq (n m0 : Nat) (t0 : (den tWorld)) (t2 : Bool) (t71 : (List (den tPlace))) (t72 : Int) (t73 : Int) (o0 : (den tWorld)) (o1 : (den tDesc)) (o3 : (List ((den tPlace) × Int))) (o4 : (List Int)) : desc_Right.l0 n (m0 + 1) t0 t2 t71 t72 t73 o0 o1 o3 o4 =
  bif (decide (t73 < t72)) then
    if (0 : Int) ≤ t73 ∧ t73 < (((List.length t71) : Nat) : Int) then
    if (0 : Int) ≤ ((mapIx tPlace (.int .i64) (List.getD t71 (Int.toNat t73) (dft tPlace) : (den tPlace)) o3 : Nat) : Int) ∧ ((mapIx tPlace (.int .i64) (List.getD t71 (Int.toNat t73) (dft tPlace) : (den tPlace)) o3 : Nat) : Int) < ((List.length (mapEnt tPlace (.int .i64) (List.getD t71 (Int.toNat t73) (dft tPlace) : (den tPlace)) o3) : Nat) : Int) then
    if (0 : Int) ≤ ((List.getD t71 (Int.toNat t73) (dft tPlace) : (den tPlace)).1 : Int) ∧ ((List.getD t71 (Int.toNat t73) (dft tPlace) : (den tPlace)).1 : Int) < ((3 : Nat) : Int) then
    bif (decide ((List.getD o4 (Int.toNat ((List.getD t71 (Int.toNat t73) (dft tPlace) : (den tPlace)).1 : Int)) (0 : Int) : Int) < ((Option.getD (mapFind tPlace (.int .i64) (List.getD t71 (Int.toNat t73) (dft tPlace) : (den tPlace)) (mapSet tPlace (.int .i64) (Int.toNat ((mapIx tPlace (.int .i64) (List.getD t71 (Int.toNat t73) (dft tPlace) : (den tPlace)) o3 : Nat) : Int)) (IntKind.wrap .i64 (((Option.getD (mapFind tPlace (.int .i64) (List.getD t71 (Int.toNat t73) (dft tPlace) : (den tPlace)) o3) (0 : Int)) : Int) + 1)) (mapEnt tPlace (.int .i64) (List.getD t71 (Int.toNat t73) (dft tPlace) : (den tPlace)) o3))) (0 : Int)) : Int))) then
      some ((false, ()), [])
    else
      Option.bind (desc_Right_3 n (List.getD t71 (Int.toNat t73) (dft tPlace) : (den tPlace)) 0 o0 o0) fun r5 =>
      bif (!(r5.1.1 : Bool)) then
        some ((false, ()), [])
      else
        desc_Right.l0 n m0 t0 t2 t71 t72 (IntKind.wrap .i64 (t73 + 1)) o0 o1 (mapSet tPlace (.int .i64) (Int.toNat ((mapIx tPlace (.int .i64) (List.getD t71 (Int.toNat t73) (dft tPlace) : (den tPlace)) o3 : Nat) : Int)) (IntKind.wrap .i64 (((Option.getD (mapFind tPlace (.int .i64) (List.getD t71 (Int.toNat t73) (dft tPlace) : (den tPlace)) o3) (0 : Int)) : Int) + 1)) (mapEnt tPlace (.int .i64) (List.getD t71 (Int.toNat t73) (dft tPlace) : (den tPlace)) o3)) o4
    else none
    else none
    else none
  else
    some ((true, ()), []) := by kernel_rfl
theorem desc_Right.eq (n : Nat) (a0 : (den tWorld)) : desc_Right (n + 1) a0 =
  Option.bind (desc_May n a0.1) fun r1 =>
  bif (!(r1.1.1 : Bool)) then
    some ((false, ()), [])
  else
    bif (!(decide (((List.length (a0.2.1 : (List Int))) : Int) = ((List.length (a0.1.2.1 : (List Int))) : Int)))) then
      some ((false, ()), [])
    else
      bif (!(decide (((List.length (a0.2.2.1 : (List Int))) : Int) = ((List.length (a0.1.2.1 : (List Int))) : Int)))) then
        some ((false, ()), [])
      else
        bif (!(decide (((List.length (a0.2.2.2.1 : (List (den tPlace)))) : Int) = ((List.length (a0.1.2.2.2.1 : (List Int))) : Int)))) then
          some ((false, ()), [])
        else
          Option.bind (desc_all_int_v4 n (a0.2.1 : (List Int)) a0.1) fun r2 =>
          bif (!(r2.1.1 : Bool)) then
            some ((false, ()), [])
          else
            Option.bind (desc_all_int_v2 n (a0.2.2.1 : (List Int))) fun r3 =>
            bif (!(r3.1.1 : Bool)) then
              some ((false, ()), [])
            else
              Option.bind (desc_all_api_Place n (a0.2.2.2.1 : (List (den tPlace))) a0.1) fun r4 =>
              bif (!(r4.1.1 : Bool)) then
                some ((false, ()), [])
              else
                desc_Right.l0 n n a0 false (a0.2.2.2.1 : (List (den tPlace))) ((List.length (a0.2.2.2.1 : (List (den tPlace)))) : Int) 0 a0 a0.1 [] ([(a0.1.2.2.2.2.2.1 : Int), (a0.1.2.2.2.2.2.2.1 : Int), (a0.1.2.2.2.2.2.2.2.1 : Int)] : List Int) := by kernel_rfl
def slices_Equal_sa4int_a4int.res : List Sh := [.d .bool]
@[reducible] def slices_Equal_sa4int_a4int.R : Type := dShL [.d .bool] × Fresh
def slices_Equal_sa4int_a4int (n : Nat) (a0 : (List (List Int))) (a1 : (List (List Int))) : Option slices_Equal_sa4int_a4int.R := gc n 51 [.dat (.sl (.arr 4 (.int .i64))) a0 [], .dat (.sl (.arr 4 (.int .i64))) a1 []] [.d .bool]
def slices_Equal_sa4int_a4int.l0 (n m0 : Nat) (t0 : (List (List Int))) (t1 : (List (List Int))) (t4 : Bool) (t12 : Int) (t13 : Int) : Option slices_Equal_sa4int_a4int.R :=
  loopN (fun Kn K s h => run (gc n) n slices_Equal_sa4int_a4int.c10 Kn K s h) m0 (kBlk 0 (kSeq (run (gc n) n) slices_Equal_sa4int_a4int.c7 (retK slices_Equal_sa4int_a4int.fn slices_Equal_sa4int_a4int.res) (retK slices_Equal_sa4int_a4int.fn slices_Equal_sa4int_a4int.res)) (retK slices_Equal_sa4int_a4int.fn slices_Equal_sa4int_a4int.res))
    [(0, .dat (.sl (.arr 4 (.int .i64))) t0 []), (1, .dat (.sl (.arr 4 (.int .i64))) t1 []), (4, .dat .bool t4 []), (12, .dat (.int .i64) t12 []), (13, .dat (.int .i64) t13 [])]
    []
theorem slices_Equal_sa4int_a4int.l0_eq (n m0 : Nat) (t0 : (List (List Int))) (t1 : (List (List Int))) (t4 : Bool) (t12 : Int) (t13 : Int) : slices_Equal_sa4int_a4int.l0 n (m0 + 1) t0 t1 t4 t12 t13 =
  bif (decide (t13 < t12)) then
    if (0 : Int) ≤ t13 ∧ t13 < (((List.length t0) : Nat) : Int) then
    if (0 : Int) ≤ t13 ∧ t13 < (((List.length t1) : Nat) : Int) then
    bif (!(eqT (.arr 4 (.int .i64)) (List.getD t0 (Int.toNat t13) (dft (.arr 4 (.int .i64))) : (List Int)) (List.getD t1 (Int.toNat t13) (dft (.arr 4 (.int .i64))) : (List Int)))) then
      some ((false, ()), [])
    else
      slices_Equal_sa4int_a4int.l0 n m0 t0 t1 t4 t12 (IntKind.wrap .i64 (t13 + 1))
    else none
    else none
  else
    some ((true, ()), []) := by kernel_rfl
theorem slices_Equal_sa4int_a4int.eq (n : Nat) (a0 : (List (List Int))) (a1 : (List (List Int))) : slices_Equal_sa4int_a4int (n + 1) a0 a1 =
  bif (!(decide (((List.length a0) : Int) = ((List.length a1) : Int)))) then
    some ((false, ()), [])
  else
    slices_Equal_sa4int_a4int.l0 n n a0 a1 false ((List.length a0) : Int) 0 := by kernel_rfl
def slices_Equal_sint_int.res : List Sh := [.d .bool]
@[reducible] def slices_Equal_sint_int.R : Type := dShL [.d .bool] × Fresh
def slices_Equal_sint_int (n : Nat) (a0 : (List Int)) (a1 : (List Int)) : Option slices_Equal_sint_int.R := gc n 40 [.dat (.sl (.int .i64)) a0 [], .dat (.sl (.int .i64)) a1 []] [.d .bool]
def slices_Equal_sint_int.l0 (n m0 : Nat) (t0 : (List Int)) (t1 : (List Int)) (t4 : Bool) (t12 : Int) (t13 : Int) : Option slices_Equal_sint_int.R :=
  loopN (fun Kn K s h => run (gc n) n slices_Equal_sint_int.c10 Kn K s h) m0 (kBlk 0 (kSeq (run (gc n) n) slices_Equal_sint_int.c7 (retK slices_Equal_sint_int.fn slices_Equal_sint_int.res) (retK slices_Equal_sint_int.fn slices_Equal_sint_int.res)) (retK slices_Equal_sint_int.fn slices_Equal_sint_int.res))
    [(0, .dat (.sl (.int .i64)) t0 []), (1, .dat (.sl (.int .i64)) t1 []), (4, .dat .bool t4 []), (12, .dat (.int .i64) t12 []), (13, .dat (.int .i64) t13 [])]
    []
theorem slices_Equal_sint_int.l0_eq (n m0 : Nat) (t0 : (List Int)) (t1 : (List Int)) (t4 : Bool) (t12 : Int) (t13 : Int) : slices_Equal_sint_int.l0 n (m0 + 1) t0 t1 t4 t12 t13 =
  bif (decide (t13 < t12)) then
    if (0 : Int) ≤ t13 ∧ t13 < (((List.length t0) : Nat) : Int) then
    if (0 : Int) ≤ t13 ∧ t13 < (((List.length t1) : Nat) : Int) then
    bif (!(decide ((List.getD t0 (Int.toNat t13) (0 : Int) : Int) = (List.getD t1 (Int.toNat t13) (0 : Int) : Int)))) then
      some ((false, ()), [])
    else
      slices_Equal_sint_int.l0 n m0 t0 t1 t4 t12 (IntKind.wrap .i64 (t13 + 1))
    else none
    else none
  else
    some ((true, ()), []) := by kernel_rfl
theorem slices_Equal_sint_int.eq (n : Nat) (a0 : (List Int)) (a1 : (List Int)) : slices_Equal_sint_int (n + 1) a0 a1 =
  bif (!(decide (((List.length a0) : Int) = ((List.length a1) : Int)))) then
    some ((false, ()), [])
  else
    slices_Equal_sint_int.l0 n n a0 a1 false ((List.length a0) : Int) 0 := by kernel_rfl
def slices_Equal_sbool_bool.res : List Sh := [.d .bool]
@[reducible] def slices_Equal_sbool_bool.R : Type := dShL [.d .bool] × Fresh
def slices_Equal_sbool_bool (n : Nat) (a0 : (List Bool)) (a1 : (List Bool)) : Option slices_Equal_sbool_bool.R := gc n 52 [.dat (.sl .bool) a0 [], .dat (.sl .bool) a1 []] [.d .bool]
def slices_Equal_sbool_bool.l0 (n m0 : Nat) (t0 : (List Bool)) (t1 : (List Bool)) (t4 : Bool) (t12 : Int) (t13 : Int) : Option slices_Equal_sbool_bool.R :=
  loopN (fun Kn K s h => run (gc n) n slices_Equal_sbool_bool.c10 Kn K s h) m0 (kBlk 0 (kSeq (run (gc n) n) slices_Equal_sbool_bool.c7 (retK slices_Equal_sbool_bool.fn slices_Equal_sbool_bool.res) (retK slices_Equal_sbool_bool.fn slices_Equal_sbool_bool.res)) (retK slices_Equal_sbool_bool.fn slices_Equal_sbool_bool.res))
    [(0, .dat (.sl .bool) t0 []), (1, .dat (.sl .bool) t1 []), (4, .dat .bool t4 []), (12, .dat (.int .i64) t12 []), (13, .dat (.int .i64) t13 [])]
    []
theorem slices_Equal_sbool_bool.l0_eq (n m0 : Nat) (t0 : (List Bool)) (t1 : (List Bool)) (t4 : Bool) (t12 : Int) (t13 : Int) : slices_Equal_sbool_bool.l0 n (m0 + 1) t0 t1 t4 t12 t13 =
  bif (decide (t13 < t12)) then
    if (0 : Int) ≤ t13 ∧ t13 < (((List.length t0) : Nat) : Int) then
    if (0 : Int) ≤ t13 ∧ t13 < (((List.length t1) : Nat) : Int) then
    bif (!(eqT .bool (List.getD t0 (Int.toNat t13) false : Bool) (List.getD t1 (Int.toNat t13) false : Bool))) then
      some ((false, ()), [])
    else
      slices_Equal_sbool_bool.l0 n m0 t0 t1 t4 t12 (IntKind.wrap .i64 (t13 + 1))
    else none
    else none
  else
    some ((true, ()), []) := by kernel_rfl
theorem slices_Equal_sbool_bool.eq (n : Nat) (a0 : (List Bool)) (a1 : (List Bool)) : slices_Equal_sbool_bool (n + 1) a0 a1 =
  bif (!(decide (((List.length a0) : Int) = ((List.length a1) : Int)))) then
    some ((false, ()), [])
  else
    slices_Equal_sbool_bool.l0 n n a0 a1 false ((List.length a0) : Int) 0 := by kernel_rfl
def desc_sameDesc.res : List Sh := [.d .bool]
@[reducible] def desc_sameDesc.R : Type := dShL [.d .bool] × Fresh
def desc_sameDesc (n : Nat) (a0 : (den tDesc)) (a1 : (den tDesc)) : Option desc_sameDesc.R := gc n 39 [.dat tDesc a0 [], .dat tDesc a1 []] [.d .bool]
theorem desc_sameDesc.eq (n : Nat) (a0 : (den tDesc)) (a1 : (den tDesc)) : desc_sameDesc (n + 1) a0 a1 =
  bif (decide ((a0.2.2.2.2.2.1 : Int) = (a1.2.2.2.2.2.1 : Int))) then
    bif (decide ((a0.2.2.2.2.2.2.1 : Int) = (a1.2.2.2.2.2.2.1 : Int))) then
      bif (decide ((a0.2.2.2.2.2.2.2.1 : Int) = (a1.2.2.2.2.2.2.2.1 : Int))) then
        Option.bind (slices_Equal_sa4int_a4int n (a0.1 : (List (List Int))) (a1.1 : (List (List Int)))) fun r1 =>
        bif (r1.1.1 : Bool) then
          Option.bind (slices_Equal_sint_int n (a0.2.1 : (List Int)) (a1.2.1 : (List Int))) fun r2 =>
          bif (r2.1.1 : Bool) then
            Option.bind (slices_Equal_sint_int n (a0.2.2.1 : (List Int)) (a1.2.2.1 : (List Int))) fun r3 =>
            bif (r3.1.1 : Bool) then
              Option.bind (slices_Equal_sint_int n (a0.2.2.2.1 : (List Int)) (a1.2.2.2.1 : (List Int))) fun r4 =>
              bif (r4.1.1 : Bool) then
                Option.bind (slices_Equal_sbool_bool n (a0.2.2.2.2.1 : (List Bool)) (a1.2.2.2.2.1 : (List Bool))) fun r5 =>
                some (((r5.1.1 : Bool), ()), [])
              else
                some ((false, ()), [])
            else
              some ((false, ()), [])
          else
            some ((false, ()), [])
        else
          some ((false, ()), [])
      else
        some ((false, ()), [])
    else
      some ((false, ()), [])
  else
    some ((false, ()), []) := by kernel_rfl
def slices_Equal_sapi_Place_api_Place.res : List Sh := [.d .bool]
@[reducible] def slices_Equal_sapi_Place_api_Place.R : Type := dShL [.d .bool] × Fresh
def slices_Equal_sapi_Place_api_Place (n : Nat) (a0 : (List (den tPlace))) (a1 : (List (den tPlace))) : Option slices_Equal_sapi_Place_api_Place.R := gc n 41 [.dat (.sl tPlace) a0 [], .dat (.sl tPlace) a1 []] [.d .bool]
def slices_Equal_sapi_Place_api_Place.l0 (n m0 : Nat) (t0 : (List (den tPlace))) (t1 : (List (den tPlace))) (t4 : Bool) (t12 : Int) (t13 : Int) : Option slices_Equal_sapi_Place_api_Place.R :=
  loopN (fun Kn K s h => run (gc n) n slices_Equal_sapi_Place_api_Place.c10 Kn K s h) m0 (kBlk 0 (kSeq (run (gc n) n) slices_Equal_sapi_Place_api_Place.c7 (retK slices_Equal_sapi_Place_api_Place.fn slices_Equal_sapi_Place_api_Place.res) (retK slices_Equal_sapi_Place_api_Place.fn slices_Equal_sapi_Place_api_Place.res)) (retK slices_Equal_sapi_Place_api_Place.fn slices_Equal_sapi_Place_api_Place.res))
    [(0, .dat (.sl tPlace) t0 []), (1, .dat (.sl tPlace) t1 []), (4, .dat .bool t4 []), (12, .dat (.int .i64) t12 []), (13, .dat (.int .i64) t13 [])]
    []
theorem slices_Equal_sapi_Place_api_Place.l0_eq (n m0 : Nat) (t0 : (List (den tPlace))) (t1 : (List (den tPlace))) (t4 : Bool) (t12 : Int) (t13 : Int) : slices_Equal_sapi_Place_api_Place.l0 n (m0 + 1) t0 t1 t4 t12 t13 =
  bif (decide (t13 < t12)) then
    if (0 : Int) ≤ t13 ∧ t13 < (((List.length t0) : Nat) : Int) then
    if (0 : Int) ≤ t13 ∧ t13 < (((List.length t1) : Nat) : Int) then
    bif (!(eqT tPlace (List.getD t0 (Int.toNat t13) (dft tPlace) : (den tPlace)) (List.getD t1 (Int.toNat t13) (dft tPlace) : (den tPlace)))) then
      some ((false, ()), [])
    else
      slices_Equal_sapi_Place_api_Place.l0 n m0 t0 t1 t4 t12 (IntKind.wrap .i64 (t13 + 1))
    else none
    else none
  else
    some ((true, ()), []) := by kernel_rfl
theorem slices_Equal_sapi_Place_api_Place.eq (n : Nat) (a0 : (List (den tPlace))) (a1 : (List (den tPlace))) : slices_Equal_sapi_Place_api_Place (n + 1) a0 a1 =
  bif (!(decide (((List.length a0) : Int) = ((List.length a1) : Int)))) then
    some ((false, ()), [])
  else
    slices_Equal_sapi_Place_api_Place.l0 n n a0 a1 false ((List.length a0) : Int) 0 := by kernel_rfl
def desc_Same.res : List Sh := [.d .bool]
@[reducible] def desc_Same.R : Type := dShL [.d .bool] × Fresh
def desc_Same (n : Nat) (a0 : (den tWorld)) (a1 : (den tWorld)) : Option desc_Same.R := gc n 15 [.dat tWorld a0 [], .dat tWorld a1 []] [.d .bool]
theorem desc_Same.eq (n : Nat) (a0 : (den tWorld)) (a1 : (den tWorld)) : desc_Same (n + 1) a0 a1 =
  Option.bind (desc_sameDesc n a0.1 a1.1) fun r1 =>
  bif (r1.1.1 : Bool) then
    Option.bind (slices_Equal_sint_int n (a0.2.1 : (List Int)) (a1.2.1 : (List Int))) fun r2 =>
    bif (r2.1.1 : Bool) then
      Option.bind (slices_Equal_sint_int n (a0.2.2.1 : (List Int)) (a1.2.2.1 : (List Int))) fun r3 =>
      bif (r3.1.1 : Bool) then
        Option.bind (slices_Equal_sapi_Place_api_Place n (a0.2.2.2.1 : (List (den tPlace))) (a1.2.2.2.1 : (List (den tPlace)))) fun r4 =>
        some (((r4.1.1 : Bool), ()), [])
      else
        some ((false, ()), [])
    else
      some ((false, ()), [])
  else
    some ((false, ()), []) := by kernel_rfl
def innkeeplaw06_awake.res : List Sh := [.d .bool]
@[reducible] def innkeeplaw06_awake.R : Type := dShL [.d .bool] × Fresh
def innkeeplaw06_awake (n : Nat) : Option innkeeplaw06_awake.R := gc n 8 [] [.d .bool]
theorem innkeeplaw06_awake.eq (n : Nat) : innkeeplaw06_awake (n + 1) =
  Option.bind (desc_New n (([([1, (-1), (-1), (-1)] : List Int), ([(-1), (-1), 0, (-1)] : List Int)] : List (List Int)), ([1] : List Int), ([5] : List Int), ([0, 0] : List Int), ([true, true] : List Bool), 2, 1, 1, ())) fun r1 =>
  Option.bind (desc_New n (([] : List (List Int)), ([] : List Int), ([] : List Int), ([] : List Int), ([] : List Bool), 0, 0, 0, ())) fun r2 =>
  bif (!(decide (((List.length (r1.1.1.2.2.2.1 : (List (den tPlace)))) : Int) = 2))) then
    some ((false, ()), [])
  else
    bif (!(decide (((List.length (r1.1.1.2.1 : (List Int))) : Int) = 1))) then
      some ((false, ()), [])
    else
      Option.bind (desc_Copy n r1.1.1) fun r3 =>
      bif (keepAll r3.2 [((0, [3]), 10)]) then
        if (0 : Int) ≤ 0 ∧ 0 < (((List.length (r3.1.1.2.2.2.1 : (List (den tPlace)))) : Nat) : Int) then
        Option.bind (desc_Copy n (r3.1.1.1, (r3.1.1.2.1 : (List Int)), (r3.1.1.2.2.1 : (List Int)), (List.set (r3.1.1.2.2.2.1 : (List (den tPlace))) 0 (2, 1, ()) : (List (den tPlace))), ())) fun r4 =>
        bif (keepAll r4.2 [((0, [3]), 11)]) then
          if (0 : Int) ≤ 1 ∧ 1 < (((List.length (r4.1.1.2.2.2.1 : (List (den tPlace)))) : Nat) : Int) then
          bif (decide ((r1.1.2.1 : Int) = 0)) then
            bif (decide ((r2.1.2.1 : Int) = 1)) then
              if (0 : Int) ≤ 0 ∧ 0 < (((List.length (r1.1.1.2.1 : (List Int))) : Nat) : Int) then
              bif (decide ((List.getD (r1.1.1.2.1 : (List Int)) 0 (0 : Int) : Int) = 1)) then
                Option.bind (desc_Right n r1.1.1) fun r5 =>
                bif (r5.1.1 : Bool) then
                  Option.bind (desc_Right n (r3.1.1.1, (r3.1.1.2.1 : (List Int)), (r3.1.1.2.2.1 : (List Int)), (List.set (r3.1.1.2.2.2.1 : (List (den tPlace))) 0 (2, 1, ()) : (List (den tPlace))), ())) fun r6 =>
                  bif (r6.1.1 : Bool) then
                    Option.bind (desc_Right n (r4.1.1.1, (r4.1.1.2.1 : (List Int)), (r4.1.1.2.2.1 : (List Int)), (List.set (r4.1.1.2.2.2.1 : (List (den tPlace))) 1 (2, 0, ()) : (List (den tPlace))), ())) fun r7 =>
                    bif (!(r7.1.1 : Bool)) then
                      Option.bind (desc_Same n r1.1.1 (r3.1.1.1, (r3.1.1.2.1 : (List Int)), (r3.1.1.2.2.1 : (List Int)), (List.set (r3.1.1.2.2.2.1 : (List (den tPlace))) 0 (2, 1, ()) : (List (den tPlace))), ())) fun r8 =>
                      bif (!(r8.1.1 : Bool)) then
                        Option.bind (desc_Copy n r1.1.1) fun r9 =>
                        Option.bind (desc_Same n r1.1.1 r9.1.1) fun r10 =>
                        bif (r10.1.1 : Bool) then
                          Option.bind (desc_May n (([([1, (-1), (-1), (-1)] : List Int), ([(-1), (-1), 0, (-1)] : List Int)] : List (List Int)), ([1] : List Int), ([5] : List Int), ([0, 0] : List Int), ([true, true] : List Bool), 2, 1, 1, ())) fun r11 =>
                          bif (r11.1.1 : Bool) then
                            Option.bind (desc_May n (([] : List (List Int)), ([] : List Int), ([] : List Int), ([] : List Int), ([] : List Bool), 0, 0, 0, ())) fun r12 =>
                            some (((!(r12.1.1 : Bool)), ()), [])
                          else
                            some ((false, ()), [])
                        else
                          some ((false, ()), [])
                      else
                        some ((false, ()), [])
                    else
                      some ((false, ()), [])
                  else
                    some ((false, ()), [])
                else
                  some ((false, ()), [])
              else
                some ((false, ()), [])
              else none
            else
              some ((false, ()), [])
          else
            some ((false, ()), [])
          else none
        else
          none
        else none
      else
        none := by kernel_rfl
def innkeepref06_Few.res : List Sh := [.d .bool]
@[reducible] def innkeepref06_Few.R : Type := dShL [.d .bool] × Fresh
def innkeepref06_Few (n : Nat) (a0 : (den tWorld)) : Option innkeepref06_Few.R := gc n 9 [.dat tWorld a0 []] [.d .bool]
theorem innkeepref06_Few.eq (n : Nat) (a0 : (den tWorld)) : innkeepref06_Few (n + 1) a0 =
  bif (decide (((List.length (a0.1.1 : (List (List Int)))) : Int) ≤ 20)) then
    bif (decide (((List.length (a0.1.2.1 : (List Int))) : Int) ≤ 20)) then
      bif (decide (((List.length (a0.1.2.2.1 : (List Int))) : Int) ≤ 20)) then
        bif (decide (((List.length (a0.1.2.2.2.1 : (List Int))) : Int) ≤ 40)) then
          bif (decide (((List.length (a0.1.2.2.2.2.1 : (List Bool))) : Int) ≤ 40)) then
            bif (decide (((List.length (a0.2.1 : (List Int))) : Int) ≤ 40)) then
              bif (decide (((List.length (a0.2.2.1 : (List Int))) : Int) ≤ 40)) then
                some (((decide (((List.length (a0.2.2.2.1 : (List (den tPlace)))) : Int) ≤ 40)), ()), [])
              else
                some ((false, ()), [])
            else
              some ((false, ()), [])
          else
            some ((false, ()), [])
        else
          some ((false, ()), [])
      else
        some ((false, ()), [])
    else
      some ((false, ()), [])
  else
    some ((false, ()), []) := by kernel_rfl
def innkeepref06_in.res : List Sh := [.d .bool]
@[reducible] def innkeepref06_in.R : Type := dShL [.d .bool] × Fresh
def innkeepref06_in (n : Nat) (a0 : Int) (a1 : Int) : Option innkeepref06_in.R := gc n 31 [.dat (.int .i64) a0 [], .dat (.int .i64) a1 []] [.d .bool]
theorem innkeepref06_in.eq (n : Nat) (a0 : Int) (a1 : Int) : innkeepref06_in (n + 1) a0 a1 =
  bif (decide (0 ≤ a0)) then
    some (((decide (a0 < a1)), ()), [])
  else
    some ((false, ()), []) := by kernel_rfl
def innkeepref01_Is.res : List Sh := [.d .bool]
@[reducible] def innkeepref01_Is.R : Type := dShL [.d .bool] × Fresh
def innkeepref01_Is (n : Nat) (a0 : Int) : Option innkeepref01_Is.R := gc n 32 [.dat (.int .i64) a0 []] [.d .bool]
theorem innkeepref01_Is.eq (n : Nat) (a0 : Int) : innkeepref01_Is (n + 1) a0 =
  bif (decide (0 ≤ a0)) then
    some (((decide (a0 ≤ 1073741824)), ()), [])
  else
    some ((false, ()), []) := by kernel_rfl
def innkeepref06_May.res : List Sh := [.d .bool]
@[reducible] def innkeepref06_May.R : Type := dShL [.d .bool] × Fresh
def innkeepref06_May (n : Nat) (a0 : (den tDesc)) : Option innkeepref06_May.R := gc n 12 [.dat tDesc a0 []] [.d .bool]
def innkeepref06_May.l0 (n m0 : Nat) (t0 : (den tDesc)) (t2 : Bool) (t3 : Int) (t4 : Int) (o0 : (den tDesc)) : Option innkeepref06_May.R :=
  loopN (fun Kn K s h => run (gc n) n innkeepref06_May.c17 Kn K s h) m0 (kBlk 0 (kSeq (run (gc n) n) innkeepref06_May.c15 (retK innkeepref06_May.fn innkeepref06_May.res) (retK innkeepref06_May.fn innkeepref06_May.res)) (retK innkeepref06_May.fn innkeepref06_May.res))
    [(0, .dat tDesc t0 []), (1, .ptr 0 []), (2, .dat .bool t2 []), (3, .dat (.int .i64) t3 []), (4, .dat (.int .i64) t4 [])]
    [.box tDesc o0 []]
def innkeepref06_May.l1 (n m0 m1 : Nat) (t0_1 : (den tDesc)) (t2_1 : Bool) (t3_1 : Int) (t4_1 : Int) (t5_1 : Int) (o0_1 : (den tDesc)) : Option innkeepref06_May.R :=
  loopN (fun Kn K s h => run (gc n) n innkeepref06_May.c26 Kn K s h) m1 (kBlk 2 (kSeq (run (gc n) n) innkeepref06_May.c24 (kSeq (run (gc n) n) innkeepref06_May.c23 (kSeq (run (gc n) n) innkeepref06_May.c18 (fun _ s h => loopN (fun Kn K s h => run (gc n) n innkeepref06_May.c17 Kn K s h) m0 (kBlk 0 (kSeq (run (gc n) n) innkeepref06_May.c15 (retK innkeepref06_May.fn innkeepref06_May.res) (retK innkeepref06_May.fn innkeepref06_May.res)) (retK innkeepref06_May.fn innkeepref06_May.res)) s h) (kBlk 0 (kSeq (run (gc n) n) innkeepref06_May.c15 (retK innkeepref06_May.fn innkeepref06_May.res) (retK innkeepref06_May.fn innkeepref06_May.res)) (retK innkeepref06_May.fn innkeepref06_May.res))) (kBlk 0 (kSeq (run (gc n) n) innkeepref06_May.c15 (retK innkeepref06_May.fn innkeepref06_May.res) (retK innkeepref06_May.fn innkeepref06_May.res)) (retK innkeepref06_May.fn innkeepref06_May.res))) (kBlk 1 (kSeq (run (gc n) n) innkeepref06_May.c23 (kSeq (run (gc n) n) innkeepref06_May.c18 (fun _ s h => loopN (fun Kn K s h => run (gc n) n innkeepref06_May.c17 Kn K s h) m0 (kBlk 0 (kSeq (run (gc n) n) innkeepref06_May.c15 (retK innkeepref06_May.fn innkeepref06_May.res) (retK innkeepref06_May.fn innkeepref06_May.res)) (retK innkeepref06_May.fn innkeepref06_May.res)) s h) (kBlk 0 (kSeq (run (gc n) n) innkeepref06_May.c15 (retK innkeepref06_May.fn innkeepref06_May.res) (retK innkeepref06_May.fn innkeepref06_May.res)) (retK innkeepref06_May.fn innkeepref06_May.res))) (kBlk 0 (kSeq (run (gc n) n) innkeepref06_May.c15 (retK innkeepref06_May.fn innkeepref06_May.res) (retK innkeepref06_May.fn innkeepref06_May.res)) (retK innkeepref06_May.fn innkeepref06_May.res))) (kBlk 0 (kSeq (run (gc n) n) innkeepref06_May.c15 (retK innkeepref06_May.fn innkeepref06_May.res) (retK innkeepref06_May.fn innkeepref06_May.res)) (retK innkeepref06_May.fn innkeepref06_May.res)))) (kBlk 1 (kSeq (run (gc n) n) innkeepref06_May.c23 (kSeq (run (gc n) n) innkeepref06_May.c18 (fun _ s h => loopN (fun Kn K s h => run (gc n) n innkeepref06_May.c17 Kn K s h) m0 (kBlk 0 (kSeq (run (gc n) n) innkeepref06_May.c15 (retK innkeepref06_May.fn innkeepref06_May.res) (retK innkeepref06_May.fn innkeepref06_May.res)) (retK innkeepref06_May.fn innkeepref06_May.res)) s h) (kBlk 0 (kSeq (run (gc n) n) innkeepref06_May.c15 (retK innkeepref06_May.fn innkeepref06_May.res) (retK innkeepref06_May.fn innkeepref06_May.res)) (retK innkeepref06_May.fn innkeepref06_May.res))) (kBlk 0 (kSeq (run (gc n) n) innkeepref06_May.c15 (retK innkeepref06_May.fn innkeepref06_May.res) (retK innkeepref06_May.fn innkeepref06_May.res)) (retK innkeepref06_May.fn innkeepref06_May.res))) (kBlk 0 (kSeq (run (gc n) n) innkeepref06_May.c15 (retK innkeepref06_May.fn innkeepref06_May.res) (retK innkeepref06_May.fn innkeepref06_May.res)) (retK innkeepref06_May.fn innkeepref06_May.res))))
    [(0, .dat tDesc t0_1 []), (1, .ptr 0 []), (2, .dat .bool t2_1 []), (3, .dat (.int .i64) t3_1 []), (4, .dat (.int .i64) t4_1 []), (5, .dat (.int .i64) t5_1 [])]
    [.box tDesc o0_1 []]
def innkeepref06_May.l2 (n m0 m1 : Nat) (t0_2 : (den tDesc)) (t2_2 : Bool) (t3_2 : Int) (t4_2 : Int) (t5_2 : Int) (t6_2 : Int) (t7_2 : Int) (o0_2 : (den tDesc)) : Option innkeepref06_May.R :=
  loopN (fun Kn K s h => run (gc n) n innkeepref06_May.c43 Kn K s h) m1 (kBlk 4 (kSeq (run (gc n) n) innkeepref06_May.c41 (kSeq (run (gc n) n) innkeepref06_May.c23 (kSeq (run (gc n) n) innkeepref06_May.c18 (fun _ s h => loopN (fun Kn K s h => run (gc n) n innkeepref06_May.c17 Kn K s h) m0 (kBlk 0 (kSeq (run (gc n) n) innkeepref06_May.c15 (retK innkeepref06_May.fn innkeepref06_May.res) (retK innkeepref06_May.fn innkeepref06_May.res)) (retK innkeepref06_May.fn innkeepref06_May.res)) s h) (kBlk 0 (kSeq (run (gc n) n) innkeepref06_May.c15 (retK innkeepref06_May.fn innkeepref06_May.res) (retK innkeepref06_May.fn innkeepref06_May.res)) (retK innkeepref06_May.fn innkeepref06_May.res))) (kBlk 0 (kSeq (run (gc n) n) innkeepref06_May.c15 (retK innkeepref06_May.fn innkeepref06_May.res) (retK innkeepref06_May.fn innkeepref06_May.res)) (retK innkeepref06_May.fn innkeepref06_May.res))) (kBlk 1 (kSeq (run (gc n) n) innkeepref06_May.c23 (kSeq (run (gc n) n) innkeepref06_May.c18 (fun _ s h => loopN (fun Kn K s h => run (gc n) n innkeepref06_May.c17 Kn K s h) m0 (kBlk 0 (kSeq (run (gc n) n) innkeepref06_May.c15 (retK innkeepref06_May.fn innkeepref06_May.res) (retK innkeepref06_May.fn innkeepref06_May.res)) (retK innkeepref06_May.fn innkeepref06_May.res)) s h) (kBlk 0 (kSeq (run (gc n) n) innkeepref06_May.c15 (retK innkeepref06_May.fn innkeepref06_May.res) (retK innkeepref06_May.fn innkeepref06_May.res)) (retK innkeepref06_May.fn innkeepref06_May.res))) (kBlk 0 (kSeq (run (gc n) n) innkeepref06_May.c15 (retK innkeepref06_May.fn innkeepref06_May.res) (retK innkeepref06_May.fn innkeepref06_May.res)) (retK innkeepref06_May.fn innkeepref06_May.res))) (kBlk 0 (kSeq (run (gc n) n) innkeepref06_May.c15 (retK innkeepref06_May.fn innkeepref06_May.res) (retK innkeepref06_May.fn innkeepref06_May.res)) (retK innkeepref06_May.fn innkeepref06_May.res)))) (kBlk 1 (kSeq (run (gc n) n) innkeepref06_May.c23 (kSeq (run (gc n) n) innkeepref06_May.c18 (fun _ s h => loopN (fun Kn K s h => run (gc n) n innkeepref06_May.c17 Kn K s h) m0 (kBlk 0 (kSeq (run (gc n) n) innkeepref06_May.c15 (retK innkeepref06_May.fn innkeepref06_May.res) (retK innkeepref06_May.fn innkeepref06_May.res)) (retK innkeepref06_May.fn innkeepref06_May.res)) s h) (kBlk 0 (kSeq (run (gc n) n) innkeepref06_May.c15 (retK innkeepref06_May.fn innkeepref06_May.res) (retK innkeepref06_May.fn innkeepref06_May.res)) (retK innkeepref06_May.fn innkeepref06_May.res))) (kBlk 0 (kSeq (run (gc n) n) innkeepref06_May.c15 (retK innkeepref06_May.fn innkeepref06_May.res) (retK innkeepref06_May.fn innkeepref06_May.res)) (retK innkeepref06_May.fn innkeepref06_May.res))) (kBlk 0 (kSeq (run (gc n) n) innkeepref06_May.c15 (retK innkeepref06_May.fn innkeepref06_May.res) (retK innkeepref06_May.fn innkeepref06_May.res)) (retK innkeepref06_May.fn innkeepref06_May.res))))
    [(0, .dat tDesc t0_2 []), (1, .ptr 0 []), (2, .dat .bool t2_2 []), (3, .dat (.int .i64) t3_2 []), (4, .dat (.int .i64) t4_2 []), (5, .dat (.int .i64) t5_2 []), (6, .dat (.int .i64) t6_2 []), (7, .dat (.int .i64) t7_2 [])]
    [.box tDesc o0_2 []]
def innkeepref06_May.l3 (n m0 : Nat) (t0_3 : (den tDesc)) (t2_3 : Bool) (t3_3 : Int) (t4_3 : Int) (t8_3 : Int) (o0_3 : (den tDesc)) : Option innkeepref06_May.R :=
  loopN (fun Kn K s h => run (gc n) n innkeepref06_May.c66 Kn K s h) m0 (kBlk 6 (kSeq (run (gc n) n) innkeepref06_May.c64 (retK innkeepref06_May.fn innkeepref06_May.res) (retK innkeepref06_May.fn innkeepref06_May.res)) (retK innkeepref06_May.fn innkeepref06_May.res))
    [(0, .dat tDesc t0_3 []), (1, .ptr 0 []), (2, .dat .bool t2_3 []), (3, .dat (.int .i64) t3_3 []), (4, .dat (.int .i64) t4_3 []), (8, .dat (.int .i64) t8_3 [])]
    [.box tDesc o0_3 []]
def innkeepref06_May.l4 (n m0 : Nat) (t0_4 : (den tDesc)) (t2_4 : Bool) (t3_4 : Int) (t4_4 : Int) (t8_4 : Int) (t9_4 : Int) (o0_4 : (den tDesc)) : Option innkeepref06_May.R :=
  loopN (fun Kn K s h => run (gc n) n innkeepref06_May.c82 Kn K s h) m0 (kBlk 8 (kSeq (run (gc n) n) innkeepref06_May.c80 (retK innkeepref06_May.fn innkeepref06_May.res) (retK innkeepref06_May.fn innkeepref06_May.res)) (retK innkeepref06_May.fn innkeepref06_May.res))
    [(0, .dat tDesc t0_4 []), (1, .ptr 0 []), (2, .dat .bool t2_4 []), (3, .dat (.int .i64) t3_4 []), (4, .dat (.int .i64) t4_4 []), (8, .dat (.int .i64) t8_4 []), (9, .dat (.int .i64) t9_4 [])]
    [.box tDesc o0_4 []]
theorem innkeepref06_May.l0_eq (n m0 : Nat) (t0 : (den tDesc)) (t2 : Bool) (t3 : Int) (t4 : Int) (o0 : (den tDesc)) : innkeepref06_May.l0 n (m0 + 1) t0 t2 t3 t4 o0 =
  bif (decide (t4 < t3)) then
    innkeepref06_May.l1 n m0 n t0 t2 t3 t4 0 o0
  else
    innkeepref06_May.l3 n n t0 t2 t3 t4 0 o0 := by kernel_rfl
theorem innkeepref06_May.l1_eq (n m0 m1 : Nat) (t0_1 : (den tDesc)) (t2_1 : Bool) (t3_1 : Int) (t4_1 : Int) (t5_1 : Int) (o0_1 : (den tDesc)) : innkeepref06_May.l1 n m0 (m1 + 1) t0_1 t2_1 t3_1 t4_1 t5_1 o0_1 =
  bif (decide (t5_1 < 4)) then
    if (0 : Int) ≤ t4_1 ∧ t4_1 < (((List.length (o0_1.1 : (List (List Int)))) : Nat) : Int) then
    if (0 : Int) ≤ t5_1 ∧ t5_1 < ((4 : Nat) : Int) then
    bif (!(decide ((List.getD (List.getD (o0_1.1 : (List (List Int))) (Int.toNat t4_1) (dft (.arr 4 (.int .i64))) : (List Int)) (Int.toNat t5_1) (0 : Int) : Int) = (-1)))) then
      if (0 : Int) ≤ t4_1 ∧ t4_1 < (((List.length (o0_1.1 : (List (List Int)))) : Nat) : Int) then
      if (0 : Int) ≤ t5_1 ∧ t5_1 < ((4 : Nat) : Int) then
      Option.bind (innkeepref06_in n (List.getD (List.getD (o0_1.1 : (List (List Int))) (Int.toNat t4_1) (dft (.arr 4 (.int .i64))) : (List Int)) (Int.toNat t5_1) (0 : Int) : Int) t3_1) fun r4 =>
      bif (!(r4.1.1 : Bool)) then
        some ((false, ()), [])
      else
        innkeepref06_May.l1 n m0 m1 t0_1 t2_1 t3_1 t4_1 (IntKind.wrap .i64 (t5_1 + 1)) o0_1
      else none
      else none
    else
      innkeepref06_May.l1 n m0 m1 t0_1 t2_1 t3_1 t4_1 (IntKind.wrap .i64 (t5_1 + 1)) o0_1
    else none
    else none
  else
    innkeepref06_May.l2 n m0 n t0_1 t2_1 t3_1 t4_1 t5_1 0 0 o0_1 := by kernel_rfl
theorem innkeepref06_May.l2_eq (n m0 m1 : Nat) (t0_2 : (den tDesc)) (t2_2 : Bool) (t3_2 : Int) (t4_2 : Int) (t5_2 : Int) (t6_2 : Int) (t7_2 : Int) (o0_2 : (den tDesc)) : innkeepref06_May.l2 n m0 (m1 + 1) t0_2 t2_2 t3_2 t4_2 t5_2 t6_2 t7_2 o0_2 =
  bif (decide (t7_2 < ((List.length (o0_2.2.2.2.1 : (List Int))) : Int))) then
    if (0 : Int) ≤ t7_2 ∧ t7_2 < (((List.length (o0_2.2.2.2.1 : (List Int))) : Nat) : Int) then
    bif (decide ((List.getD (o0_2.2.2.2.1 : (List Int)) (Int.toNat t7_2) (0 : Int) : Int) = t4_2)) then
      innkeepref06_May.l2 n m0 m1 t0_2 t2_2 t3_2 t4_2 t5_2 (IntKind.wrap .i64 (t6_2 + 1)) (IntKind.wrap .i64 (t7_2 + 1)) o0_2
    else
      innkeepref06_May.l2 n m0 m1 t0_2 t2_2 t3_2 t4_2 t5_2 t6_2 (IntKind.wrap .i64 (t7_2 + 1)) o0_2
    else none
  else
    bif (decide ((o0_2.2.2.2.2.2.1 : Int) < t6_2)) then
      some ((false, ()), [])
    else
      innkeepref06_May.l0 n m0 t0_2 t2_2 t3_2 (IntKind.wrap .i64 (t4_2 + 1)) o0_2 := by kernel_rfl
theorem innkeepref06_May.l3_eq (n m0 : Nat) (t0_3 : (den tDesc)) (t2_3 : Bool) (t3_3 : Int) (t4_3 : Int) (t8_3 : Int) (o0_3 : (den tDesc)) : innkeepref06_May.l3 n (m0 + 1) t0_3 t2_3 t3_3 t4_3 t8_3 o0_3 =
  bif (decide (t8_3 < ((List.length (o0_3.2.1 : (List Int))) : Int))) then
    if (0 : Int) ≤ t8_3 ∧ t8_3 < (((List.length (o0_3.2.1 : (List Int))) : Nat) : Int) then
    Option.bind (innkeepref06_in n (List.getD (o0_3.2.1 : (List Int)) (Int.toNat t8_3) (0 : Int) : Int) t3_3) fun r5 =>
    bif (!(r5.1.1 : Bool)) then
      some ((false, ()), [])
    else
      if (0 : Int) ≤ t8_3 ∧ t8_3 < (((List.length (o0_3.2.2.1 : (List Int))) : Nat) : Int) then
      Option.bind (innkeepref01_Is n (List.getD (o0_3.2.2.1 : (List Int)) (Int.toNat t8_3) (0 : Int) : Int)) fun r6 =>
      bif (!(r6.1.1 : Bool)) then
        some ((false, ()), [])
      else
        innkeepref06_May.l3 n m0 t0_3 t2_3 t3_3 t4_3 (IntKind.wrap .i64 (t8_3 + 1)) o0_3
      else none
    else none
  else
    innkeepref06_May.l4 n n t0_3 t2_3 t3_3 t4_3 t8_3 0 o0_3 := by kernel_rfl
theorem innkeepref06_May.l4_eq (n m0 : Nat) (t0_4 : (den tDesc)) (t2_4 : Bool) (t3_4 : Int) (t4_4 : Int) (t8_4 : Int) (t9_4 : Int) (o0_4 : (den tDesc)) : innkeepref06_May.l4 n (m0 + 1) t0_4 t2_4 t3_4 t4_4 t8_4 t9_4 o0_4 =
  bif (decide (t9_4 < ((List.length (o0_4.2.2.2.1 : (List Int))) : Int))) then
    if (0 : Int) ≤ t9_4 ∧ t9_4 < (((List.length (o0_4.2.2.2.1 : (List Int))) : Nat) : Int) then
    Option.bind (innkeepref06_in n (List.getD (o0_4.2.2.2.1 : (List Int)) (Int.toNat t9_4) (0 : Int) : Int) t3_4) fun r7 =>
    bif (!(r7.1.1 : Bool)) then
      some ((false, ()), [])
    else
      innkeepref06_May.l4 n m0 t0_4 t2_4 t3_4 t4_4 t8_4 (IntKind.wrap .i64 (t9_4 + 1)) o0_4
    else none
  else
    some ((true, ()), []) := by kernel_rfl
theorem innkeepref06_May.eq (n : Nat) (a0 : (den tDesc)) : innkeepref06_May (n + 1) a0 =
  bif (decide (((List.length (a0.1 : (List (List Int)))) : Int) < 1)) then
    some ((false, ()), [])
  else
    bif (decide (8 < ((List.length (a0.1 : (List (List Int)))) : Int))) then
      some ((false, ()), [])
    else
      bif (decide (((List.length (a0.2.1 : (List Int))) : Int) < 1)) then
        some ((false, ()), [])
      else
        bif (decide (6 < ((List.length (a0.2.1 : (List Int))) : Int))) then
          some ((false, ()), [])
        else
          bif (!(decide (((List.length (a0.2.2.1 : (List Int))) : Int) = ((List.length (a0.2.1 : (List Int))) : Int)))) then
            some ((false, ()), [])
          else
            bif (decide (16 < ((List.length (a0.2.2.2.1 : (List Int))) : Int))) then
              some ((false, ()), [])
            else
              bif (!(decide (((List.length (a0.2.2.2.2.1 : (List Bool))) : Int) = ((List.length (a0.2.2.2.1 : (List Int))) : Int)))) then
                some ((false, ()), [])
              else
                Option.bind (innkeepref06_in n (a0.2.2.2.2.2.1 : Int) 65) fun r1 =>
                bif (!(r1.1.1 : Bool)) then
                  some ((false, ()), [])
                else
                  Option.bind (innkeepref06_in n (a0.2.2.2.2.2.2.1 : Int) 65) fun r2 =>
                  bif (!(r2.1.1 : Bool)) then
                    some ((false, ()), [])
                  else
                    Option.bind (innkeepref06_in n (a0.2.2.2.2.2.2.2.1 : Int) 65) fun r3 =>
                    bif (!(r3.1.1 : Bool)) then
                      some ((false, ()), [])
                    else
                      innkeepref06_May.l0 n n a0 false ((List.length (a0.1 : (List (List Int)))) : Int) 0 a0 := by kernel_rfl
def innkeepref06_Depth.res : List Sh := [.d (.int .i64)]
@[reducible] def innkeepref06_Depth.R : Type := dShL [.d (.int .i64)] × Fresh
def innkeepref06_Depth (n : Nat) (a0 : (den tWorld)) (a1 : (den tPlace)) : Option innkeepref06_Depth.R := gc n 37 [.dat tWorld a0 [], .dat tPlace a1 []] [.d (.int .i64)]
def innkeepref06_Depth.l0 (n m0 : Nat) (t0 : (den tWorld)) (t1 : (den tPlace)) (t4 : Int) (t5 : Int) (o0 : (den tWorld)) (o1 : (den tPlace)) : Option innkeepref06_Depth.R :=
  loopN (fun Kn K s h => run (gc n) n innkeepref06_Depth.c3 Kn K s h) m0 (kBlk 0 (kSeq (run (gc n) n) innkeepref06_Depth.c2 (retK innkeepref06_Depth.fn innkeepref06_Depth.res) (retK innkeepref06_Depth.fn innkeepref06_Depth.res)) (retK innkeepref06_Depth.fn innkeepref06_Depth.res))
    [(0, .dat tWorld t0 []), (1, .dat tPlace t1 []), (2, .ptr 0 []), (3, .ptr 1 []), (4, .dat (.int .i64) t4 []), (5, .dat (.int .i64) t5 [])]
    [.box tWorld o0 [], .box tPlace o1 []]
theorem innkeepref06_Depth.l0_eq (n m0 : Nat) (t0 : (den tWorld)) (t1 : (den tPlace)) (t4 : Int) (t5 : Int) (o0 : (den tWorld)) (o1 : (den tPlace)) : innkeepref06_Depth.l0 n (m0 + 1) t0 t1 t4 t5 o0 o1 =
  bif (decide ((o1.1 : Int) = 2)) then
    bif (decide (50 < (IntKind.wrap .i64 (t5 + 1)))) then
      some ((99, ()), [])
    else
      if (0 : Int) ≤ (o1.2.1 : Int) ∧ (o1.2.1 : Int) < (((List.length (o0.2.2.2.1 : (List (den tPlace)))) : Nat) : Int) then
      innkeepref06_Depth.l0 n m0 t0 t1 t4 (IntKind.wrap .i64 (t5 + 1)) o0 (List.getD (o0.2.2.2.1 : (List (den tPlace))) (Int.toNat (o1.2.1 : Int)) (dft tPlace) : (den tPlace))
      else none
  else
    some ((t5, ()), []) := by kernel_rfl
theorem innkeepref06_Depth.eq (n : Nat) (a0 : (den tWorld)) (a1 : (den tPlace)) : innkeepref06_Depth (n + 1) a0 a1 =
  innkeepref06_Depth.l0 n n a0 a1 0 0 a0 a1 := by kernel_rfl
def innkeepref06_Many.res : List Sh := [.d (.int .i64)]
@[reducible] def innkeepref06_Many.R : Type := dShL [.d (.int .i64)] × Fresh
def innkeepref06_Many (n : Nat) (a0 : (den tWorld)) (a1 : (den tPlace)) : Option innkeepref06_Many.R := gc n 19 [.dat tWorld a0 [], .dat tPlace a1 []] [.d (.int .i64)]
def innkeepref06_Many.l0 (n m0 : Nat) (t0 : (den tWorld)) (t1 : (den tPlace)) (t4 : Int) (t5 : Int) (t6 : Int) (o0 : (den tWorld)) (o1 : (den tPlace)) : Option innkeepref06_Many.R :=
  loopN (fun Kn K s h => run (gc n) n innkeepref06_Many.c4 Kn K s h) m0 (kBlk 0 (kSeq (run (gc n) n) innkeepref06_Many.c2 (retK innkeepref06_Many.fn innkeepref06_Many.res) (retK innkeepref06_Many.fn innkeepref06_Many.res)) (retK innkeepref06_Many.fn innkeepref06_Many.res))
    [(0, .dat tWorld t0 []), (1, .dat tPlace t1 []), (2, .ptr 0 []), (3, .ptr 1 []), (4, .dat (.int .i64) t4 []), (5, .dat (.int .i64) t5 []), (6, .dat (.int .i64) t6 [])]
    [.box tWorld o0 [], .box tPlace o1 []]
theorem innkeepref06_Many.l0_eq (n m0 : Nat) (t0 : (den tWorld)) (t1 : (den tPlace)) (t4 : Int) (t5 : Int) (t6 : Int) (o0 : (den tWorld)) (o1 : (den tPlace)) : innkeepref06_Many.l0 n (m0 + 1) t0 t1 t4 t5 t6 o0 o1 =
  bif (decide (t6 < ((List.length (o0.2.2.2.1 : (List (den tPlace)))) : Int))) then
    if (0 : Int) ≤ t6 ∧ t6 < (((List.length (o0.2.2.2.1 : (List (den tPlace)))) : Nat) : Int) then
    bif (eqT tPlace (List.getD (o0.2.2.2.1 : (List (den tPlace))) (Int.toNat t6) (dft tPlace) : (den tPlace)) o1) then
      innkeepref06_Many.l0 n m0 t0 t1 t4 (IntKind.wrap .i64 (t5 + 1)) (IntKind.wrap .i64 (t6 + 1)) o0 o1
    else
      innkeepref06_Many.l0 n m0 t0 t1 t4 t5 (IntKind.wrap .i64 (t6 + 1)) o0 o1
    else none
  else
    some ((t5, ()), []) := by kernel_rfl
theorem innkeepref06_Many.eq (n : Nat) (a0 : (den tWorld)) (a1 : (den tPlace)) : innkeepref06_Many (n + 1) a0 a1 =
  innkeepref06_Many.l0 n n a0 a1 0 0 0 a0 a1 := by kernel_rfl
def innkeepref06_Cap.res : List Sh := [.d (.int .i64)]
@[reducible] def innkeepref06_Cap.R : Type := dShL [.d (.int .i64)] × Fresh
def innkeepref06_Cap (n : Nat) (a0 : (den tWorld)) (a1 : (den tPlace)) : Option innkeepref06_Cap.R := gc n 38 [.dat tWorld a0 [], .dat tPlace a1 []] [.d (.int .i64)]
theorem innkeepref06_Cap.eq (n : Nat) (a0 : (den tWorld)) (a1 : (den tPlace)) : innkeepref06_Cap (n + 1) a0 a1 =
  if (0 : Int) ≤ (a1.1 : Int) ∧ (a1.1 : Int) < ((3 : Nat) : Int) then
  some (((List.getD ([(a0.1.2.2.2.2.2.1 : Int), (a0.1.2.2.2.2.2.2.1 : Int), (a0.1.2.2.2.2.2.2.2.1 : Int)] : List Int) (Int.toNat (a1.1 : Int)) (0 : Int) : Int), ()), [])
  else none := by kernel_rfl
def innkeepref06_Right.res : List Sh := [.d .bool]
@[reducible] def innkeepref06_Right.R : Type := dShL [.d .bool] × Fresh
def innkeepref06_Right (n : Nat) (a0 : (den tWorld)) : Option innkeepref06_Right.R := gc n 14 [.dat tWorld a0 []] [.d .bool]
def innkeepref06_Right.l0 (n m0 : Nat) (t0 : (den tWorld)) (t2 : Bool) (t4 : Int) (o0 : (den tWorld)) (o1 : (den tDesc)) : Option innkeepref06_Right.R :=
  loopN (fun Kn K s h => run (gc n) n innkeepref06_Right.c11 Kn K s h) m0 (kBlk 0 (kSeq (run (gc n) n) innkeepref06_Right.c9 (retK innkeepref06_Right.fn innkeepref06_Right.res) (retK innkeepref06_Right.fn innkeepref06_Right.res)) (retK innkeepref06_Right.fn innkeepref06_Right.res))
    [(0, .dat tWorld t0 []), (1, .ptr 0 []), (2, .dat .bool t2 []), (3, .ptr 1 []), (4, .dat (.int .i64) t4 [])]
    [.box tWorld o0 [], .box tDesc o1 []]
def innkeepref06_Right.l1 (n m0 : Nat) (t0_1 : (den tWorld)) (t2_1 : Bool) (t4_1 : Int) (t5_1 : Int) (o0_1 : (den tWorld)) (o1_1 : (den tDesc)) : Option innkeepref06_Right.R :=
  loopN (fun Kn K s h => run (gc n) n innkeepref06_Right.c27 Kn K s h) m0 (kBlk 2 (kSeq (run (gc n) n) innkeepref06_Right.c25 (retK innkeepref06_Right.fn innkeepref06_Right.res) (retK innkeepref06_Right.fn innkeepref06_Right.res)) (retK innkeepref06_Right.fn innkeepref06_Right.res))
    [(0, .dat tWorld t0_1 []), (1, .ptr 0 []), (2, .dat .bool t2_1 []), (3, .ptr 1 []), (4, .dat (.int .i64) t4_1 []), (5, .dat (.int .i64) t5_1 [])]
    [.box tWorld o0_1 [], .box tDesc o1_1 []]
def innkeepref06_Right.l2 (n m0 : Nat) (t0_2 : (den tWorld)) (t2_2 : Bool) (t4_2 : Int) (t5_2 : Int) (t8_2 : Int) (o0_2 : (den tWorld)) (o1_2 : (den tDesc)) : Option innkeepref06_Right.R :=
  loopN (fun Kn K s h => run (gc n) n innkeepref06_Right.c47 Kn K s h) m0 (kBlk 4 (kSeq (run (gc n) n) innkeepref06_Right.c45 (retK innkeepref06_Right.fn innkeepref06_Right.res) (retK innkeepref06_Right.fn innkeepref06_Right.res)) (retK innkeepref06_Right.fn innkeepref06_Right.res))
    [(0, .dat tWorld t0_2 []), (1, .ptr 0 []), (2, .dat .bool t2_2 []), (3, .ptr 1 []), (4, .dat (.int .i64) t4_2 []), (5, .dat (.int .i64) t5_2 []), (8, .dat (.int .i64) t8_2 [])]
    [.box tWorld o0_2 [], .box tDesc o1_2 []]
theorem innkeepref06_Right.l0_eq (n m0 : Nat) (t0 : (den tWorld)) (t2 : Bool) (t4 : Int) (o0 : (den tWorld)) (o1 : (den tDesc)) : innkeepref06_Right.l0 n (m0 + 1) t0 t2 t4 o0 o1 =
  bif (decide (t4 < ((List.length (o0.2.1 : (List Int))) : Int))) then
    if (0 : Int) ≤ t4 ∧ t4 < (((List.length (o0.2.1 : (List Int))) : Nat) : Int) then
    Option.bind (innkeepref06_in n (List.getD (o0.2.1 : (List Int)) (Int.toNat t4) (0 : Int) : Int) ((List.length (o1.1 : (List (List Int)))) : Int)) fun r2 =>
    bif (!(r2.1.1 : Bool)) then
      some ((false, ()), [])
    else
      if (0 : Int) ≤ t4 ∧ t4 < (((List.length (o0.2.2.1 : (List Int))) : Nat) : Int) then
      Option.bind (innkeepref01_Is n (List.getD (o0.2.2.1 : (List Int)) (Int.toNat t4) (0 : Int) : Int)) fun r3 =>
      bif (!(r3.1.1 : Bool)) then
        some ((false, ()), [])
      else
        innkeepref06_Right.l0 n m0 t0 t2 (IntKind.wrap .i64 (t4 + 1)) o0 o1
      else none
    else none
  else
    innkeepref06_Right.l1 n n t0 t2 t4 0 o0 o1 := by kernel_rfl
theorem innkeepref06_Right.l1_eq (n m0 : Nat) (t0_1 : (den tWorld)) (t2_1 : Bool) (t4_1 : Int) (t5_1 : Int) (o0_1 : (den tWorld)) (o1_1 : (den tDesc)) : innkeepref06_Right.l1 n (m0 + 1) t0_1 t2_1 t4_1 t5_1 o0_1 o1_1 =
  bif (decide (t5_1 < ((List.length (o0_1.2.2.2.1 : (List (den tPlace)))) : Int))) then
    if (0 : Int) ≤ t5_1 ∧ t5_1 < (((List.length (o0_1.2.2.2.1 : (List (den tPlace)))) : Nat) : Int) then
    bif (decide (((List.getD (o0_1.2.2.2.1 : (List (den tPlace))) (Int.toNat t5_1) (dft tPlace) : (den tPlace)).1 : Int) = 0)) then
      Option.bind (innkeepref06_in n ((List.getD (o0_1.2.2.2.1 : (List (den tPlace))) (Int.toNat t5_1) (dft tPlace) : (den tPlace)).2.1 : Int) ((List.length (o1_1.1 : (List (List Int)))) : Int)) fun r4 =>
      bif (r4.1.1 : Bool) then
        innkeepref06_Right.l1 n m0 t0_1 t2_1 t4_1 (IntKind.wrap .i64 (t5_1 + 1)) o0_1 o1_1
      else
        bif (decide (((List.getD (o0_1.2.2.2.1 : (List (den tPlace))) (Int.toNat t5_1) (dft tPlace) : (den tPlace)).1 : Int) = 1)) then
          Option.bind (innkeepref06_in n ((List.getD (o0_1.2.2.2.1 : (List (den tPlace))) (Int.toNat t5_1) (dft tPlace) : (den tPlace)).2.1 : Int) ((List.length (o1_1.2.1 : (List Int))) : Int)) fun r5 =>
          bif (r5.1.1 : Bool) then
            innkeepref06_Right.l1 n m0 t0_1 t2_1 t4_1 (IntKind.wrap .i64 (t5_1 + 1)) o0_1 o1_1
          else
            bif (decide (((List.getD (o0_1.2.2.2.1 : (List (den tPlace))) (Int.toNat t5_1) (dft tPlace) : (den tPlace)).1 : Int) = 2)) then
              Option.bind (innkeepref06_in n ((List.getD (o0_1.2.2.2.1 : (List (den tPlace))) (Int.toNat t5_1) (dft tPlace) : (den tPlace)).2.1 : Int) ((List.length (o1_1.2.2.2.1 : (List Int))) : Int)) fun r6 =>
              bif (r6.1.1 : Bool) then
                if (0 : Int) ≤ ((List.getD (o0_1.2.2.2.1 : (List (den tPlace))) (Int.toNat t5_1) (dft tPlace) : (den tPlace)).2.1 : Int) ∧ ((List.getD (o0_1.2.2.2.1 : (List (den tPlace))) (Int.toNat t5_1) (dft tPlace) : (den tPlace)).2.1 : Int) < (((List.length (o1_1.2.2.2.2.1 : (List Bool))) : Nat) : Int) then
                bif (!(List.getD (o1_1.2.2.2.2.1 : (List Bool)) (Int.toNat ((List.getD (o0_1.2.2.2.1 : (List (den tPlace))) (Int.toNat t5_1) (dft tPlace) : (den tPlace)).2.1 : Int)) false : Bool)) then
                  some ((false, ()), [])
                else
                  innkeepref06_Right.l1 n m0 t0_1 t2_1 t4_1 (IntKind.wrap .i64 (t5_1 + 1)) o0_1 o1_1
                else none
              else
                some ((false, ()), [])
            else
              some ((false, ()), [])
        else
          bif (decide (((List.getD (o0_1.2.2.2.1 : (List (den tPlace))) (Int.toNat t5_1) (dft tPlace) : (den tPlace)).1 : Int) = 2)) then
            Option.bind (innkeepref06_in n ((List.getD (o0_1.2.2.2.1 : (List (den tPlace))) (Int.toNat t5_1) (dft tPlace) : (den tPlace)).2.1 : Int) ((List.length (o1_1.2.2.2.1 : (List Int))) : Int)) fun r7 =>
            bif (r7.1.1 : Bool) then
              if (0 : Int) ≤ ((List.getD (o0_1.2.2.2.1 : (List (den tPlace))) (Int.toNat t5_1) (dft tPlace) : (den tPlace)).2.1 : Int) ∧ ((List.getD (o0_1.2.2.2.1 : (List (den tPlace))) (Int.toNat t5_1) (dft tPlace) : (den tPlace)).2.1 : Int) < (((List.length (o1_1.2.2.2.2.1 : (List Bool))) : Nat) : Int) then
              bif (!(List.getD (o1_1.2.2.2.2.1 : (List Bool)) (Int.toNat ((List.getD (o0_1.2.2.2.1 : (List (den tPlace))) (Int.toNat t5_1) (dft tPlace) : (den tPlace)).2.1 : Int)) false : Bool)) then
                some ((false, ()), [])
              else
                innkeepref06_Right.l1 n m0 t0_1 t2_1 t4_1 (IntKind.wrap .i64 (t5_1 + 1)) o0_1 o1_1
              else none
            else
              some ((false, ()), [])
          else
            some ((false, ()), [])
    else
      bif (decide (((List.getD (o0_1.2.2.2.1 : (List (den tPlace))) (Int.toNat t5_1) (dft tPlace) : (den tPlace)).1 : Int) = 1)) then
        Option.bind (innkeepref06_in n ((List.getD (o0_1.2.2.2.1 : (List (den tPlace))) (Int.toNat t5_1) (dft tPlace) : (den tPlace)).2.1 : Int) ((List.length (o1_1.2.1 : (List Int))) : Int)) fun r8 =>
        bif (r8.1.1 : Bool) then
          innkeepref06_Right.l1 n m0 t0_1 t2_1 t4_1 (IntKind.wrap .i64 (t5_1 + 1)) o0_1 o1_1
        else
          bif (decide (((List.getD (o0_1.2.2.2.1 : (List (den tPlace))) (Int.toNat t5_1) (dft tPlace) : (den tPlace)).1 : Int) = 2)) then
            Option.bind (innkeepref06_in n ((List.getD (o0_1.2.2.2.1 : (List (den tPlace))) (Int.toNat t5_1) (dft tPlace) : (den tPlace)).2.1 : Int) ((List.length (o1_1.2.2.2.1 : (List Int))) : Int)) fun r9 =>
            bif (r9.1.1 : Bool) then
              if (0 : Int) ≤ ((List.getD (o0_1.2.2.2.1 : (List (den tPlace))) (Int.toNat t5_1) (dft tPlace) : (den tPlace)).2.1 : Int) ∧ ((List.getD (o0_1.2.2.2.1 : (List (den tPlace))) (Int.toNat t5_1) (dft tPlace) : (den tPlace)).2.1 : Int) < (((List.length (o1_1.2.2.2.2.1 : (List Bool))) : Nat) : Int) then
              bif (!(List.getD (o1_1.2.2.2.2.1 : (List Bool)) (Int.toNat ((List.getD (o0_1.2.2.2.1 : (List (den tPlace))) (Int.toNat t5_1) (dft tPlace) : (den tPlace)).2.1 : Int)) false : Bool)) then
                some ((false, ()), [])
              else
                innkeepref06_Right.l1 n m0 t0_1 t2_1 t4_1 (IntKind.wrap .i64 (t5_1 + 1)) o0_1 o1_1
              else none
            else
              some ((false, ()), [])
          else
            some ((false, ()), [])
      else
        bif (decide (((List.getD (o0_1.2.2.2.1 : (List (den tPlace))) (Int.toNat t5_1) (dft tPlace) : (den tPlace)).1 : Int) = 2)) then
          Option.bind (innkeepref06_in n ((List.getD (o0_1.2.2.2.1 : (List (den tPlace))) (Int.toNat t5_1) (dft tPlace) : (den tPlace)).2.1 : Int) ((List.length (o1_1.2.2.2.1 : (List Int))) : Int)) fun r10 =>
          bif (r10.1.1 : Bool) then
            if (0 : Int) ≤ ((List.getD (o0_1.2.2.2.1 : (List (den tPlace))) (Int.toNat t5_1) (dft tPlace) : (den tPlace)).2.1 : Int) ∧ ((List.getD (o0_1.2.2.2.1 : (List (den tPlace))) (Int.toNat t5_1) (dft tPlace) : (den tPlace)).2.1 : Int) < (((List.length (o1_1.2.2.2.2.1 : (List Bool))) : Nat) : Int) then
            bif (!(List.getD (o1_1.2.2.2.2.1 : (List Bool)) (Int.toNat ((List.getD (o0_1.2.2.2.1 : (List (den tPlace))) (Int.toNat t5_1) (dft tPlace) : (den tPlace)).2.1 : Int)) false : Bool)) then
              some ((false, ()), [])
            else
              innkeepref06_Right.l1 n m0 t0_1 t2_1 t4_1 (IntKind.wrap .i64 (t5_1 + 1)) o0_1 o1_1
            else none
          else
            some ((false, ()), [])
        else
          some ((false, ()), [])
    else none
  else
    innkeepref06_Right.l2 n n t0_1 t2_1 t4_1 t5_1 0 o0_1 o1_1 := by kernel_rfl
theorem innkeepref06_Right.l2_eq (n m0 : Nat) (t0_2 : (den tWorld)) (t2_2 : Bool) (t4_2 : Int) (t5_2 : Int) (t8_2 : Int) (o0_2 : (den tWorld)) (o1_2 : (den tDesc)) : innkeepref06_Right.l2 n (m0 + 1) t0_2 t2_2 t4_2 t5_2 t8_2 o0_2 o1_2 =
  bif (decide (t8_2 < ((List.length (o0_2.2.2.2.1 : (List (den tPlace)))) : Int))) then
    if (0 : Int) ≤ t8_2 ∧ t8_2 < (((List.length (o0_2.2.2.2.1 : (List (den tPlace)))) : Nat) : Int) then
    Option.bind (innkeepref06_Depth n o0_2 (List.getD (o0_2.2.2.2.1 : (List (den tPlace))) (Int.toNat t8_2) (dft tPlace) : (den tPlace))) fun r11 =>
    bif (decide (4 < (r11.1.1 : Int))) then
      some ((false, ()), [])
    else
      if (0 : Int) ≤ t8_2 ∧ t8_2 < (((List.length (o0_2.2.2.2.1 : (List (den tPlace)))) : Nat) : Int) then
      Option.bind (innkeepref06_Many n o0_2 (List.getD (o0_2.2.2.2.1 : (List (den tPlace))) (Int.toNat t8_2) (dft tPlace) : (den tPlace))) fun r12 =>
      if (0 : Int) ≤ t8_2 ∧ t8_2 < (((List.length (o0_2.2.2.2.1 : (List (den tPlace)))) : Nat) : Int) then
      Option.bind (innkeepref06_Cap n o0_2 (List.getD (o0_2.2.2.2.1 : (List (den tPlace))) (Int.toNat t8_2) (dft tPlace) : (den tPlace))) fun r13 =>
      bif (decide ((r13.1.1 : Int) < (r12.1.1 : Int))) then
        some ((false, ()), [])
      else
        innkeepref06_Right.l2 n m0 t0_2 t2_2 t4_2 t5_2 (IntKind.wrap .i64 (t8_2 + 1)) o0_2 o1_2
      else none
      else none
    else none
  else
    some ((true, ()), []) := by kernel_rfl
theorem innkeepref06_Right.eq (n : Nat) (a0 : (den tWorld)) : innkeepref06_Right (n + 1) a0 =
  Option.bind (innkeepref06_May n a0.1) fun r1 =>
  bif (!(r1.1.1 : Bool)) then
    some ((false, ()), [])
  else
    bif (!(decide (((List.length (a0.2.1 : (List Int))) : Int) = ((List.length (a0.1.2.1 : (List Int))) : Int)))) then
      some ((false, ()), [])
    else
      bif (!(decide (((List.length (a0.2.2.1 : (List Int))) : Int) = ((List.length (a0.1.2.1 : (List Int))) : Int)))) then
        some ((false, ()), [])
      else
        bif (!(decide (((List.length (a0.2.2.2.1 : (List (den tPlace)))) : Int) = ((List.length (a0.1.2.2.2.1 : (List Int))) : Int)))) then
          some ((false, ()), [])
        else
          innkeepref06_Right.l0 n n a0 false 0 a0 a0.1 := by kernel_rfl
def innkeepref03_Ints.res : List Sh := [.d .bool]
@[reducible] def innkeepref03_Ints.R : Type := dShL [.d .bool] × Fresh
def innkeepref03_Ints (n : Nat) (a0 : (List Int)) (a1 : (List Int)) : Option innkeepref03_Ints.R := gc n 42 [.dat (.sl (.int .i64)) a0 [], .dat (.sl (.int .i64)) a1 []] [.d .bool]
def innkeepref03_Ints.l0 (n m0 : Nat) (t0 : (List Int)) (t1 : (List Int)) (t4 : Bool) (t5 : Int) : Option innkeepref03_Ints.R :=
  loopN (fun Kn K s h => run (gc n) n innkeepref03_Ints.c9 Kn K s h) m0 (kBlk 0 (kSeq (run (gc n) n) innkeepref03_Ints.c7 (retK innkeepref03_Ints.fn innkeepref03_Ints.res) (retK innkeepref03_Ints.fn innkeepref03_Ints.res)) (retK innkeepref03_Ints.fn innkeepref03_Ints.res))
    [(0, .dat (.sl (.int .i64)) t0 []), (1, .dat (.sl (.int .i64)) t1 []), (4, .dat .bool t4 []), (5, .dat (.int .i64) t5 [])]
    []
theorem innkeepref03_Ints.l0_eq (n m0 : Nat) (t0 : (List Int)) (t1 : (List Int)) (t4 : Bool) (t5 : Int) : innkeepref03_Ints.l0 n (m0 + 1) t0 t1 t4 t5 =
  bif (decide (t5 < ((List.length t0) : Int))) then
    if (0 : Int) ≤ t5 ∧ t5 < (((List.length t0) : Nat) : Int) then
    if (0 : Int) ≤ t5 ∧ t5 < (((List.length t1) : Nat) : Int) then
    bif (!(decide ((List.getD t0 (Int.toNat t5) (0 : Int) : Int) = (List.getD t1 (Int.toNat t5) (0 : Int) : Int)))) then
      some ((false, ()), [])
    else
      innkeepref03_Ints.l0 n m0 t0 t1 t4 (IntKind.wrap .i64 (t5 + 1))
    else none
    else none
  else
    some ((true, ()), []) := by kernel_rfl
theorem innkeepref03_Ints.eq (n : Nat) (a0 : (List Int)) (a1 : (List Int)) : innkeepref03_Ints (n + 1) a0 a1 =
  bif (!(decide (((List.length a0) : Int) = ((List.length a1) : Int)))) then
    some ((false, ()), [])
  else
    innkeepref03_Ints.l0 n n a0 a1 false 0 := by kernel_rfl
def innkeepref06_Places.res : List Sh := [.d .bool]
@[reducible] def innkeepref06_Places.R : Type := dShL [.d .bool] × Fresh
def innkeepref06_Places (n : Nat) (a0 : (List (den tPlace))) (a1 : (List (den tPlace))) : Option innkeepref06_Places.R := gc n 43 [.dat (.sl tPlace) a0 [], .dat (.sl tPlace) a1 []] [.d .bool]
def innkeepref06_Places.l0 (n m0 : Nat) (t0 : (List (den tPlace))) (t1 : (List (den tPlace))) (t4 : Bool) (t5 : Int) : Option innkeepref06_Places.R :=
  loopN (fun Kn K s h => run (gc n) n innkeepref06_Places.c9 Kn K s h) m0 (kBlk 0 (kSeq (run (gc n) n) innkeepref06_Places.c7 (retK innkeepref06_Places.fn innkeepref06_Places.res) (retK innkeepref06_Places.fn innkeepref06_Places.res)) (retK innkeepref06_Places.fn innkeepref06_Places.res))
    [(0, .dat (.sl tPlace) t0 []), (1, .dat (.sl tPlace) t1 []), (4, .dat .bool t4 []), (5, .dat (.int .i64) t5 [])]
    []
theorem innkeepref06_Places.l0_eq (n m0 : Nat) (t0 : (List (den tPlace))) (t1 : (List (den tPlace))) (t4 : Bool) (t5 : Int) : innkeepref06_Places.l0 n (m0 + 1) t0 t1 t4 t5 =
  bif (decide (t5 < ((List.length t0) : Int))) then
    if (0 : Int) ≤ t5 ∧ t5 < (((List.length t0) : Nat) : Int) then
    if (0 : Int) ≤ t5 ∧ t5 < (((List.length t1) : Nat) : Int) then
    bif (!(eqT tPlace (List.getD t0 (Int.toNat t5) (dft tPlace) : (den tPlace)) (List.getD t1 (Int.toNat t5) (dft tPlace) : (den tPlace)))) then
      some ((false, ()), [])
    else
      innkeepref06_Places.l0 n m0 t0 t1 t4 (IntKind.wrap .i64 (t5 + 1))
    else none
    else none
  else
    some ((true, ()), []) := by kernel_rfl
theorem innkeepref06_Places.eq (n : Nat) (a0 : (List (den tPlace))) (a1 : (List (den tPlace))) : innkeepref06_Places (n + 1) a0 a1 =
  bif (!(decide (((List.length a0) : Int) = ((List.length a1) : Int)))) then
    some ((false, ()), [])
  else
    innkeepref06_Places.l0 n n a0 a1 false 0 := by kernel_rfl
def innkeepref06_Same.res : List Sh := [.d .bool]
@[reducible] def innkeepref06_Same.R : Type := dShL [.d .bool] × Fresh
def innkeepref06_Same (n : Nat) (a0 : (den tWorld)) (a1 : (den tWorld)) : Option innkeepref06_Same.R := gc n 16 [.dat tWorld a0 [], .dat tWorld a1 []] [.d .bool]
def innkeepref06_Same.l0 (n m0 : Nat) (t0 : (den tWorld)) (t1 : (den tWorld)) (t4 : Bool) (t7 : Int) (o0 : (den tWorld)) (o1 : (den tWorld)) (o2 : (den tDesc)) (o3 : (den tDesc)) : Option innkeepref06_Same.R :=
  loopN (fun Kn K s h => run (gc n) n innkeepref06_Same.c13 Kn K s h) m0 (kBlk 0 (kSeq (run (gc n) n) innkeepref06_Same.c11 (retK innkeepref06_Same.fn innkeepref06_Same.res) (retK innkeepref06_Same.fn innkeepref06_Same.res)) (retK innkeepref06_Same.fn innkeepref06_Same.res))
    [(0, .dat tWorld t0 []), (1, .dat tWorld t1 []), (2, .ptr 0 []), (3, .ptr 1 []), (4, .dat .bool t4 []), (5, .ptr 2 []), (6, .ptr 3 []), (7, .dat (.int .i64) t7 [])]
    [.box tWorld o0 [], .box tWorld o1 [], .box tDesc o2 [], .box tDesc o3 []]
def innkeepref06_Same.l1 (n m0 : Nat) (t0_1 : (den tWorld)) (t1_1 : (den tWorld)) (t4_1 : Bool) (t7_1 : Int) (t8_1 : Int) (o0_1 : (den tWorld)) (o1_1 : (den tWorld)) (o2_1 : (den tDesc)) (o3_1 : (den tDesc)) : Option innkeepref06_Same.R :=
  loopN (fun Kn K s h => run (gc n) n innkeepref06_Same.c29 Kn K s h) m0 (kBlk 2 (kSeq (run (gc n) n) innkeepref06_Same.c27 (retK innkeepref06_Same.fn innkeepref06_Same.res) (retK innkeepref06_Same.fn innkeepref06_Same.res)) (retK innkeepref06_Same.fn innkeepref06_Same.res))
    [(0, .dat tWorld t0_1 []), (1, .dat tWorld t1_1 []), (2, .ptr 0 []), (3, .ptr 1 []), (4, .dat .bool t4_1 []), (5, .ptr 2 []), (6, .ptr 3 []), (7, .dat (.int .i64) t7_1 []), (8, .dat (.int .i64) t8_1 [])]
    [.box tWorld o0_1 [], .box tWorld o1_1 [], .box tDesc o2_1 [], .box tDesc o3_1 []]
theorem innkeepref06_Same.l0_eq (n m0 : Nat) (t0 : (den tWorld)) (t1 : (den tWorld)) (t4 : Bool) (t7 : Int) (o0 : (den tWorld)) (o1 : (den tWorld)) (o2 : (den tDesc)) (o3 : (den tDesc)) : innkeepref06_Same.l0 n (m0 + 1) t0 t1 t4 t7 o0 o1 o2 o3 =
  bif (decide (t7 < ((List.length (o2.1 : (List (List Int)))) : Int))) then
    if (0 : Int) ≤ t7 ∧ t7 < (((List.length (o2.1 : (List (List Int)))) : Nat) : Int) then
    if (0 : Int) ≤ t7 ∧ t7 < (((List.length (o3.1 : (List (List Int)))) : Nat) : Int) then
    bif (!(eqT (.arr 4 (.int .i64)) (List.getD (o2.1 : (List (List Int))) (Int.toNat t7) (dft (.arr 4 (.int .i64))) : (List Int)) (List.getD (o3.1 : (List (List Int))) (Int.toNat t7) (dft (.arr 4 (.int .i64))) : (List Int)))) then
      some ((false, ()), [])
    else
      innkeepref06_Same.l0 n m0 t0 t1 t4 (IntKind.wrap .i64 (t7 + 1)) o0 o1 o2 o3
    else none
    else none
  else
    innkeepref06_Same.l1 n n t0 t1 t4 t7 0 o0 o1 o2 o3 := by kernel_rfl
theorem innkeepref06_Same.l1_eq (n m0 : Nat) (t0_1 : (den tWorld)) (t1_1 : (den tWorld)) (t4_1 : Bool) (t7_1 : Int) (t8_1 : Int) (o0_1 : (den tWorld)) (o1_1 : (den tWorld)) (o2_1 : (den tDesc)) (o3_1 : (den tDesc)) : innkeepref06_Same.l1 n (m0 + 1) t0_1 t1_1 t4_1 t7_1 t8_1 o0_1 o1_1 o2_1 o3_1 =
  bif (decide (t8_1 < ((List.length (o2_1.2.2.2.2.1 : (List Bool))) : Int))) then
    if (0 : Int) ≤ t8_1 ∧ t8_1 < (((List.length (o2_1.2.2.2.2.1 : (List Bool))) : Nat) : Int) then
    if (0 : Int) ≤ t8_1 ∧ t8_1 < (((List.length (o3_1.2.2.2.2.1 : (List Bool))) : Nat) : Int) then
    bif (!(eqT .bool (List.getD (o2_1.2.2.2.2.1 : (List Bool)) (Int.toNat t8_1) false : Bool) (List.getD (o3_1.2.2.2.2.1 : (List Bool)) (Int.toNat t8_1) false : Bool))) then
      some ((false, ()), [])
    else
      innkeepref06_Same.l1 n m0 t0_1 t1_1 t4_1 t7_1 (IntKind.wrap .i64 (t8_1 + 1)) o0_1 o1_1 o2_1 o3_1
    else none
    else none
  else
    Option.bind (innkeepref03_Ints n (o2_1.2.1 : (List Int)) (o3_1.2.1 : (List Int))) fun r1 =>
    bif (r1.1.1 : Bool) then
      Option.bind (innkeepref03_Ints n (o2_1.2.2.1 : (List Int)) (o3_1.2.2.1 : (List Int))) fun r2 =>
      bif (r2.1.1 : Bool) then
        Option.bind (innkeepref03_Ints n (o2_1.2.2.2.1 : (List Int)) (o3_1.2.2.2.1 : (List Int))) fun r3 =>
        bif (r3.1.1 : Bool) then
          Option.bind (innkeepref03_Ints n (o0_1.2.1 : (List Int)) (o1_1.2.1 : (List Int))) fun r4 =>
          bif (r4.1.1 : Bool) then
            Option.bind (innkeepref03_Ints n (o0_1.2.2.1 : (List Int)) (o1_1.2.2.1 : (List Int))) fun r5 =>
            bif (r5.1.1 : Bool) then
              Option.bind (innkeepref06_Places n (o0_1.2.2.2.1 : (List (den tPlace))) (o1_1.2.2.2.1 : (List (den tPlace)))) fun r6 =>
              some (((r6.1.1 : Bool), ()), [])
            else
              some ((false, ()), [])
          else
            some ((false, ()), [])
        else
          some ((false, ()), [])
      else
        some ((false, ()), [])
    else
      some ((false, ()), []) := by kernel_rfl
theorem innkeepref06_Same.eq (n : Nat) (a0 : (den tWorld)) (a1 : (den tWorld)) : innkeepref06_Same (n + 1) a0 a1 =
  bif (!(decide ((a0.1.2.2.2.2.2.1 : Int) = (a1.1.2.2.2.2.2.1 : Int)))) then
    some ((false, ()), [])
  else
    bif (!(decide ((a0.1.2.2.2.2.2.2.1 : Int) = (a1.1.2.2.2.2.2.2.1 : Int)))) then
      some ((false, ()), [])
    else
      bif (!(decide ((a0.1.2.2.2.2.2.2.2.1 : Int) = (a1.1.2.2.2.2.2.2.2.1 : Int)))) then
        some ((false, ()), [])
      else
        bif (!(decide (((List.length (a0.1.1 : (List (List Int)))) : Int) = ((List.length (a1.1.1 : (List (List Int)))) : Int)))) then
          some ((false, ()), [])
        else
          bif (!(decide (((List.length (a0.1.2.2.2.2.1 : (List Bool))) : Int) = ((List.length (a1.1.2.2.2.2.1 : (List Bool))) : Int)))) then
            some ((false, ()), [])
          else
            innkeepref06_Same.l0 n n a0 a1 false 0 a0 a1 a0.1 a1.1 := by kernel_rfl
def innkeepref06_New.res : List Sh := [.d tWorld]
@[reducible] def innkeepref06_New.R : Type := dShL [.d tWorld] × Fresh
def innkeepref06_New (n : Nat) (a0 : (den tDesc)) : Option innkeepref06_New.R := gc n 18 [.dat tDesc a0 []] [.d tWorld]
def innkeepref06_New.l0 (n m0 : Nat) (t0 : (den tDesc)) (t4 : Int) (o0 : (den tDesc)) (o1 : (den tWorld)) (o2 : (den tWorld)) (o3 : (List Int)) (o4 : (List Int)) (o9 : (List (den tPlace))) : Option innkeepref06_New.R :=
  loopN (fun Kn K s h => run (gc n) n innkeepref06_New.c9 Kn K s h) m0 (kBlk 0 (kSeq (run (gc n) n) innkeepref06_New.c7 (retK innkeepref06_New.fn innkeepref06_New.res) (retK innkeepref06_New.fn innkeepref06_New.res)) (retK innkeepref06_New.fn innkeepref06_New.res))
    [(0, .dat tDesc t0 []), (1, .ptr 0 []), (2, .ptr 1 []), (3, .ptr 2 []), (4, .dat (.int .i64) t4 [])]
    [.box tDesc o0 [], .box tWorld o1 [], .box tWorld o2 [([1], some 3), ([2], some 4), ([3], some 9)], .arr (.int .i64) o3, .arr (.int .i64) o4, .none, .none, .dead, .dead, .arr tPlace o9]
theorem innkeepref06_New.l0_eq (n m0 : Nat) (t0 : (den tDesc)) (t4 : Int) (o0 : (den tDesc)) (o1 : (den tWorld)) (o2 : (den tWorld)) (o3 : (List Int)) (o4 : (List Int)) (o9 : (List (den tPlace))) : innkeepref06_New.l0 n (m0 + 1) t0 t4 o0 o1 o2 o3 o4 o9 =
  bif (decide (t4 < ((List.length (o0.2.2.2.1 : (List Int))) : Int))) then
    if (0 : Int) ≤ t4 ∧ t4 < (((List.length (o0.2.2.2.1 : (List Int))) : Nat) : Int) then
    if (List.length o9) + 1 ≤ 1048576 then
    innkeepref06_New.l0 n m0 t0 (IntKind.wrap .i64 (t4 + 1)) o0 o1 (o2.1, (o2.2.1 : (List Int)), (o2.2.2.1 : (List Int)), ([] : List (den tPlace)), ()) o3 o4 (o9 ++ ([(0, (List.getD (o0.2.2.2.1 : (List Int)) (Int.toNat t4) (0 : Int) : Int), ())] : List (den tPlace)))
    else none
    else none
  else
    some (((o2.1, o3, o4, o9, ()), ()), [(0, [1]), (0, [2]), (0, [3])]) := by kernel_rfl
theorem innkeepref06_New.eq (n : Nat) (a0 : (den tDesc)) : innkeepref06_New (n + 1) a0 =
  if 0 + (List.length (a0.2.1 : (List Int))) ≤ 1048576 then
  if 0 + (List.length (a0.2.2.1 : (List Int))) ≤ 1048576 then
  innkeepref06_New.l0 n n a0 0 a0 ((([] : List (List Int)), ([] : List Int), ([] : List Int), ([] : List Int), ([] : List Bool), 0, 0, 0, ()), ([] : List Int), ([] : List Int), ([] : List (den tPlace)), ()) (a0, ([] : List Int), ([] : List Int), ([] : List (den tPlace)), ()) (([] : List Int) ++ (a0.2.1 : (List Int))) (([] : List Int) ++ (a0.2.2.1 : (List Int))) ([] : List (den tPlace))
  else none
  else none := by kernel_rfl
def innkeeplaw06_DescMakes.res : List Sh := [.d .bool]
@[reducible] def innkeeplaw06_DescMakes.R : Type := dShL [.d .bool] × Fresh
def innkeeplaw06_DescMakes (n : Nat) (a0 : (den tDesc)) (a1 : (den tWorld)) (a2 : (den tWorld)) : Option innkeeplaw06_DescMakes.R := gc n 3 [.dat tDesc a0 [], .dat tWorld a1 [], .dat tWorld a2 []] [.d .bool]
theorem innkeeplaw06_DescMakes.eq (n : Nat) (a0 : (den tDesc)) (a1 : (den tWorld)) (a2 : (den tWorld)) : innkeeplaw06_DescMakes (n + 1) a0 a1 a2 =
  Option.bind (innkeeplaw06_awake n) fun r1 =>
  bif (!(r1.1.1 : Bool)) then
    Option.bind (innkeeplaw06_awake n) fun r2 =>
    some (((r2.1.1 : Bool), ()), [])
  else
    Option.bind (innkeepref06_Few n (a0, ([] : List Int), ([] : List Int), ([] : List (den tPlace)), ())) fun r3 =>
    bif (!(r3.1.1 : Bool)) then
      Option.bind (innkeeplaw06_awake n) fun r4 =>
      some (((r4.1.1 : Bool), ()), [])
    else
      Option.bind (innkeepref06_Few n a1) fun r5 =>
      bif (!(r5.1.1 : Bool)) then
        Option.bind (innkeeplaw06_awake n) fun r6 =>
        some (((r6.1.1 : Bool), ()), [])
      else
        Option.bind (innkeepref06_Few n a2) fun r7 =>
        bif (!(r7.1.1 : Bool)) then
          Option.bind (innkeeplaw06_awake n) fun r8 =>
          some (((r8.1.1 : Bool), ()), [])
        else
          Option.bind (desc_New n a0) fun r9 =>
          Option.bind (desc_May n a0) fun r10 =>
          Option.bind (innkeepref06_May n a0) fun r11 =>
          bif (!(eqT .bool (r10.1.1 : Bool) (r11.1.1 : Bool))) then
            some ((false, ()), [])
          else
            Option.bind (desc_Right n a1) fun r12 =>
            Option.bind (innkeepref06_Right n a1) fun r13 =>
            bif (!(eqT .bool (r12.1.1 : Bool) (r13.1.1 : Bool))) then
              some ((false, ()), [])
            else
              Option.bind (desc_Same n a1 a2) fun r14 =>
              Option.bind (innkeepref06_Same n a1 a2) fun r15 =>
              bif (!(eqT .bool (r14.1.1 : Bool) (r15.1.1 : Bool))) then
                some ((false, ()), [])
              else
                Option.bind (desc_Copy n a1) fun r16 =>
                Option.bind (desc_Same n r16.1.1 a1) fun r17 =>
                bif (!(r17.1.1 : Bool)) then
                  some ((false, ()), [])
                else
                  Option.bind (innkeepref06_May n a0) fun r18 =>
                  bif (!(r18.1.1 : Bool)) then
                    bif (decide ((r9.1.2.1 : Int) = 1)) then
                      Option.bind (innkeepref06_Same n r9.1.1 ((([] : List (List Int)), ([] : List Int), ([] : List Int), ([] : List Int), ([] : List Bool), 0, 0, 0, ()), ([] : List Int), ([] : List Int), ([] : List (den tPlace)), ())) fun r19 =>
                      some (((r19.1.1 : Bool), ()), [])
                    else
                      some ((false, ()), [])
                  else
                    bif (decide ((r9.1.2.1 : Int) = 0)) then
                      Option.bind (innkeepref06_New n a0) fun r20 =>
                      Option.bind (innkeepref06_Same n r9.1.1 r20.1.1) fun r21 =>
                      some (((r21.1.1 : Bool), ()), [])
                    else
                      some ((false, ()), []) := by kernel_rfl
def innkeeplaw06_DescRight.res : List Sh := [.d .bool]
@[reducible] def innkeeplaw06_DescRight.R : Type := dShL [.d .bool] × Fresh
def innkeeplaw06_DescRight (n : Nat) (a0 : (den tWorld)) (a1 : Int) : Option innkeeplaw06_DescRight.R := gc n 4 [.dat tWorld a0 [], .dat (.int .u8) a1 []] [.d .bool]
def innkeeplaw06_DescRight.l0 (n m0 : Nat) (t0 : (den tWorld)) (t1 : Int) (t4 : Bool) (t6 : Int) (t7 : Int) (o0 : (den tWorld)) (o1 : (den tWorld)) : Option innkeeplaw06_DescRight.R :=
  loopN (fun Kn K s h => run (gc n) n innkeeplaw06_DescRight.c18 Kn K s h) m0 (kBlk 0 (kSeq (run (gc n) n) innkeeplaw06_DescRight.c16 (retK innkeeplaw06_DescRight.fn innkeeplaw06_DescRight.res) (retK innkeeplaw06_DescRight.fn innkeeplaw06_DescRight.res)) (retK innkeeplaw06_DescRight.fn innkeeplaw06_DescRight.res))
    [(0, .dat tWorld t0 []), (1, .dat (.int .u8) t1 []), (2, .ptr 0 []), (4, .dat .bool t4 []), (5, .ptr 1 []), (6, .dat (.int .i64) t6 []), (7, .dat (.int .i64) t7 [])]
    [.box tWorld o0 [], .box tWorld o1 []]
theorem innkeeplaw06_DescRight.l0_eq (n m0 : Nat) (t0 : (den tWorld)) (t1 : Int) (t4 : Bool) (t6 : Int) (t7 : Int) (o0 : (den tWorld)) (o1 : (den tWorld)) : innkeeplaw06_DescRight.l0 n (m0 + 1) t0 t1 t4 t6 t7 o0 o1 =
  bif (decide (t7 < ((List.length (o1.2.2.2.1 : (List (den tPlace)))) : Int))) then
    if (0 : Int) ≤ t7 ∧ t7 < (((List.length (o1.2.2.2.1 : (List (den tPlace)))) : Nat) : Int) then
    bif (!(decide (((List.getD (o1.2.2.2.1 : (List (den tPlace))) (Int.toNat t7) (dft tPlace) : (den tPlace)).1 : Int) = 0))) then
      some ((false, ()), [])
    else
      innkeeplaw06_DescRight.l0 n m0 t0 t1 t4 t6 (IntKind.wrap .i64 (t7 + 1)) o0 o1
    else none
  else
    Option.bind (desc_Copy n o0) fun r9 =>
    bif (keepAll r9.2 [((0, [1]), 7)]) then
      if ((List.length (r9.1.1.2.1 : (List Int))) : Int) = 0 then none else
      if (0 : Int) ≤ (Int.tmod (IntKind.wrap .i64 (t1)) ((List.length (r9.1.1.2.1 : (List Int))) : Int)) ∧ (Int.tmod (IntKind.wrap .i64 (t1)) ((List.length (r9.1.1.2.1 : (List Int))) : Int)) < (((List.length (r9.1.1.2.1 : (List Int))) : Nat) : Int) then
      Option.bind (desc_Copy n o0) fun r10 =>
      bif (keepAll r10.2 [((0, [2]), 8)]) then
        if ((List.length (r10.1.1.2.2.1 : (List Int))) : Int) = 0 then none else
        if (0 : Int) ≤ (Int.tmod (IntKind.wrap .i64 (t1)) ((List.length (r10.1.1.2.2.1 : (List Int))) : Int)) ∧ (Int.tmod (IntKind.wrap .i64 (t1)) ((List.length (r10.1.1.2.2.1 : (List Int))) : Int)) < (((List.length (r10.1.1.2.2.1 : (List Int))) : Nat) : Int) then
        Option.bind (desc_Right n (r9.1.1.1, (List.set (r9.1.1.2.1 : (List Int)) (Int.toNat (Int.tmod (IntKind.wrap .i64 (t1)) ((List.length (r9.1.1.2.1 : (List Int))) : Int))) ((List.length (o0.1.1 : (List (List Int)))) : Int) : (List Int)), (r9.1.1.2.2.1 : (List Int)), (r9.1.1.2.2.2.1 : (List (den tPlace))), ())) fun r11 =>
        bif (r11.1.1 : Bool) then
          some ((false, ()), [])
        else
          Option.bind (desc_Right n (r10.1.1.1, (r10.1.1.2.1 : (List Int)), (List.set (r10.1.1.2.2.1 : (List Int)) (Int.toNat (Int.tmod (IntKind.wrap .i64 (t1)) ((List.length (r10.1.1.2.2.1 : (List Int))) : Int))) (-1) : (List Int)), (r10.1.1.2.2.2.1 : (List (den tPlace))), ())) fun r12 =>
          bif (r12.1.1 : Bool) then
            some ((false, ()), [])
          else
            bif (decide (((List.length (o0.2.2.2.1 : (List (den tPlace)))) : Int) = 0)) then
              some ((true, ()), [])
            else
              if ((List.length (o0.2.2.2.1 : (List (den tPlace)))) : Int) = 0 then none else
              Option.bind (desc_Copy n o0) fun r13 =>
              bif (keepAll r13.2 [((0, [3]), 9)]) then
                if (0 : Int) ≤ (Int.tmod (IntKind.wrap .i64 (t1)) ((List.length (o0.2.2.2.1 : (List (den tPlace)))) : Int)) ∧ (Int.tmod (IntKind.wrap .i64 (t1)) ((List.length (o0.2.2.2.1 : (List (den tPlace)))) : Int)) < (((List.length (r13.1.1.2.2.2.1 : (List (den tPlace)))) : Nat) : Int) then
                Option.bind (desc_Copy n o0) fun r14 =>
                if (0 : Int) ≤ (Int.tmod (IntKind.wrap .i64 (t1)) ((List.length (o0.2.2.2.1 : (List (den tPlace)))) : Int)) ∧ (Int.tmod (IntKind.wrap .i64 (t1)) ((List.length (o0.2.2.2.1 : (List (den tPlace)))) : Int)) < (((List.length (r14.1.1.2.2.2.1 : (List (den tPlace)))) : Nat) : Int) then
                bif (decide (((List.getD (r14.1.1.2.2.2.1 : (List (den tPlace))) (Int.toNat (Int.tmod (IntKind.wrap .i64 (t1)) ((List.length (o0.2.2.2.1 : (List (den tPlace)))) : Int))) (dft tPlace) : (den tPlace)).1 : Int) = 1)) then
                  Option.bind (innkeepref06_Many n o0 (List.getD (r14.1.1.2.2.2.1 : (List (den tPlace))) (Int.toNat (Int.tmod (IntKind.wrap .i64 (t1)) ((List.length (o0.2.2.2.1 : (List (den tPlace)))) : Int))) (dft tPlace) : (den tPlace))) fun r15 =>
                  bif (decide (((List.getD (r14.1.1.2.2.2.1 : (List (den tPlace))) (Int.toNat (Int.tmod (IntKind.wrap .i64 (t1)) ((List.length (o0.2.2.2.1 : (List (den tPlace)))) : Int))) (dft tPlace) : (den tPlace)).1 : Int) = 2)) then
                    Option.bind (innkeepref06_Many n o0 (List.getD (r14.1.1.2.2.2.1 : (List (den tPlace))) (Int.toNat (Int.tmod (IntKind.wrap .i64 (t1)) ((List.length (o0.2.2.2.1 : (List (den tPlace)))) : Int))) (dft tPlace) : (den tPlace))) fun r16 =>
                    bif (decide (((List.getD (r14.1.1.2.2.2.1 : (List (den tPlace))) (Int.toNat (Int.tmod (IntKind.wrap .i64 (t1)) ((List.length (o0.2.2.2.1 : (List (den tPlace)))) : Int))) (dft tPlace) : (den tPlace)).1 : Int) = 0)) then
                      Option.bind (innkeepref06_Many n o0 (List.getD (r14.1.1.2.2.2.1 : (List (den tPlace))) (Int.toNat (Int.tmod (IntKind.wrap .i64 (t1)) ((List.length (o0.2.2.2.1 : (List (den tPlace)))) : Int))) (dft tPlace) : (den tPlace))) fun r17 =>
                      Option.bind (desc_Right n (r13.1.1.1, (r13.1.1.2.1 : (List Int)), (r13.1.1.2.2.1 : (List Int)), (List.set (r13.1.1.2.2.2.1 : (List (den tPlace))) (Int.toNat (Int.tmod (IntKind.wrap .i64 (t1)) ((List.length (o0.2.2.2.1 : (List (den tPlace)))) : Int))) (2, (Int.tmod (IntKind.wrap .i64 (t1)) ((List.length (o0.2.2.2.1 : (List (den tPlace)))) : Int)), ()) : (List (den tPlace))), ())) fun r18 =>
                      bif (!(r18.1.1 : Bool)) then
                        Option.bind (desc_Right n (((r14.1.1.1.1 : (List (List Int))), (r14.1.1.1.2.1 : (List Int)), (r14.1.1.1.2.2.1 : (List Int)), (r14.1.1.1.2.2.2.1 : (List Int)), (r14.1.1.1.2.2.2.2.1 : (List Bool)), (IntKind.wrap .i64 ((r17.1.1 : Int) - 1)), (IntKind.wrap .i64 ((r15.1.1 : Int) - 1)), (IntKind.wrap .i64 ((r16.1.1 : Int) - 1)), ()), (r14.1.1.2.1 : (List Int)), (r14.1.1.2.2.1 : (List Int)), (r14.1.1.2.2.2.1 : (List (den tPlace))), ())) fun r19 =>
                        some (((!(r19.1.1 : Bool)), ()), [])
                      else
                        some ((false, ()), [])
                    else
                      Option.bind (desc_Right n (r13.1.1.1, (r13.1.1.2.1 : (List Int)), (r13.1.1.2.2.1 : (List Int)), (List.set (r13.1.1.2.2.2.1 : (List (den tPlace))) (Int.toNat (Int.tmod (IntKind.wrap .i64 (t1)) ((List.length (o0.2.2.2.1 : (List (den tPlace)))) : Int))) (2, (Int.tmod (IntKind.wrap .i64 (t1)) ((List.length (o0.2.2.2.1 : (List (den tPlace)))) : Int)), ()) : (List (den tPlace))), ())) fun r20 =>
                      bif (!(r20.1.1 : Bool)) then
                        Option.bind (desc_Right n (((r14.1.1.1.1 : (List (List Int))), (r14.1.1.1.2.1 : (List Int)), (r14.1.1.1.2.2.1 : (List Int)), (r14.1.1.1.2.2.2.1 : (List Int)), (r14.1.1.1.2.2.2.2.1 : (List Bool)), (r14.1.1.1.2.2.2.2.2.1 : Int), (IntKind.wrap .i64 ((r15.1.1 : Int) - 1)), (IntKind.wrap .i64 ((r16.1.1 : Int) - 1)), ()), (r14.1.1.2.1 : (List Int)), (r14.1.1.2.2.1 : (List Int)), (r14.1.1.2.2.2.1 : (List (den tPlace))), ())) fun r21 =>
                        some (((!(r21.1.1 : Bool)), ()), [])
                      else
                        some ((false, ()), [])
                  else
                    bif (decide (((List.getD (r14.1.1.2.2.2.1 : (List (den tPlace))) (Int.toNat (Int.tmod (IntKind.wrap .i64 (t1)) ((List.length (o0.2.2.2.1 : (List (den tPlace)))) : Int))) (dft tPlace) : (den tPlace)).1 : Int) = 0)) then
                      Option.bind (innkeepref06_Many n o0 (List.getD (r14.1.1.2.2.2.1 : (List (den tPlace))) (Int.toNat (Int.tmod (IntKind.wrap .i64 (t1)) ((List.length (o0.2.2.2.1 : (List (den tPlace)))) : Int))) (dft tPlace) : (den tPlace))) fun r22 =>
                      Option.bind (desc_Right n (r13.1.1.1, (r13.1.1.2.1 : (List Int)), (r13.1.1.2.2.1 : (List Int)), (List.set (r13.1.1.2.2.2.1 : (List (den tPlace))) (Int.toNat (Int.tmod (IntKind.wrap .i64 (t1)) ((List.length (o0.2.2.2.1 : (List (den tPlace)))) : Int))) (2, (Int.tmod (IntKind.wrap .i64 (t1)) ((List.length (o0.2.2.2.1 : (List (den tPlace)))) : Int)), ()) : (List (den tPlace))), ())) fun r23 =>
                      bif (!(r23.1.1 : Bool)) then
                        Option.bind (desc_Right n (((r14.1.1.1.1 : (List (List Int))), (r14.1.1.1.2.1 : (List Int)), (r14.1.1.1.2.2.1 : (List Int)), (r14.1.1.1.2.2.2.1 : (List Int)), (r14.1.1.1.2.2.2.2.1 : (List Bool)), (IntKind.wrap .i64 ((r22.1.1 : Int) - 1)), (IntKind.wrap .i64 ((r15.1.1 : Int) - 1)), (r14.1.1.1.2.2.2.2.2.2.2.1 : Int), ()), (r14.1.1.2.1 : (List Int)), (r14.1.1.2.2.1 : (List Int)), (r14.1.1.2.2.2.1 : (List (den tPlace))), ())) fun r24 =>
                        some (((!(r24.1.1 : Bool)), ()), [])
                      else
                        some ((false, ()), [])
                    else
                      Option.bind (desc_Right n (r13.1.1.1, (r13.1.1.2.1 : (List Int)), (r13.1.1.2.2.1 : (List Int)), (List.set (r13.1.1.2.2.2.1 : (List (den tPlace))) (Int.toNat (Int.tmod (IntKind.wrap .i64 (t1)) ((List.length (o0.2.2.2.1 : (List (den tPlace)))) : Int))) (2, (Int.tmod (IntKind.wrap .i64 (t1)) ((List.length (o0.2.2.2.1 : (List (den tPlace)))) : Int)), ()) : (List (den tPlace))), ())) fun r25 =>
                      bif (!(r25.1.1 : Bool)) then
                        Option.bind (desc_Right n (((r14.1.1.1.1 : (List (List Int))), (r14.1.1.1.2.1 : (List Int)), (r14.1.1.1.2.2.1 : (List Int)), (r14.1.1.1.2.2.2.1 : (List Int)), (r14.1.1.1.2.2.2.2.1 : (List Bool)), (r14.1.1.1.2.2.2.2.2.1 : Int), (IntKind.wrap .i64 ((r15.1.1 : Int) - 1)), (r14.1.1.1.2.2.2.2.2.2.2.1 : Int), ()), (r14.1.1.2.1 : (List Int)), (r14.1.1.2.2.1 : (List Int)), (r14.1.1.2.2.2.1 : (List (den tPlace))), ())) fun r26 =>
                        some (((!(r26.1.1 : Bool)), ()), [])
                      else
                        some ((false, ()), [])
                else
                  bif (decide (((List.getD (r14.1.1.2.2.2.1 : (List (den tPlace))) (Int.toNat (Int.tmod (IntKind.wrap .i64 (t1)) ((List.length (o0.2.2.2.1 : (List (den tPlace)))) : Int))) (dft tPlace) : (den tPlace)).1 : Int) = 2)) then
                    Option.bind (innkeepref06_Many n o0 (List.getD (r14.1.1.2.2.2.1 : (List (den tPlace))) (Int.toNat (Int.tmod (IntKind.wrap .i64 (t1)) ((List.length (o0.2.2.2.1 : (List (den tPlace)))) : Int))) (dft tPlace) : (den tPlace))) fun r27 =>
                    bif (decide (((List.getD (r14.1.1.2.2.2.1 : (List (den tPlace))) (Int.toNat (Int.tmod (IntKind.wrap .i64 (t1)) ((List.length (o0.2.2.2.1 : (List (den tPlace)))) : Int))) (dft tPlace) : (den tPlace)).1 : Int) = 0)) then
                      Option.bind (innkeepref06_Many n o0 (List.getD (r14.1.1.2.2.2.1 : (List (den tPlace))) (Int.toNat (Int.tmod (IntKind.wrap .i64 (t1)) ((List.length (o0.2.2.2.1 : (List (den tPlace)))) : Int))) (dft tPlace) : (den tPlace))) fun r28 =>
                      Option.bind (desc_Right n (r13.1.1.1, (r13.1.1.2.1 : (List Int)), (r13.1.1.2.2.1 : (List Int)), (List.set (r13.1.1.2.2.2.1 : (List (den tPlace))) (Int.toNat (Int.tmod (IntKind.wrap .i64 (t1)) ((List.length (o0.2.2.2.1 : (List (den tPlace)))) : Int))) (2, (Int.tmod (IntKind.wrap .i64 (t1)) ((List.length (o0.2.2.2.1 : (List (den tPlace)))) : Int)), ()) : (List (den tPlace))), ())) fun r29 =>
                      bif (!(r29.1.1 : Bool)) then
                        Option.bind (desc_Right n (((r14.1.1.1.1 : (List (List Int))), (r14.1.1.1.2.1 : (List Int)), (r14.1.1.1.2.2.1 : (List Int)), (r14.1.1.1.2.2.2.1 : (List Int)), (r14.1.1.1.2.2.2.2.1 : (List Bool)), (IntKind.wrap .i64 ((r28.1.1 : Int) - 1)), (r14.1.1.1.2.2.2.2.2.2.1 : Int), (IntKind.wrap .i64 ((r27.1.1 : Int) - 1)), ()), (r14.1.1.2.1 : (List Int)), (r14.1.1.2.2.1 : (List Int)), (r14.1.1.2.2.2.1 : (List (den tPlace))), ())) fun r30 =>
                        some (((!(r30.1.1 : Bool)), ()), [])
                      else
                        some ((false, ()), [])
                    else
                      Option.bind (desc_Right n (r13.1.1.1, (r13.1.1.2.1 : (List Int)), (r13.1.1.2.2.1 : (List Int)), (List.set (r13.1.1.2.2.2.1 : (List (den tPlace))) (Int.toNat (Int.tmod (IntKind.wrap .i64 (t1)) ((List.length (o0.2.2.2.1 : (List (den tPlace)))) : Int))) (2, (Int.tmod (IntKind.wrap .i64 (t1)) ((List.length (o0.2.2.2.1 : (List (den tPlace)))) : Int)), ()) : (List (den tPlace))), ())) fun r31 =>
                      bif (!(r31.1.1 : Bool)) then
                        Option.bind (desc_Right n (((r14.1.1.1.1 : (List (List Int))), (r14.1.1.1.2.1 : (List Int)), (r14.1.1.1.2.2.1 : (List Int)), (r14.1.1.1.2.2.2.1 : (List Int)), (r14.1.1.1.2.2.2.2.1 : (List Bool)), (r14.1.1.1.2.2.2.2.2.1 : Int), (r14.1.1.1.2.2.2.2.2.2.1 : Int), (IntKind.wrap .i64 ((r27.1.1 : Int) - 1)), ()), (r14.1.1.2.1 : (List Int)), (r14.1.1.2.2.1 : (List Int)), (r14.1.1.2.2.2.1 : (List (den tPlace))), ())) fun r32 =>
                        some (((!(r32.1.1 : Bool)), ()), [])
                      else
                        some ((false, ()), [])
                  else
                    bif (decide (((List.getD (r14.1.1.2.2.2.1 : (List (den tPlace))) (Int.toNat (Int.tmod (IntKind.wrap .i64 (t1)) ((List.length (o0.2.2.2.1 : (List (den tPlace)))) : Int))) (dft tPlace) : (den tPlace)).1 : Int) = 0)) then
                      Option.bind (innkeepref06_Many n o0 (List.getD (r14.1.1.2.2.2.1 : (List (den tPlace))) (Int.toNat (Int.tmod (IntKind.wrap .i64 (t1)) ((List.length (o0.2.2.2.1 : (List (den tPlace)))) : Int))) (dft tPlace) : (den tPlace))) fun r33 =>
                      Option.bind (desc_Right n (r13.1.1.1, (r13.1.1.2.1 : (List Int)), (r13.1.1.2.2.1 : (List Int)), (List.set (r13.1.1.2.2.2.1 : (List (den tPlace))) (Int.toNat (Int.tmod (IntKind.wrap .i64 (t1)) ((List.length (o0.2.2.2.1 : (List (den tPlace)))) : Int))) (2, (Int.tmod (IntKind.wrap .i64 (t1)) ((List.length (o0.2.2.2.1 : (List (den tPlace)))) : Int)), ()) : (List (den tPlace))), ())) fun r34 =>
                      bif (!(r34.1.1 : Bool)) then
                        Option.bind (desc_Right n (((r14.1.1.1.1 : (List (List Int))), (r14.1.1.1.2.1 : (List Int)), (r14.1.1.1.2.2.1 : (List Int)), (r14.1.1.1.2.2.2.1 : (List Int)), (r14.1.1.1.2.2.2.2.1 : (List Bool)), (IntKind.wrap .i64 ((r33.1.1 : Int) - 1)), (r14.1.1.1.2.2.2.2.2.2.1 : Int), (r14.1.1.1.2.2.2.2.2.2.2.1 : Int), ()), (r14.1.1.2.1 : (List Int)), (r14.1.1.2.2.1 : (List Int)), (r14.1.1.2.2.2.1 : (List (den tPlace))), ())) fun r35 =>
                        some (((!(r35.1.1 : Bool)), ()), [])
                      else
                        some ((false, ()), [])
                    else
                      Option.bind (desc_Right n (r13.1.1.1, (r13.1.1.2.1 : (List Int)), (r13.1.1.2.2.1 : (List Int)), (List.set (r13.1.1.2.2.2.1 : (List (den tPlace))) (Int.toNat (Int.tmod (IntKind.wrap .i64 (t1)) ((List.length (o0.2.2.2.1 : (List (den tPlace)))) : Int))) (2, (Int.tmod (IntKind.wrap .i64 (t1)) ((List.length (o0.2.2.2.1 : (List (den tPlace)))) : Int)), ()) : (List (den tPlace))), ())) fun r36 =>
                      bif (!(r36.1.1 : Bool)) then
                        Option.bind (desc_Right n r14.1.1) fun r37 =>
                        some (((!(r37.1.1 : Bool)), ()), [])
                      else
                        some ((false, ()), [])
                else none
                else none
              else
                none
        else none
      else
        none
      else none
    else
      none := by kernel_rfl
theorem innkeeplaw06_DescRight.eq (n : Nat) (a0 : (den tWorld)) (a1 : Int) : innkeeplaw06_DescRight (n + 1) a0 a1 =
  Option.bind (innkeeplaw06_awake n) fun r1 =>
  bif (!(r1.1.1 : Bool)) then
    Option.bind (innkeeplaw06_awake n) fun r2 =>
    some (((r2.1.1 : Bool), ()), [])
  else
    Option.bind (innkeepref06_Few n a0) fun r3 =>
    bif (!(r3.1.1 : Bool)) then
      Option.bind (innkeeplaw06_awake n) fun r4 =>
      some (((r4.1.1 : Bool), ()), [])
    else
      Option.bind (innkeepref06_Right n a0) fun r5 =>
      bif (!(r5.1.1 : Bool)) then
        Option.bind (innkeeplaw06_awake n) fun r6 =>
        some (((r6.1.1 : Bool), ()), [])
      else
        Option.bind (desc_New n a0.1) fun r7 =>
        bif (!(decide ((r7.1.2.1 : Int) = 0))) then
          some ((false, ()), [])
        else
          Option.bind (desc_Right n r7.1.1) fun r8 =>
          bif (!(r8.1.1 : Bool)) then
            some ((false, ()), [])
          else
            bif (!(decide (((List.length (r7.1.1.2.2.2.1 : (List (den tPlace)))) : Int) = ((List.length (a0.2.2.2.1 : (List (den tPlace)))) : Int)))) then
              some ((false, ()), [])
            else
              innkeeplaw06_DescRight.l0 n n a0 a1 false (r7.1.2.1 : Int) 0 a0 r7.1.1 := by kernel_rfl
def innkeepref06_Copied.res : List Sh := [.d tWorld]
@[reducible] def innkeepref06_Copied.R : Type := dShL [.d tWorld] × Fresh
def innkeepref06_Copied (n : Nat) (a0 : (den tWorld)) : Option innkeepref06_Copied.R := gc n 20 [.dat tWorld a0 []] [.d tWorld]
theorem innkeepref06_Copied.eq (n : Nat) (a0 : (den tWorld)) : innkeepref06_Copied (n + 1) a0 =
  if 0 + (List.length (a0.2.1 : (List Int))) ≤ 1048576 then
  if 0 + (List.length (a0.2.2.1 : (List Int))) ≤ 1048576 then
  if 0 + (List.length (a0.2.2.2.1 : (List (den tPlace)))) ≤ 1048576 then
  some (((a0.1, (([] : List Int) ++ (a0.2.1 : (List Int))), (([] : List Int) ++ (a0.2.2.1 : (List Int))), (([] : List (den tPlace)) ++ (a0.2.2.2.1 : (List (den tPlace)))), ()), ()), [(0, [1]), (0, [2]), (0, [3])])
  else none
  else none
  else none := by kernel_rfl
def innkeeplaw06_DescKeeps.res : List Sh := [.d .bool]
@[reducible] def innkeeplaw06_DescKeeps.R : Type := dShL [.d .bool] × Fresh
def innkeeplaw06_DescKeeps (n : Nat) (a0 : (den tWorld)) : Option innkeeplaw06_DescKeeps.R := gc n 5 [.dat tWorld a0 []] [.d .bool]
def innkeeplaw06_DescKeeps.l0 (n m0 : Nat) (t0 : (den tWorld)) (t2 : Bool) (t6 : Int) (t7 : Int) (o0 : (den tWorld)) (o1 : (den tWorld)) (o2 : (den tWorld)) (o3 : (den tWorld)) (o4 : (List (den tPlace))) (o5 : (List (den tPlace))) (o6 : (List Int)) (o7 : (List Int)) (o8 : (List Int)) (o9 : (List Int)) : Option innkeeplaw06_DescKeeps.R :=
  loopN (fun Kn K s h => run (gc n) n innkeeplaw06_DescKeeps.c24 Kn K s h) m0 (kBlk 0 (kSeq (run (gc n) n) innkeeplaw06_DescKeeps.c22 (retK innkeeplaw06_DescKeeps.fn innkeeplaw06_DescKeeps.res) (retK innkeeplaw06_DescKeeps.fn innkeeplaw06_DescKeeps.res)) (retK innkeeplaw06_DescKeeps.fn innkeeplaw06_DescKeeps.res))
    [(0, .dat tWorld t0 []), (1, .ptr 0 []), (2, .dat .bool t2 []), (3, .ptr 1 []), (4, .ptr 2 []), (5, .ptr 3 []), (6, .dat (.int .i64) t6 []), (7, .dat (.int .i64) t7 [])]
    [.box tWorld o0 [], .box tWorld o1 [], .box tWorld o2 [([1], some 6), ([2], some 7), ([3], some 4)], .box tWorld o3 [([1], some 8), ([2], some 9), ([3], some 5)], .arr tPlace o4, .arr tPlace o5, .arr (.int .i64) o6, .arr (.int .i64) o7, .arr (.int .i64) o8, .arr (.int .i64) o9]
def innkeeplaw06_DescKeeps.l1 (n m0 : Nat) (t0_1 : (den tWorld)) (t2_1 : Bool) (t6_1 : Int) (t7_1 : Int) (t8_1 : Int) (o0_1 : (den tWorld)) (o1_1 : (den tWorld)) (o2_1 : (den tWorld)) (o3_1 : (den tWorld)) (o4_1 : (List (den tPlace))) (o5_1 : (List (den tPlace))) (o6_1 : (List Int)) (o7_1 : (List Int)) (o8_1 : (List Int)) (o9_1 : (List Int)) : Option innkeeplaw06_DescKeeps.R :=
  loopN (fun Kn K s h => run (gc n) n innkeeplaw06_DescKeeps.c38 Kn K s h) m0 (kBlk 2 (kSeq (run (gc n) n) innkeeplaw06_DescKeeps.c36 (retK innkeeplaw06_DescKeeps.fn innkeeplaw06_DescKeeps.res) (retK innkeeplaw06_DescKeeps.fn innkeeplaw06_DescKeeps.res)) (retK innkeeplaw06_DescKeeps.fn innkeeplaw06_DescKeeps.res))
    [(0, .dat tWorld t0_1 []), (1, .ptr 0 []), (2, .dat .bool t2_1 []), (3, .ptr 1 []), (4, .ptr 2 []), (5, .ptr 3 []), (6, .dat (.int .i64) t6_1 []), (7, .dat (.int .i64) t7_1 []), (8, .dat (.int .i64) t8_1 [])]
    [.box tWorld o0_1 [], .box tWorld o1_1 [], .box tWorld o2_1 [([1], some 6), ([2], some 7), ([3], some 4)], .box tWorld o3_1 [([1], some 8), ([2], some 9), ([3], some 5)], .arr tPlace o4_1, .arr tPlace o5_1, .arr (.int .i64) o6_1, .arr (.int .i64) o7_1, .arr (.int .i64) o8_1, .arr (.int .i64) o9_1]
theorem innkeeplaw06_DescKeeps.l0_eq (n m0 : Nat) (t0 : (den tWorld)) (t2 : Bool) (t6 : Int) (t7 : Int) (o0 : (den tWorld)) (o1 : (den tWorld)) (o2 : (den tWorld)) (o3 : (den tWorld)) (o4 : (List (den tPlace))) (o5 : (List (den tPlace))) (o6 : (List Int)) (o7 : (List Int)) (o8 : (List Int)) (o9 : (List Int)) : innkeeplaw06_DescKeeps.l0 n (m0 + 1) t0 t2 t6 t7 o0 o1 o2 o3 o4 o5 o6 o7 o8 o9 =
  bif (decide (t7 < ((List.length o4) : Int))) then
    bif (decide (t7 < ((List.length o5) : Int))) then
      if (0 : Int) ≤ t7 ∧ t7 < (((List.length o4) : Nat) : Int) then
      if (0 : Int) ≤ t7 ∧ t7 < (((List.length o5) : Nat) : Int) then
      innkeeplaw06_DescKeeps.l0 n m0 t0 t2 t6 (IntKind.wrap .i64 (t7 + 1)) o0 o1 o2 o3 (List.set o4 (Int.toNat t7) (((List.getD o4 (Int.toNat t7) (dft tPlace) : (den tPlace)).1 : Int), 77, ()) : (List (den tPlace))) (List.set o5 (Int.toNat t7) (((List.getD o5 (Int.toNat t7) (dft tPlace) : (den tPlace)).1 : Int), 77, ()) : (List (den tPlace))) o6 o7 o8 o9
      else none
      else none
    else
      innkeeplaw06_DescKeeps.l1 n n t0 t2 t6 t7 0 o0 o1 o2 o3 o4 o5 o6 o7 o8 o9
  else
    innkeeplaw06_DescKeeps.l1 n n t0 t2 t6 t7 0 o0 o1 o2 o3 o4 o5 o6 o7 o8 o9 := by kernel_rfl
theorem innkeeplaw06_DescKeeps.l1_eq (n m0 : Nat) (t0_1 : (den tWorld)) (t2_1 : Bool) (t6_1 : Int) (t7_1 : Int) (t8_1 : Int) (o0_1 : (den tWorld)) (o1_1 : (den tWorld)) (o2_1 : (den tWorld)) (o3_1 : (den tWorld)) (o4_1 : (List (den tPlace))) (o5_1 : (List (den tPlace))) (o6_1 : (List Int)) (o7_1 : (List Int)) (o8_1 : (List Int)) (o9_1 : (List Int)) : innkeeplaw06_DescKeeps.l1 n (m0 + 1) t0_1 t2_1 t6_1 t7_1 t8_1 o0_1 o1_1 o2_1 o3_1 o4_1 o5_1 o6_1 o7_1 o8_1 o9_1 =
  bif (decide (t8_1 < ((List.length o6_1) : Int))) then
    bif (decide (t8_1 < ((List.length o8_1) : Int))) then
      if (0 : Int) ≤ t8_1 ∧ t8_1 < (((List.length o6_1) : Nat) : Int) then
      if (0 : Int) ≤ t8_1 ∧ t8_1 < (((List.length o7_1) : Nat) : Int) then
      if (0 : Int) ≤ t8_1 ∧ t8_1 < (((List.length o8_1) : Nat) : Int) then
      if (0 : Int) ≤ t8_1 ∧ t8_1 < (((List.length o9_1) : Nat) : Int) then
      innkeeplaw06_DescKeeps.l1 n m0 t0_1 t2_1 t6_1 t7_1 (IntKind.wrap .i64 (t8_1 + 1)) o0_1 o1_1 o2_1 o3_1 o4_1 o5_1 (List.set o6_1 (Int.toNat t8_1) 77 : (List Int)) (List.set o7_1 (Int.toNat t8_1) 77 : (List Int)) (List.set o8_1 (Int.toNat t8_1) 77 : (List Int)) (List.set o9_1 (Int.toNat t8_1) 77 : (List Int))
      else none
      else none
      else none
      else none
    else
      Option.bind (innkeepref06_Same n o1_1 o0_1) fun r11 =>
      bif (r11.1.1 : Bool) then
        Option.bind (innkeepref06_May n o1_1.1) fun r12 =>
        some (((r12.1.1 : Bool), ()), [])
      else
        some ((false, ()), [])
  else
    Option.bind (innkeepref06_Same n o1_1 o0_1) fun r13 =>
    bif (r13.1.1 : Bool) then
      Option.bind (innkeepref06_May n o1_1.1) fun r14 =>
      some (((r14.1.1 : Bool), ()), [])
    else
      some ((false, ()), []) := by kernel_rfl
theorem innkeeplaw06_DescKeeps.eq (n : Nat) (a0 : (den tWorld)) : innkeeplaw06_DescKeeps (n + 1) a0 =
  Option.bind (innkeeplaw06_awake n) fun r1 =>
  bif (!(r1.1.1 : Bool)) then
    Option.bind (innkeeplaw06_awake n) fun r2 =>
    some (((r2.1.1 : Bool), ()), [])
  else
    Option.bind (innkeepref06_Few n a0) fun r3 =>
    bif (!(r3.1.1 : Bool)) then
      Option.bind (innkeeplaw06_awake n) fun r4 =>
      some (((r4.1.1 : Bool), ()), [])
    else
      Option.bind (innkeepref06_Right n a0) fun r5 =>
      bif (!(r5.1.1 : Bool)) then
        Option.bind (innkeeplaw06_awake n) fun r6 =>
        some (((r6.1.1 : Bool), ()), [])
      else
        Option.bind (innkeepref06_Copied n a0) fun r7 =>
        Option.bind (desc_Copy n r7.1.1) fun r8 =>
        bif (keepAll r8.2 [((0, [3]), 4), ((0, [1]), 6), ((0, [2]), 7)]) then
          Option.bind (desc_New n r7.1.1.1) fun r9 =>
          bif (keepAll r9.2 [((0, [3]), 5), ((0, [1]), 8), ((0, [2]), 9)]) then
            Option.bind (desc_Right n r7.1.1) fun r10 =>
            bif (!(decide ((r9.1.2.1 : Int) = 0))) then
              some ((false, ()), [])
            else
              innkeeplaw06_DescKeeps.l0 n n a0 false (r9.1.2.1 : Int) 0 a0 r7.1.1 (r8.1.1.1, ([] : List Int), ([] : List Int), ([] : List (den tPlace)), ()) (r9.1.1.1, ([] : List Int), ([] : List Int), ([] : List (den tPlace)), ()) (r8.1.1.2.2.2.1 : (List (den tPlace))) (r9.1.1.2.2.2.1 : (List (den tPlace))) (r8.1.1.2.1 : (List Int)) (r8.1.1.2.2.1 : (List Int)) (r9.1.1.2.1 : (List Int)) (r9.1.1.2.2.1 : (List Int))
          else
            none
        else
          none := by kernel_rfl
def innkeeplaw06_DescCaps.res : List Sh := [.d .bool]
@[reducible] def innkeeplaw06_DescCaps.R : Type := dShL [.d .bool] × Fresh
def innkeeplaw06_DescCaps (n : Nat) (a0 : (den tWorld)) (a1 : Int) (a2 : Int) (a3 : Int) : Option innkeeplaw06_DescCaps.R := gc n 6 [.dat tWorld a0 [], .dat (.int .u8) a1 [], .dat (.int .u8) a2 [], .dat (.int .u8) a3 []] [.d .bool]
theorem innkeeplaw06_DescCaps.eq (n : Nat) (a0 : (den tWorld)) (a1 : Int) (a2 : Int) (a3 : Int) : innkeeplaw06_DescCaps (n + 1) a0 a1 a2 a3 =
  Option.bind (innkeeplaw06_awake n) fun r1 =>
  bif (!(r1.1.1 : Bool)) then
    Option.bind (innkeeplaw06_awake n) fun r2 =>
    some (((r2.1.1 : Bool), ()), [])
  else
    Option.bind (innkeepref06_Few n a0) fun r3 =>
    bif (!(r3.1.1 : Bool)) then
      Option.bind (innkeeplaw06_awake n) fun r4 =>
      some (((r4.1.1 : Bool), ()), [])
    else
      Option.bind (innkeepref06_Right n a0) fun r5 =>
      bif (!(r5.1.1 : Bool)) then
        Option.bind (innkeeplaw06_awake n) fun r6 =>
        some (((r6.1.1 : Bool), ()), [])
      else
        Option.bind (desc_Copy n a0) fun r7 =>
        Option.bind (desc_Copy n a0) fun r8 =>
        Option.bind (desc_Right n (((r7.1.1.1.1 : (List (List Int))), (r7.1.1.1.2.1 : (List Int)), (r7.1.1.1.2.2.1 : (List Int)), (r7.1.1.1.2.2.2.1 : (List Int)), (r7.1.1.1.2.2.2.2.1 : (List Bool)), (if (IntKind.wrap .i64 ((a0.1.2.2.2.2.2.1 : Int) + (IntKind.wrap .i64 ((Int.tmod a1 64))))) < 64 then (IntKind.wrap .i64 ((a0.1.2.2.2.2.2.1 : Int) + (IntKind.wrap .i64 ((Int.tmod a1 64))))) else 64), (if (IntKind.wrap .i64 ((a0.1.2.2.2.2.2.2.1 : Int) + (IntKind.wrap .i64 ((Int.tmod a2 64))))) < 64 then (IntKind.wrap .i64 ((a0.1.2.2.2.2.2.2.1 : Int) + (IntKind.wrap .i64 ((Int.tmod a2 64))))) else 64), (if (IntKind.wrap .i64 ((a0.1.2.2.2.2.2.2.2.1 : Int) + (IntKind.wrap .i64 ((Int.tmod a3 64))))) < 64 then (IntKind.wrap .i64 ((a0.1.2.2.2.2.2.2.2.1 : Int) + (IntKind.wrap .i64 ((Int.tmod a3 64))))) else 64), ()), (r7.1.1.2.1 : (List Int)), (r7.1.1.2.2.1 : (List Int)), (r7.1.1.2.2.2.1 : (List (den tPlace))), ())) fun r9 =>
        bif (r9.1.1 : Bool) then
          Option.bind (desc_Right n (((r8.1.1.1.1 : (List (List Int))), (r8.1.1.1.2.1 : (List Int)), (r8.1.1.1.2.2.1 : (List Int)), ([] : List Int), ([] : List Bool), (IntKind.wrap .i64 ((Int.tmod a1 65))), (IntKind.wrap .i64 ((Int.tmod a2 65))), (IntKind.wrap .i64 ((Int.tmod a3 65))), ()), (r8.1.1.2.1 : (List Int)), (r8.1.1.2.2.1 : (List Int)), ([] : List (den tPlace)), ())) fun r10 =>
          some (((r10.1.1 : Bool), ()), [])
        else
          some ((false, ()), []) := by kernel_rfl
def innkeeplaw06_DescSame.res : List Sh := [.d .bool]
@[reducible] def innkeeplaw06_DescSame.R : Type := dShL [.d .bool] × Fresh
def innkeeplaw06_DescSame (n : Nat) (a0 : (den tWorld)) (a1 : Int) : Option innkeeplaw06_DescSame.R := gc n 7 [.dat tWorld a0 [], .dat (.int .u8) a1 []] [.d .bool]
theorem innkeeplaw06_DescSame.eq (n : Nat) (a0 : (den tWorld)) (a1 : Int) : innkeeplaw06_DescSame (n + 1) a0 a1 =
  Option.bind (innkeeplaw06_awake n) fun r1 =>
  bif (!(r1.1.1 : Bool)) then
    Option.bind (innkeeplaw06_awake n) fun r2 =>
    some (((r2.1.1 : Bool), ()), [])
  else
    Option.bind (innkeepref06_Few n a0) fun r3 =>
    bif (!(r3.1.1 : Bool)) then
      Option.bind (innkeeplaw06_awake n) fun r4 =>
      some (((r4.1.1 : Bool), ()), [])
    else
      Option.bind (innkeepref06_Right n a0) fun r5 =>
      bif (!(r5.1.1 : Bool)) then
        Option.bind (innkeeplaw06_awake n) fun r6 =>
        some (((r6.1.1 : Bool), ()), [])
      else
        Option.bind (desc_Copy n a0) fun r7 =>
        bif (keepAll r7.2 [((0, [1]), 4)]) then
          if ((List.length (r7.1.1.2.1 : (List Int))) : Int) = 0 then none else
          if (0 : Int) ≤ (Int.tmod (IntKind.wrap .i64 (a1)) ((List.length (r7.1.1.2.1 : (List Int))) : Int)) ∧ (Int.tmod (IntKind.wrap .i64 (a1)) ((List.length (r7.1.1.2.1 : (List Int))) : Int)) < (((List.length (r7.1.1.2.1 : (List Int))) : Nat) : Int) then
          if (0 : Int) ≤ (Int.tmod (IntKind.wrap .i64 (a1)) ((List.length (r7.1.1.2.1 : (List Int))) : Int)) ∧ (Int.tmod (IntKind.wrap .i64 (a1)) ((List.length (r7.1.1.2.1 : (List Int))) : Int)) < (((List.length (r7.1.1.2.1 : (List Int))) : Nat) : Int) then
          Option.bind (desc_Copy n a0) fun r8 =>
          bif (keepAll r8.2 [((0, [2]), 5)]) then
            if (0 : Int) ≤ (Int.tmod (IntKind.wrap .i64 (a1)) ((List.length (r7.1.1.2.1 : (List Int))) : Int)) ∧ (Int.tmod (IntKind.wrap .i64 (a1)) ((List.length (r7.1.1.2.1 : (List Int))) : Int)) < (((List.length (r8.1.1.2.2.1 : (List Int))) : Nat) : Int) then
            if (0 : Int) ≤ (Int.tmod (IntKind.wrap .i64 (a1)) ((List.length (r7.1.1.2.1 : (List Int))) : Int)) ∧ (Int.tmod (IntKind.wrap .i64 (a1)) ((List.length (r7.1.1.2.1 : (List Int))) : Int)) < (((List.length (r8.1.1.2.2.1 : (List Int))) : Nat) : Int) then
            Option.bind (desc_Copy n a0) fun r9 =>
            bif (keepAll r9.2 [((0, [3]), 6)]) then
              bif (decide (0 < ((List.length (r9.1.1.2.2.2.1 : (List (den tPlace)))) : Int))) then
                if ((List.length (r9.1.1.2.2.2.1 : (List (den tPlace)))) : Int) = 0 then none else
                if (0 : Int) ≤ (Int.tmod (IntKind.wrap .i64 (a1)) ((List.length (r9.1.1.2.2.2.1 : (List (den tPlace)))) : Int)) ∧ (Int.tmod (IntKind.wrap .i64 (a1)) ((List.length (r9.1.1.2.2.2.1 : (List (den tPlace)))) : Int)) < (((List.length (r9.1.1.2.2.2.1 : (List (den tPlace)))) : Nat) : Int) then
                if (0 : Int) ≤ (Int.tmod (IntKind.wrap .i64 (a1)) ((List.length (r9.1.1.2.2.2.1 : (List (den tPlace)))) : Int)) ∧ (Int.tmod (IntKind.wrap .i64 (a1)) ((List.length (r9.1.1.2.2.2.1 : (List (den tPlace)))) : Int)) < (((List.length (r9.1.1.2.2.2.1 : (List (den tPlace)))) : Nat) : Int) then
                Option.bind (desc_Copy n a0) fun r10 =>
                Option.bind (desc_Same n a0 r10.1.1) fun r11 =>
                bif (r11.1.1 : Bool) then
                  Option.bind (desc_Same n a0 (r7.1.1.1, (List.set (r7.1.1.2.1 : (List Int)) (Int.toNat (Int.tmod (IntKind.wrap .i64 (a1)) ((List.length (r7.1.1.2.1 : (List Int))) : Int))) (IntKind.wrap .i64 ((List.getD (r7.1.1.2.1 : (List Int)) (Int.toNat (Int.tmod (IntKind.wrap .i64 (a1)) ((List.length (r7.1.1.2.1 : (List Int))) : Int))) (0 : Int) : Int) + 1)) : (List Int)), (r7.1.1.2.2.1 : (List Int)), (r7.1.1.2.2.2.1 : (List (den tPlace))), ())) fun r12 =>
                  bif (!(r12.1.1 : Bool)) then
                    Option.bind (desc_Same n (r7.1.1.1, (List.set (r7.1.1.2.1 : (List Int)) (Int.toNat (Int.tmod (IntKind.wrap .i64 (a1)) ((List.length (r7.1.1.2.1 : (List Int))) : Int))) (IntKind.wrap .i64 ((List.getD (r7.1.1.2.1 : (List Int)) (Int.toNat (Int.tmod (IntKind.wrap .i64 (a1)) ((List.length (r7.1.1.2.1 : (List Int))) : Int))) (0 : Int) : Int) + 1)) : (List Int)), (r7.1.1.2.2.1 : (List Int)), (r7.1.1.2.2.2.1 : (List (den tPlace))), ()) a0) fun r13 =>
                    bif (!(r13.1.1 : Bool)) then
                      Option.bind (desc_Same n a0 (r8.1.1.1, (r8.1.1.2.1 : (List Int)), (List.set (r8.1.1.2.2.1 : (List Int)) (Int.toNat (Int.tmod (IntKind.wrap .i64 (a1)) ((List.length (r7.1.1.2.1 : (List Int))) : Int))) (IntKind.wrap .i64 ((List.getD (r8.1.1.2.2.1 : (List Int)) (Int.toNat (Int.tmod (IntKind.wrap .i64 (a1)) ((List.length (r7.1.1.2.1 : (List Int))) : Int))) (0 : Int) : Int) + 1)) : (List Int)), (r8.1.1.2.2.2.1 : (List (den tPlace))), ())) fun r14 =>
                      bif (!(r14.1.1 : Bool)) then
                        Option.bind (desc_Same n (r7.1.1.1, (List.set (r7.1.1.2.1 : (List Int)) (Int.toNat (Int.tmod (IntKind.wrap .i64 (a1)) ((List.length (r7.1.1.2.1 : (List Int))) : Int))) (IntKind.wrap .i64 ((List.getD (r7.1.1.2.1 : (List Int)) (Int.toNat (Int.tmod (IntKind.wrap .i64 (a1)) ((List.length (r7.1.1.2.1 : (List Int))) : Int))) (0 : Int) : Int) + 1)) : (List Int)), (r7.1.1.2.2.1 : (List Int)), (r7.1.1.2.2.2.1 : (List (den tPlace))), ()) (r8.1.1.1, (r8.1.1.2.1 : (List Int)), (List.set (r8.1.1.2.2.1 : (List Int)) (Int.toNat (Int.tmod (IntKind.wrap .i64 (a1)) ((List.length (r7.1.1.2.1 : (List Int))) : Int))) (IntKind.wrap .i64 ((List.getD (r8.1.1.2.2.1 : (List Int)) (Int.toNat (Int.tmod (IntKind.wrap .i64 (a1)) ((List.length (r7.1.1.2.1 : (List Int))) : Int))) (0 : Int) : Int) + 1)) : (List Int)), (r8.1.1.2.2.2.1 : (List (den tPlace))), ())) fun r15 =>
                        bif (!(r15.1.1 : Bool)) then
                          Option.bind (desc_Same n a0 (r9.1.1.1, (r9.1.1.2.1 : (List Int)), (r9.1.1.2.2.1 : (List Int)), (List.set (r9.1.1.2.2.2.1 : (List (den tPlace))) (Int.toNat (Int.tmod (IntKind.wrap .i64 (a1)) ((List.length (r9.1.1.2.2.2.1 : (List (den tPlace)))) : Int))) (((List.getD (r9.1.1.2.2.2.1 : (List (den tPlace))) (Int.toNat (Int.tmod (IntKind.wrap .i64 (a1)) ((List.length (r9.1.1.2.2.2.1 : (List (den tPlace)))) : Int))) (dft tPlace) : (den tPlace)).1 : Int), (IntKind.wrap .i64 (((List.getD (r9.1.1.2.2.2.1 : (List (den tPlace))) (Int.toNat (Int.tmod (IntKind.wrap .i64 (a1)) ((List.length (r9.1.1.2.2.2.1 : (List (den tPlace)))) : Int))) (dft tPlace) : (den tPlace)).2.1 : Int) + 1)), ()) : (List (den tPlace))), ())) fun r16 =>
                          some (((eqT .bool (r16.1.1 : Bool) (decide (((List.length (a0.2.2.2.1 : (List (den tPlace)))) : Int) = 0))), ()), [])
                        else
                          some ((false, ()), [])
                      else
                        some ((false, ()), [])
                    else
                      some ((false, ()), [])
                  else
                    some ((false, ()), [])
                else
                  some ((false, ()), [])
                else none
                else none
              else
                Option.bind (desc_Copy n a0) fun r17 =>
                Option.bind (desc_Same n a0 r17.1.1) fun r18 =>
                bif (r18.1.1 : Bool) then
                  Option.bind (desc_Same n a0 (r7.1.1.1, (List.set (r7.1.1.2.1 : (List Int)) (Int.toNat (Int.tmod (IntKind.wrap .i64 (a1)) ((List.length (r7.1.1.2.1 : (List Int))) : Int))) (IntKind.wrap .i64 ((List.getD (r7.1.1.2.1 : (List Int)) (Int.toNat (Int.tmod (IntKind.wrap .i64 (a1)) ((List.length (r7.1.1.2.1 : (List Int))) : Int))) (0 : Int) : Int) + 1)) : (List Int)), (r7.1.1.2.2.1 : (List Int)), (r7.1.1.2.2.2.1 : (List (den tPlace))), ())) fun r19 =>
                  bif (!(r19.1.1 : Bool)) then
                    Option.bind (desc_Same n (r7.1.1.1, (List.set (r7.1.1.2.1 : (List Int)) (Int.toNat (Int.tmod (IntKind.wrap .i64 (a1)) ((List.length (r7.1.1.2.1 : (List Int))) : Int))) (IntKind.wrap .i64 ((List.getD (r7.1.1.2.1 : (List Int)) (Int.toNat (Int.tmod (IntKind.wrap .i64 (a1)) ((List.length (r7.1.1.2.1 : (List Int))) : Int))) (0 : Int) : Int) + 1)) : (List Int)), (r7.1.1.2.2.1 : (List Int)), (r7.1.1.2.2.2.1 : (List (den tPlace))), ()) a0) fun r20 =>
                    bif (!(r20.1.1 : Bool)) then
                      Option.bind (desc_Same n a0 (r8.1.1.1, (r8.1.1.2.1 : (List Int)), (List.set (r8.1.1.2.2.1 : (List Int)) (Int.toNat (Int.tmod (IntKind.wrap .i64 (a1)) ((List.length (r7.1.1.2.1 : (List Int))) : Int))) (IntKind.wrap .i64 ((List.getD (r8.1.1.2.2.1 : (List Int)) (Int.toNat (Int.tmod (IntKind.wrap .i64 (a1)) ((List.length (r7.1.1.2.1 : (List Int))) : Int))) (0 : Int) : Int) + 1)) : (List Int)), (r8.1.1.2.2.2.1 : (List (den tPlace))), ())) fun r21 =>
                      bif (!(r21.1.1 : Bool)) then
                        Option.bind (desc_Same n (r7.1.1.1, (List.set (r7.1.1.2.1 : (List Int)) (Int.toNat (Int.tmod (IntKind.wrap .i64 (a1)) ((List.length (r7.1.1.2.1 : (List Int))) : Int))) (IntKind.wrap .i64 ((List.getD (r7.1.1.2.1 : (List Int)) (Int.toNat (Int.tmod (IntKind.wrap .i64 (a1)) ((List.length (r7.1.1.2.1 : (List Int))) : Int))) (0 : Int) : Int) + 1)) : (List Int)), (r7.1.1.2.2.1 : (List Int)), (r7.1.1.2.2.2.1 : (List (den tPlace))), ()) (r8.1.1.1, (r8.1.1.2.1 : (List Int)), (List.set (r8.1.1.2.2.1 : (List Int)) (Int.toNat (Int.tmod (IntKind.wrap .i64 (a1)) ((List.length (r7.1.1.2.1 : (List Int))) : Int))) (IntKind.wrap .i64 ((List.getD (r8.1.1.2.2.1 : (List Int)) (Int.toNat (Int.tmod (IntKind.wrap .i64 (a1)) ((List.length (r7.1.1.2.1 : (List Int))) : Int))) (0 : Int) : Int) + 1)) : (List Int)), (r8.1.1.2.2.2.1 : (List (den tPlace))), ())) fun r22 =>
                        bif (!(r22.1.1 : Bool)) then
                          Option.bind (desc_Same n a0 (r9.1.1.1, (r9.1.1.2.1 : (List Int)), (r9.1.1.2.2.1 : (List Int)), (r9.1.1.2.2.2.1 : (List (den tPlace))), ())) fun r23 =>
                          some (((eqT .bool (r23.1.1 : Bool) (decide (((List.length (a0.2.2.2.1 : (List (den tPlace)))) : Int) = 0))), ()), [])
                        else
                          some ((false, ()), [])
                      else
                        some ((false, ()), [])
                    else
                      some ((false, ()), [])
                  else
                    some ((false, ()), [])
                else
                  some ((false, ()), [])
            else
              none
            else none
            else none
          else
            none
          else none
          else none
        else
          none := by kernel_rfl
end Go.Proofs.Ytkjcmjfdkmnikaa.Ghost
