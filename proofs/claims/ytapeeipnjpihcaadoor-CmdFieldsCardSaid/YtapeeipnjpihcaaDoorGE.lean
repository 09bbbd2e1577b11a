/- What each function and each loop comes to, one step. Conditions: none. -/
import Derived.Test.YtapeeipnjpihcaaDoorGSp
import Derived.KernelRfl
set_option linter.unusedVariables false
set_option linter.unusedSimpArgs false
set_option linter.unusedSectionVars false
set_option linter.unnecessarySimpa false
namespace Go.Proofs.YtapeeipnjpihcaaDoor.Ghost
open Go
abbrev gc (n : Nat) : Calls := gcall prog sp n
def slices_Index_sstring_string.res : List Sh := [.d (.int .i64)]
@[reducible] def slices_Index_sstring_string.R : Type := dShL [.d (.int .i64)] × Fresh
def slices_Index_sstring_string (n : Nat) (a0 : (List ByteArray)) (a1 : ByteArray) : Option slices_Index_sstring_string.R := gc n 33 [.dat (.sl .str) a0 [], .dat .str a1 []] [.d (.int .i64)]
def slices_Index_sstring_string.l0 (n m0 : Nat) (t0 : (List ByteArray)) (t1 : ByteArray) (t4 : Int) (t7 : Int) (t8 : Int) : Option slices_Index_sstring_string.R :=
  loopN (fun Kn K s h => run (gc n) n slices_Index_sstring_string.c4 Kn K s h) m0 (kBlk 0 (kSeq (run (gc n) n) slices_Index_sstring_string.c1 (retK slices_Index_sstring_string.fn slices_Index_sstring_string.res) (retK slices_Index_sstring_string.fn slices_Index_sstring_string.res)) (retK slices_Index_sstring_string.fn slices_Index_sstring_string.res))
    [(0, .dat (.sl .str) t0 []), (1, .dat .str t1 []), (4, .dat (.int .i64) t4 []), (7, .dat (.int .i64) t7 []), (8, .dat (.int .i64) t8 [])]
    []
theorem slices_Index_sstring_string.l0_eq (n m0 : Nat) (t0 : (List ByteArray)) (t1 : ByteArray) (t4 : Int) (t7 : Int) (t8 : Int) : slices_Index_sstring_string.l0 n (m0 + 1) t0 t1 t4 t7 t8 =
  bif (decide (t8 < t7)) then
    if (0 : Int) ≤ t8 ∧ t8 < (((List.length t0) : Nat) : Int) then
    bif (eqT .str t1 (List.getD t0 (Int.toNat t8) (dft .str) : ByteArray)) then
      some ((t8, ()), [])
    else
      slices_Index_sstring_string.l0 n m0 t0 t1 t4 t7 (IntKind.wrap .i64 (t8 + 1))
    else none
  else
    some (((-1), ()), []) := by kernel_rfl
theorem slices_Index_sstring_string.eq (n : Nat) (a0 : (List ByteArray)) (a1 : ByteArray) : slices_Index_sstring_string (n + 1) a0 a1 =
  slices_Index_sstring_string.l0 n n a0 a1 0 ((List.length a0) : Int) 0 := by kernel_rfl
def cmd_number.res : List Sh := [.d (.int .i64), .d .bool]
@[reducible] def cmd_number.R : Type := dShL [.d (.int .i64), .d .bool] × Fresh
def cmd_number (n : Nat) (a0 : (List ByteArray)) (a1 : ByteArray) : Option cmd_number.R := gc n 29 [.dat (.sl .str) a0 [], .dat .str a1 []] [.d (.int .i64), .d .bool]
theorem cmd_number.eq (n : Nat) (a0 : (List ByteArray)) (a1 : ByteArray) : cmd_number (n + 1) a0 a1 =
  Option.bind (slices_Index_sstring_string n a0 a1) fun r1 =>
  bif (eqT .str a1 (⟨#[]⟩ : ByteArray)) then
    some ((0, false, ()), [])
  else
    bif (decide ((r1.1.1 : Int) < 0)) then
      some ((0, false, ()), [])
    else
      some (((r1.1.1 : Int), true, ()), []) := by kernel_rfl
def cmd_Kind.res : List Sh := [.d (.int .i64), .d .bool]
@[reducible] def cmd_Kind.R : Type := dShL [.d (.int .i64), .d .bool] × Fresh
def cmd_Kind (n : Nat) (a0 : ByteArray) : Option cmd_Kind.R := gc n 13 [.dat .str a0 []] [.d (.int .i64), .d .bool]
theorem cmd_Kind.eq (n : Nat) (a0 : ByteArray) : cmd_Kind (n + 1) a0 =
  Option.bind (cmd_number n (glob0 : (List ByteArray)) a0) fun r1 =>
  some (((r1.1.1 : Int), (r1.1.2.1 : Bool), ()), []) := by kernel_rfl
def cmd_Dir.res : List Sh := [.d (.int .i64), .d .bool]
@[reducible] def cmd_Dir.R : Type := dShL [.d (.int .i64), .d .bool] × Fresh
def cmd_Dir (n : Nat) (a0 : ByteArray) : Option cmd_Dir.R := gc n 15 [.dat .str a0 []] [.d (.int .i64), .d .bool]
theorem cmd_Dir.eq (n : Nat) (a0 : ByteArray) : cmd_Dir (n + 1) a0 =
  Option.bind (cmd_number n (glob1 : (List ByteArray)) a0) fun r1 =>
  some (((r1.1.1 : Int), (r1.1.2.1 : Bool), ()), []) := by kernel_rfl
def cmd_name.res : List Sh := [.d .str]
@[reducible] def cmd_name.R : Type := dShL [.d .str] × Fresh
def cmd_name (n : Nat) (a0 : (List ByteArray)) (a1 : Int) : Option cmd_name.R := gc n 30 [.dat (.sl .str) a0 [], .dat (.int .i64) a1 []] [.d .str]
theorem cmd_name.eq (n : Nat) (a0 : (List ByteArray)) (a1 : Int) : cmd_name (n + 1) a0 a1 =
  bif (decide (a1 < 0)) then
    some (((⟨#[]⟩ : ByteArray), ()), [])
  else
    bif (decide (((List.length a0) : Int) ≤ a1)) then
      some (((⟨#[]⟩ : ByteArray), ()), [])
    else
      if (0 : Int) ≤ a1 ∧ a1 < (((List.length a0) : Nat) : Int) then
      some (((List.getD a0 (Int.toNat a1) (dft .str) : ByteArray), ()), [])
      else none := by kernel_rfl
def cmd_Name.res : List Sh := [.d .str]
@[reducible] def cmd_Name.R : Type := dShL [.d .str] × Fresh
def cmd_Name (n : Nat) (a0 : Int) : Option cmd_Name.R := gc n 17 [.dat (.int .i64) a0 []] [.d .str]
theorem cmd_Name.eq (n : Nat) (a0 : Int) : cmd_Name (n + 1) a0 =
  Option.bind (cmd_name n (glob0 : (List ByteArray)) a0) fun r1 =>
  some (((r1.1.1 : ByteArray), ()), []) := by kernel_rfl
def cmd_bare.res : List Sh := [.d tCmd]
@[reducible] def cmd_bare.R : Type := dShL [.d tCmd] × Fresh
def cmd_bare (n : Nat) (a0 : (den tCmd)) : Option cmd_bare.R := gc n 21 [.dat tCmd a0 []] [.d tCmd]
theorem cmd_bare.eq (n : Nat) (a0 : (den tCmd)) : cmd_bare (n + 1) a0 =
  bif (decide ((a0.1 : Int) = 1)) then
    some ((((a0.1 : Int), (a0.2.1 : Int), 0, 0, 0, ([] : List Int), 0, ([] : List Int), 0, ()), ()), [])
  else
    bif (decide ((a0.1 : Int) = 2)) then
      some ((((a0.1 : Int), (a0.2.1 : Int), 0, 0, (a0.2.2.2.2.1 : Int), ([] : List Int), 0, ([] : List Int), 0, ()), ()), [])
    else
      bif (decide ((a0.1 : Int) = 3)) then
        bif (decide ((a0.1 : Int) = 3)) then
          some ((((a0.1 : Int), 0, (a0.2.2.1 : Int), 0, 0, ([] : List Int), 0, ([] : List Int), 0, ()), ()), [])
        else
          bif (decide ((a0.1 : Int) = 5)) then
            bif (decide ((a0.1 : Int) = 5)) then
              some ((((a0.1 : Int), 0, (a0.2.2.1 : Int), (a0.2.2.2.1 : Int), 0, ([] : List Int), 0, ([] : List Int), 0, ()), ()), [])
            else
              bif (decide ((a0.1 : Int) = 7)) then
                some ((((a0.1 : Int), 0, (a0.2.2.1 : Int), 0, (a0.2.2.2.2.1 : Int), ([] : List Int), 0, ([] : List Int), 0, ()), ()), [])
              else
                bif (decide ((a0.1 : Int) = 8)) then
                  some ((((a0.1 : Int), 0, 0, 0, (a0.2.2.2.2.1 : Int), (a0.2.2.2.2.2.1 : (List Int)), (a0.2.2.2.2.2.2.1 : Int), (a0.2.2.2.2.2.2.2.1 : (List Int)), (a0.2.2.2.2.2.2.2.2.1 : Int), ()), ()), [])
                else
                  some ((((a0.1 : Int), 0, 0, 0, 0, ([] : List Int), 0, ([] : List Int), 0, ()), ()), [])
          else
            bif (decide ((a0.1 : Int) = 6)) then
              some ((((a0.1 : Int), 0, (a0.2.2.1 : Int), (a0.2.2.2.1 : Int), 0, ([] : List Int), 0, ([] : List Int), 0, ()), ()), [])
            else
              bif (decide ((a0.1 : Int) = 7)) then
                some ((((a0.1 : Int), 0, (a0.2.2.1 : Int), 0, (a0.2.2.2.2.1 : Int), ([] : List Int), 0, ([] : List Int), 0, ()), ()), [])
              else
                bif (decide ((a0.1 : Int) = 8)) then
                  some ((((a0.1 : Int), 0, 0, 0, (a0.2.2.2.2.1 : Int), (a0.2.2.2.2.2.1 : (List Int)), (a0.2.2.2.2.2.2.1 : Int), (a0.2.2.2.2.2.2.2.1 : (List Int)), (a0.2.2.2.2.2.2.2.2.1 : Int), ()), ()), [])
                else
                  some ((((a0.1 : Int), 0, 0, 0, 0, ([] : List Int), 0, ([] : List Int), 0, ()), ()), [])
      else
        bif (decide ((a0.1 : Int) = 4)) then
          some ((((a0.1 : Int), 0, (a0.2.2.1 : Int), 0, 0, ([] : List Int), 0, ([] : List Int), 0, ()), ()), [])
        else
          bif (decide ((a0.1 : Int) = 5)) then
            bif (decide ((a0.1 : Int) = 5)) then
              some ((((a0.1 : Int), 0, (a0.2.2.1 : Int), (a0.2.2.2.1 : Int), 0, ([] : List Int), 0, ([] : List Int), 0, ()), ()), [])
            else
              bif (decide ((a0.1 : Int) = 7)) then
                some ((((a0.1 : Int), 0, (a0.2.2.1 : Int), 0, (a0.2.2.2.2.1 : Int), ([] : List Int), 0, ([] : List Int), 0, ()), ()), [])
              else
                bif (decide ((a0.1 : Int) = 8)) then
                  some ((((a0.1 : Int), 0, 0, 0, (a0.2.2.2.2.1 : Int), (a0.2.2.2.2.2.1 : (List Int)), (a0.2.2.2.2.2.2.1 : Int), (a0.2.2.2.2.2.2.2.1 : (List Int)), (a0.2.2.2.2.2.2.2.2.1 : Int), ()), ()), [])
                else
                  some ((((a0.1 : Int), 0, 0, 0, 0, ([] : List Int), 0, ([] : List Int), 0, ()), ()), [])
          else
            bif (decide ((a0.1 : Int) = 6)) then
              some ((((a0.1 : Int), 0, (a0.2.2.1 : Int), (a0.2.2.2.1 : Int), 0, ([] : List Int), 0, ([] : List Int), 0, ()), ()), [])
            else
              bif (decide ((a0.1 : Int) = 7)) then
                some ((((a0.1 : Int), 0, (a0.2.2.1 : Int), 0, (a0.2.2.2.2.1 : Int), ([] : List Int), 0, ([] : List Int), 0, ()), ()), [])
              else
                bif (decide ((a0.1 : Int) = 8)) then
                  some ((((a0.1 : Int), 0, 0, 0, (a0.2.2.2.2.1 : Int), (a0.2.2.2.2.2.1 : (List Int)), (a0.2.2.2.2.2.2.1 : Int), (a0.2.2.2.2.2.2.2.1 : (List Int)), (a0.2.2.2.2.2.2.2.2.1 : Int), ()), ()), [])
                else
                  some ((((a0.1 : Int), 0, 0, 0, 0, ([] : List Int), 0, ([] : List Int), 0, ()), ()), []) := by kernel_rfl
def cmd_of.res : List Sh := [.d tplain]
@[reducible] def cmd_of.R : Type := dShL [.d tplain] × Fresh
def cmd_of (n : Nat) (a0 : (den tCmd)) : Option cmd_of.R := gc n 26 [.dat tCmd a0 []] [.d tplain]
theorem cmd_of.eq (n : Nat) (a0 : (den tCmd)) : cmd_of (n + 1) a0 =
  some ((((a0.1 : Int), (a0.2.1 : Int), (a0.2.2.1 : Int), (a0.2.2.2.1 : Int), (a0.2.2.2.2.1 : Int), (a0.2.2.2.2.2.2.1 : Int), (a0.2.2.2.2.2.2.2.2.1 : Int), ()), ()), []) := by kernel_rfl
def slices_Equal_sint_int.res : List Sh := [.d .bool]
@[reducible] def slices_Equal_sint_int.R : Type := dShL [.d .bool] × Fresh
def slices_Equal_sint_int (n : Nat) (a0 : (List Int)) (a1 : (List Int)) : Option slices_Equal_sint_int.R := gc n 27 [.dat (.sl (.int .i64)) a0 [], .dat (.sl (.int .i64)) a1 []] [.d .bool]
def slices_Equal_sint_int.l0 (n m0 : Nat) (t0 : (List Int)) (t1 : (List Int)) (t4 : Bool) (t12 : Int) (t13 : Int) : Option slices_Equal_sint_int.R :=
  loopN (fun Kn K s h => run (gc n) n slices_Equal_sint_int.c10 Kn K s h) m0 (kBlk 0 (kSeq (run (gc n) n) slices_Equal_sint_int.c7 (retK slices_Equal_sint_int.fn slices_Equal_sint_int.res) (retK slices_Equal_sint_int.fn slices_Equal_sint_int.res)) (retK slices_Equal_sint_int.fn slices_Equal_sint_int.res))
    [(0, .dat (.sl (.int .i64)) t0 []), (1, .dat (.sl (.int .i64)) t1 []), (4, .dat .bool t4 []), (12, .dat (.int .i64) t12 []), (13, .dat (.int .i64) t13 [])]
    []
theorem slices_Equal_sint_int.l0_eq (n m0 : Nat) (t0 : (List Int)) (t1 : (List Int)) (t4 : Bool) (t12 : Int) (t13 : Int) : slices_Equal_sint_int.l0 n (m0 + 1) t0 t1 t4 t12 t13 =
  bif (decide (t13 < t12)) then
    if (0 : Int) ≤ t13 ∧ t13 < (((List.length t0) : Nat) : Int) then
    if (0 : Int) ≤ t13 ∧ t13 < (((List.length t1) : Nat) : Int) then
    bif (!(decide ((List.getD t0 (Int.toNat t13) (0 : Int) : Int) = (List.getD t1 (Int.toNat t13) (0 : Int) : Int)))) then
      some ((false, ()), [])
    else
      slices_Equal_sint_int.l0 n m0 t0 t1 t4 t12 (IntKind.wrap .i64 (t13 + 1))
    else none
    else none
  else
    some ((true, ()), []) := by kernel_rfl
theorem slices_Equal_sint_int.eq (n : Nat) (a0 : (List Int)) (a1 : (List Int)) : slices_Equal_sint_int (n + 1) a0 a1 =
  bif (!(decide (((List.length a0) : Int) = ((List.length a1) : Int)))) then
    some ((false, ()), [])
  else
    slices_Equal_sint_int.l0 n n a0 a1 false ((List.length a0) : Int) 0 := by kernel_rfl
def cmd_Same.res : List Sh := [.d .bool]
@[reducible] def cmd_Same.R : Type := dShL [.d .bool] × Fresh
def cmd_Same (n : Nat) (a0 : (den tCmd)) (a1 : (den tCmd)) : Option cmd_Same.R := gc n 11 [.dat tCmd a0 [], .dat tCmd a1 []] [.d .bool]
theorem cmd_Same.eq (n : Nat) (a0 : (den tCmd)) (a1 : (den tCmd)) : cmd_Same (n + 1) a0 a1 =
  Option.bind (cmd_of n a0) fun r1 =>
  Option.bind (cmd_of n a1) fun r2 =>
  bif (eqT tplain r1.1.1 r2.1.1) then
    Option.bind (slices_Equal_sint_int n (a0.2.2.2.2.2.1 : (List Int)) (a1.2.2.2.2.2.1 : (List Int))) fun r3 =>
    bif (r3.1.1 : Bool) then
      Option.bind (slices_Equal_sint_int n (a0.2.2.2.2.2.2.2.1 : (List Int)) (a1.2.2.2.2.2.2.2.1 : (List Int))) fun r4 =>
      some (((r4.1.1 : Bool), ()), [])
    else
      some ((false, ()), [])
  else
    some ((false, ()), []) := by kernel_rfl
def cmd_Way.res : List Sh := [.d .str]
@[reducible] def cmd_Way.R : Type := dShL [.d .str] × Fresh
def cmd_Way (n : Nat) (a0 : Int) : Option cmd_Way.R := gc n 19 [.dat (.int .i64) a0 []] [.d .str]
theorem cmd_Way.eq (n : Nat) (a0 : Int) : cmd_Way (n + 1) a0 =
  Option.bind (cmd_name n (glob1 : (List ByteArray)) a0) fun r1 =>
  some (((r1.1.1 : ByteArray), ()), []) := by kernel_rfl
def cmd_fit.res : List Sh := [.d .bool]
@[reducible] def cmd_fit.R : Type := dShL [.d .bool] × Fresh
def cmd_fit (n : Nat) (a0 : Int) : Option cmd_fit.R := gc n 22 [.dat (.int .i64) a0 []] [.d .bool]
theorem cmd_fit.eq (n : Nat) (a0 : Int) : cmd_fit (n + 1) a0 =
  bif (decide (0 ≤ a0)) then
    some (((decide (a0 ≤ 1073741824)), ()), [])
  else
    some ((false, ()), []) := by kernel_rfl
def cmd_row_1.res : List Sh := [.d .bool]
@[reducible] def cmd_row_1.R : Type := dShL [.d .bool] × Fresh
def cmd_row_1 (n : Nat) (a0 : Int) : Option cmd_row_1.R := gc n 32 [.dat (.int .i64) a0 []] [.d .bool]
theorem cmd_row_1.eq (n : Nat) (a0 : Int) : cmd_row_1 (n + 1) a0 =
  Option.bind (cmd_fit n a0) fun r1 =>
  some (((!(r1.1.1 : Bool)), ()), []) := by kernel_rfl
def slices_IndexFunc_sint_int.res : List Sh := [.d (.int .i64)]
@[reducible] def slices_IndexFunc_sint_int.R : Type := dShL [.d (.int .i64)] × Fresh
def slices_IndexFunc_sint_int (n : Nat) (a0 : (List Int)) : Option slices_IndexFunc_sint_int.R := gc n 34 [.dat (.sl (.int .i64)) a0 [], .clo 32 []] [.d (.int .i64)]
def slices_IndexFunc_sint_int.l0 (n m0 : Nat) (t0 : (List Int)) (t4 : Int) (t7 : Int) (t8 : Int) : Option slices_IndexFunc_sint_int.R :=
  loopN (fun Kn K s h => run (gc n) n slices_IndexFunc_sint_int.c4 Kn K s h) m0 (kBlk 0 (kSeq (run (gc n) n) slices_IndexFunc_sint_int.c1 (retK slices_IndexFunc_sint_int.fn slices_IndexFunc_sint_int.res) (retK slices_IndexFunc_sint_int.fn slices_IndexFunc_sint_int.res)) (retK slices_IndexFunc_sint_int.fn slices_IndexFunc_sint_int.res))
    [(0, .dat (.sl (.int .i64)) t0 []), (1, .clo 32 []), (4, .dat (.int .i64) t4 []), (7, .dat (.int .i64) t7 []), (8, .dat (.int .i64) t8 [])]
    []
theorem slices_IndexFunc_sint_int.l0_eq (n m0 : Nat) (t0 : (List Int)) (t4 : Int) (t7 : Int) (t8 : Int) : slices_IndexFunc_sint_int.l0 n (m0 + 1) t0 t4 t7 t8 =
  bif (decide (t8 < t7)) then
    if (0 : Int) ≤ t8 ∧ t8 < (((List.length t0) : Nat) : Int) then
    Option.bind (cmd_row_1 n (List.getD t0 (Int.toNat t8) (0 : Int) : Int)) fun r1 =>
    bif (r1.1.1 : Bool) then
      some ((t8, ()), [])
    else
      slices_IndexFunc_sint_int.l0 n m0 t0 t4 t7 (IntKind.wrap .i64 (t8 + 1))
    else none
  else
    some (((-1), ()), []) := by kernel_rfl
theorem slices_IndexFunc_sint_int.eq (n : Nat) (a0 : (List Int)) : slices_IndexFunc_sint_int (n + 1) a0 =
  slices_IndexFunc_sint_int.l0 n n a0 0 ((List.length a0) : Int) 0 := by kernel_rfl
def slices_ContainsFunc_sint_int.res : List Sh := [.d .bool]
@[reducible] def slices_ContainsFunc_sint_int.R : Type := dShL [.d .bool] × Fresh
def slices_ContainsFunc_sint_int (n : Nat) (a0 : (List Int)) : Option slices_ContainsFunc_sint_int.R := gc n 31 [.dat (.sl (.int .i64)) a0 [], .clo 32 []] [.d .bool]
theorem slices_ContainsFunc_sint_int.eq (n : Nat) (a0 : (List Int)) : slices_ContainsFunc_sint_int (n + 1) a0 =
  Option.bind (slices_IndexFunc_sint_int n a0) fun r1 =>
  some (((decide (0 ≤ (r1.1.1 : Int))), ()), []) := by kernel_rfl
def cmd_row.res : List Sh := [.d .bool]
@[reducible] def cmd_row.R : Type := dShL [.d .bool] × Fresh
def cmd_row (n : Nat) (a0 : (List Int)) : Option cmd_row.R := gc n 23 [.dat (.sl (.int .i64)) a0 []] [.d .bool]
theorem cmd_row.eq (n : Nat) (a0 : (List Int)) : cmd_row (n + 1) a0 =
  bif (decide (((List.length a0) : Int) ≤ 16)) then
    Option.bind (slices_ContainsFunc_sint_int n a0) fun r1 =>
    some (((!(r1.1.1 : Bool)), ()), [])
  else
    some ((false, ()), []) := by kernel_rfl
def cmd_May.res : List Sh := [.d .bool]
@[reducible] def cmd_May.R : Type := dShL [.d .bool] × Fresh
def cmd_May (n : Nat) (a0 : (den tCmd)) : Option cmd_May.R := gc n 9 [.dat tCmd a0 []] [.d .bool]
theorem cmd_May.eq (n : Nat) (a0 : (den tCmd)) : cmd_May (n + 1) a0 =
  Option.bind (cmd_Name n (a0.1 : Int)) fun r1 =>
  bif (!(eqT .str (r1.1.1 : ByteArray) (⟨#[]⟩ : ByteArray))) then
    Option.bind (cmd_bare n a0) fun r2 =>
    Option.bind (cmd_Same n a0 r2.1.1) fun r3 =>
    bif (r3.1.1 : Bool) then
      Option.bind (cmd_Way n (a0.2.1 : Int)) fun r4 =>
      bif (!(eqT .str (r4.1.1 : ByteArray) (⟨#[]⟩ : ByteArray))) then
        Option.bind (cmd_fit n (a0.2.2.1 : Int)) fun r5 =>
        bif (r5.1.1 : Bool) then
          Option.bind (cmd_fit n (a0.2.2.2.1 : Int)) fun r6 =>
          bif (r6.1.1 : Bool) then
            Option.bind (cmd_fit n (a0.2.2.2.2.1 : Int)) fun r7 =>
            bif (r7.1.1 : Bool) then
              Option.bind (cmd_fit n (a0.2.2.2.2.2.2.1 : Int)) fun r8 =>
              bif (r8.1.1 : Bool) then
                Option.bind (cmd_fit n (a0.2.2.2.2.2.2.2.2.1 : Int)) fun r9 =>
                bif (r9.1.1 : Bool) then
                  Option.bind (cmd_row n (a0.2.2.2.2.2.1 : (List Int))) fun r10 =>
                  bif (r10.1.1 : Bool) then
                    Option.bind (cmd_row n (a0.2.2.2.2.2.2.2.1 : (List Int))) fun r11 =>
                    some (((r11.1.1 : Bool), ()), [])
                  else
                    some ((false, ()), [])
                else
                  some ((false, ()), [])
              else
                some ((false, ()), [])
            else
              some ((false, ()), [])
          else
            some ((false, ()), [])
        else
          some ((false, ()), [])
      else
        some ((false, ()), [])
    else
      some ((false, ()), [])
  else
    some ((false, ()), []) := by kernel_rfl
def innkeeplaw03_awake.res : List Sh := [.d .bool]
@[reducible] def innkeeplaw03_awake.R : Type := dShL [.d .bool] × Fresh
def innkeeplaw03_awake (n : Nat) : Option innkeeplaw03_awake.R := gc n 7 [] [.d .bool]
theorem innkeeplaw03_awake.eq (n : Nat) : innkeeplaw03_awake (n + 1) =
  Option.bind (cmd_Kind n (⟨#[116, 114, 97, 100, 101]⟩ : ByteArray)) fun r1 =>
  Option.bind (cmd_Dir n (⟨#[119, 101, 115, 116]⟩ : ByteArray)) fun r2 =>
  Option.bind (cmd_Kind n (⟨#[]⟩ : ByteArray)) fun r3 =>
  Option.bind (cmd_Dir n (⟨#[117, 112]⟩ : ByteArray)) fun r4 =>
  Option.bind (cmd_May n (9, 0, 0, 0, 0, ([] : List Int), 0, ([] : List Int), 0, ())) fun r5 =>
  bif (r5.1.1 : Bool) then
    Option.bind (cmd_May n (9, 0, 1, 0, 0, ([] : List Int), 0, ([] : List Int), 0, ())) fun r6 =>
    bif (!(r6.1.1 : Bool)) then
      Option.bind (cmd_May n (1, 3, 0, 0, 0, ([] : List Int), 0, ([] : List Int), 0, ())) fun r7 =>
      bif (r7.1.1 : Bool) then
        Option.bind (cmd_May n (1, 4, 0, 0, 0, ([] : List Int), 0, ([] : List Int), 0, ())) fun r8 =>
        bif (!(r8.1.1 : Bool)) then
          Option.bind (cmd_May n (0, 0, 0, 0, 0, ([] : List Int), 0, ([] : List Int), 0, ())) fun r9 =>
          bif (!(r9.1.1 : Bool)) then
            bif (decide ((r1.1.1 : Int) = 8)) then
              bif (r1.1.2.1 : Bool) then
                bif (decide ((r2.1.1 : Int) = 3)) then
                  bif (r2.1.2.1 : Bool) then
                    bif (!(r3.1.2.1 : Bool)) then
                      bif (!(r4.1.2.1 : Bool)) then
                        Option.bind (cmd_Name n 10) fun r10 =>
                        bif (eqT .str (r10.1.1 : ByteArray) (⟨#[111, 119, 110]⟩ : ByteArray)) then
                          Option.bind (cmd_Way n 0) fun r11 =>
                          bif (eqT .str (r11.1.1 : ByteArray) (⟨#[110, 111, 114, 116, 104]⟩ : ByteArray)) then
                            Option.bind (cmd_Name n 0) fun r12 =>
                            bif (eqT .str (r12.1.1 : ByteArray) (⟨#[]⟩ : ByteArray)) then
                              Option.bind (cmd_Same n (0, 0, 0, 0, 0, ([1] : List Int), 0, ([] : List Int), 0, ()) (0, 0, 0, 0, 0, ([1] : List Int), 0, ([] : List Int), 0, ())) fun r13 =>
                              bif (r13.1.1 : Bool) then
                                Option.bind (cmd_Same n (0, 0, 0, 0, 0, ([1] : List Int), 0, ([] : List Int), 0, ()) (0, 0, 0, 0, 0, ([2] : List Int), 0, ([] : List Int), 0, ())) fun r14 =>
                                some (((!(r14.1.1 : Bool)), ()), [])
                              else
                                some ((false, ()), [])
                            else
                              some ((false, ()), [])
                          else
                            some ((false, ()), [])
                        else
                          some ((false, ()), [])
                      else
                        some ((false, ()), [])
                    else
                      some ((false, ()), [])
                  else
                    some ((false, ()), [])
                else
                  some ((false, ()), [])
              else
                some ((false, ()), [])
            else
              some ((false, ()), [])
          else
            some ((false, ()), [])
        else
          some ((false, ()), [])
      else
        some ((false, ()), [])
    else
      some ((false, ()), [])
  else
    some ((false, ()), []) := by kernel_rfl
def innkeepref03_Few.res : List Sh := [.d .bool]
@[reducible] def innkeepref03_Few.R : Type := dShL [.d .bool] × Fresh
def innkeepref03_Few (n : Nat) (a0 : (den tCmd)) : Option innkeepref03_Few.R := gc n 8 [.dat tCmd a0 []] [.d .bool]
theorem innkeepref03_Few.eq (n : Nat) (a0 : (den tCmd)) : innkeepref03_Few (n + 1) a0 =
  bif (decide (((List.length (a0.2.2.2.2.2.1 : (List Int))) : Int) ≤ 40)) then
    some (((decide (((List.length (a0.2.2.2.2.2.2.2.1 : (List Int))) : Int) ≤ 40)), ()), [])
  else
    some ((false, ()), []) := by kernel_rfl
def innkeepref03_fit.res : List Sh := [.d .bool]
@[reducible] def innkeepref03_fit.R : Type := dShL [.d .bool] × Fresh
def innkeepref03_fit (n : Nat) (a0 : Int) (a1 : Bool) : Option innkeepref03_fit.R := gc n 24 [.dat (.int .i64) a0 [], .dat .bool a1 []] [.d .bool]
theorem innkeepref03_fit.eq (n : Nat) (a0 : Int) (a1 : Bool) : innkeepref03_fit (n + 1) a0 a1 =
  bif (!a1) then
    some (((decide (a0 = 0)), ()), [])
  else
    bif (decide (0 ≤ a0)) then
      some (((decide (a0 ≤ 1073741824)), ()), [])
    else
      some ((false, ()), []) := by kernel_rfl
def innkeepref03_row.res : List Sh := [.d .bool]
@[reducible] def innkeepref03_row.R : Type := dShL [.d .bool] × Fresh
def innkeepref03_row (n : Nat) (a0 : (List Int)) (a1 : Bool) : Option innkeepref03_row.R := gc n 25 [.dat (.sl (.int .i64)) a0 [], .dat .bool a1 []] [.d .bool]
def innkeepref03_row.l0 (n m0 : Nat) (t0 : (List Int)) (t1 : Bool) (t4 : Bool) (t5 : Int) : Option innkeepref03_row.R :=
  loopN (fun Kn K s h => run (gc n) n innkeepref03_row.c10 Kn K s h) m0 (kBlk 0 (kSeq (run (gc n) n) innkeepref03_row.c8 (retK innkeepref03_row.fn innkeepref03_row.res) (retK innkeepref03_row.fn innkeepref03_row.res)) (retK innkeepref03_row.fn innkeepref03_row.res))
    [(0, .dat (.sl (.int .i64)) t0 []), (1, .dat .bool t1 []), (4, .dat .bool t4 []), (5, .dat (.int .i64) t5 [])]
    []
theorem innkeepref03_row.l0_eq (n m0 : Nat) (t0 : (List Int)) (t1 : Bool) (t4 : Bool) (t5 : Int) : innkeepref03_row.l0 n (m0 + 1) t0 t1 t4 t5 =
  bif (decide (t5 < ((List.length t0) : Int))) then
    if (0 : Int) ≤ t5 ∧ t5 < (((List.length t0) : Nat) : Int) then
    Option.bind (innkeepref03_fit n (List.getD t0 (Int.toNat t5) (0 : Int) : Int) true) fun r1 =>
    bif (!(r1.1.1 : Bool)) then
      some ((false, ()), [])
    else
      innkeepref03_row.l0 n m0 t0 t1 t4 (IntKind.wrap .i64 (t5 + 1))
    else none
  else
    some (((decide (((List.length t0) : Int) ≤ 16)), ()), []) := by kernel_rfl
theorem innkeepref03_row.eq (n : Nat) (a0 : (List Int)) (a1 : Bool) : innkeepref03_row (n + 1) a0 a1 =
  bif (!a1) then
    some (((decide (((List.length a0) : Int) = 0)), ()), [])
  else
    innkeepref03_row.l0 n n a0 a1 false 0 := by kernel_rfl
def innkeepref03_May.res : List Sh := [.d .bool]
@[reducible] def innkeepref03_May.R : Type := dShL [.d .bool] × Fresh
def innkeepref03_May (n : Nat) (a0 : (den tCmd)) : Option innkeepref03_May.R := gc n 10 [.dat tCmd a0 []] [.d .bool]
theorem innkeepref03_May.eq (n : Nat) (a0 : (den tCmd)) : innkeepref03_May (n + 1) a0 =
  bif (decide ((a0.1 : Int) < 1)) then
    some ((false, ()), [])
  else
    bif (decide (10 < (a0.1 : Int))) then
      some ((false, ()), [])
    else
      bif (decide ((a0.2.1 : Int) < 0)) then
        some ((false, ()), [])
      else
        bif (decide (3 < (a0.2.1 : Int))) then
          some ((false, ()), [])
        else
          bif (!(decide ((a0.2.1 : Int) = 0))) then
            bif (decide (2 < (a0.1 : Int))) then
              some ((false, ()), [])
            else
              bif (decide (3 ≤ (a0.1 : Int))) then
                Option.bind (innkeepref03_fit n (a0.2.2.1 : Int) (decide ((a0.1 : Int) ≤ 7))) fun r1 =>
                bif (r1.1.1 : Bool) then
                  bif (decide ((a0.1 : Int) = 5)) then
                    Option.bind (innkeepref03_fit n (a0.2.2.2.1 : Int) true) fun r2 =>
                    bif (r2.1.1 : Bool) then
                      bif (decide ((a0.1 : Int) = 2)) then
                        Option.bind (innkeepref03_fit n (a0.2.2.2.2.1 : Int) true) fun r3 =>
                        bif (r3.1.1 : Bool) then
                          Option.bind (innkeepref03_fit n (a0.2.2.2.2.2.2.1 : Int) (decide ((a0.1 : Int) = 8))) fun r4 =>
                          bif (r4.1.1 : Bool) then
                            Option.bind (innkeepref03_fit n (a0.2.2.2.2.2.2.2.2.1 : Int) (decide ((a0.1 : Int) = 8))) fun r5 =>
                            bif (r5.1.1 : Bool) then
                              Option.bind (innkeepref03_row n (a0.2.2.2.2.2.1 : (List Int)) (decide ((a0.1 : Int) = 8))) fun r6 =>
                              bif (r6.1.1 : Bool) then
                                Option.bind (innkeepref03_row n (a0.2.2.2.2.2.2.2.1 : (List Int)) (decide ((a0.1 : Int) = 8))) fun r7 =>
                                some (((r7.1.1 : Bool), ()), [])
                              else
                                some ((false, ()), [])
                            else
                              some ((false, ()), [])
                          else
                            some ((false, ()), [])
                        else
                          some ((false, ()), [])
                      else
                        bif (decide ((a0.1 : Int) = 7)) then
                          Option.bind (innkeepref03_fit n (a0.2.2.2.2.1 : Int) true) fun r8 =>
                          bif (r8.1.1 : Bool) then
                            Option.bind (innkeepref03_fit n (a0.2.2.2.2.2.2.1 : Int) (decide ((a0.1 : Int) = 8))) fun r9 =>
                            bif (r9.1.1 : Bool) then
                              Option.bind (innkeepref03_fit n (a0.2.2.2.2.2.2.2.2.1 : Int) (decide ((a0.1 : Int) = 8))) fun r10 =>
                              bif (r10.1.1 : Bool) then
                                Option.bind (innkeepref03_row n (a0.2.2.2.2.2.1 : (List Int)) (decide ((a0.1 : Int) = 8))) fun r11 =>
                                bif (r11.1.1 : Bool) then
                                  Option.bind (innkeepref03_row n (a0.2.2.2.2.2.2.2.1 : (List Int)) (decide ((a0.1 : Int) = 8))) fun r12 =>
                                  some (((r12.1.1 : Bool), ()), [])
                                else
                                  some ((false, ()), [])
                              else
                                some ((false, ()), [])
                            else
                              some ((false, ()), [])
                          else
                            some ((false, ()), [])
                        else
                          Option.bind (innkeepref03_fit n (a0.2.2.2.2.1 : Int) (decide ((a0.1 : Int) = 8))) fun r13 =>
                          bif (r13.1.1 : Bool) then
                            Option.bind (innkeepref03_fit n (a0.2.2.2.2.2.2.1 : Int) (decide ((a0.1 : Int) = 8))) fun r14 =>
                            bif (r14.1.1 : Bool) then
                              Option.bind (innkeepref03_fit n (a0.2.2.2.2.2.2.2.2.1 : Int) (decide ((a0.1 : Int) = 8))) fun r15 =>
                              bif (r15.1.1 : Bool) then
                                Option.bind (innkeepref03_row n (a0.2.2.2.2.2.1 : (List Int)) (decide ((a0.1 : Int) = 8))) fun r16 =>
                                bif (r16.1.1 : Bool) then
                                  Option.bind (innkeepref03_row n (a0.2.2.2.2.2.2.2.1 : (List Int)) (decide ((a0.1 : Int) = 8))) fun r17 =>
                                  some (((r17.1.1 : Bool), ()), [])
                                else
                                  some ((false, ()), [])
                              else
                                some ((false, ()), [])
                            else
                              some ((false, ()), [])
                          else
                            some ((false, ()), [])
                    else
                      some ((false, ()), [])
                  else
                    Option.bind (innkeepref03_fit n (a0.2.2.2.1 : Int) (decide ((a0.1 : Int) = 6))) fun r18 =>
                    bif (r18.1.1 : Bool) then
                      bif (decide ((a0.1 : Int) = 2)) then
                        Option.bind (innkeepref03_fit n (a0.2.2.2.2.1 : Int) true) fun r19 =>
                        bif (r19.1.1 : Bool) then
                          Option.bind (innkeepref03_fit n (a0.2.2.2.2.2.2.1 : Int) (decide ((a0.1 : Int) = 8))) fun r20 =>
                          bif (r20.1.1 : Bool) then
                            Option.bind (innkeepref03_fit n (a0.2.2.2.2.2.2.2.2.1 : Int) (decide ((a0.1 : Int) = 8))) fun r21 =>
                            bif (r21.1.1 : Bool) then
                              Option.bind (innkeepref03_row n (a0.2.2.2.2.2.1 : (List Int)) (decide ((a0.1 : Int) = 8))) fun r22 =>
                              bif (r22.1.1 : Bool) then
                                Option.bind (innkeepref03_row n (a0.2.2.2.2.2.2.2.1 : (List Int)) (decide ((a0.1 : Int) = 8))) fun r23 =>
                                some (((r23.1.1 : Bool), ()), [])
                              else
                                some ((false, ()), [])
                            else
                              some ((false, ()), [])
                          else
                            some ((false, ()), [])
                        else
                          some ((false, ()), [])
                      else
                        bif (decide ((a0.1 : Int) = 7)) then
                          Option.bind (innkeepref03_fit n (a0.2.2.2.2.1 : Int) true) fun r24 =>
                          bif (r24.1.1 : Bool) then
                            Option.bind (innkeepref03_fit n (a0.2.2.2.2.2.2.1 : Int) (decide ((a0.1 : Int) = 8))) fun r25 =>
                            bif (r25.1.1 : Bool) then
                              Option.bind (innkeepref03_fit n (a0.2.2.2.2.2.2.2.2.1 : Int) (decide ((a0.1 : Int) = 8))) fun r26 =>
                              bif (r26.1.1 : Bool) then
                                Option.bind (innkeepref03_row n (a0.2.2.2.2.2.1 : (List Int)) (decide ((a0.1 : Int) = 8))) fun r27 =>
                                bif (r27.1.1 : Bool) then
                                  Option.bind (innkeepref03_row n (a0.2.2.2.2.2.2.2.1 : (List Int)) (decide ((a0.1 : Int) = 8))) fun r28 =>
                                  some (((r28.1.1 : Bool), ()), [])
                                else
                                  some ((false, ()), [])
                              else
                                some ((false, ()), [])
                            else
                              some ((false, ()), [])
                          else
                            some ((false, ()), [])
                        else
                          Option.bind (innkeepref03_fit n (a0.2.2.2.2.1 : Int) (decide ((a0.1 : Int) = 8))) fun r29 =>
                          bif (r29.1.1 : Bool) then
                            Option.bind (innkeepref03_fit n (a0.2.2.2.2.2.2.1 : Int) (decide ((a0.1 : Int) = 8))) fun r30 =>
                            bif (r30.1.1 : Bool) then
                              Option.bind (innkeepref03_fit n (a0.2.2.2.2.2.2.2.2.1 : Int) (decide ((a0.1 : Int) = 8))) fun r31 =>
                              bif (r31.1.1 : Bool) then
                                Option.bind (innkeepref03_row n (a0.2.2.2.2.2.1 : (List Int)) (decide ((a0.1 : Int) = 8))) fun r32 =>
                                bif (r32.1.1 : Bool) then
                                  Option.bind (innkeepref03_row n (a0.2.2.2.2.2.2.2.1 : (List Int)) (decide ((a0.1 : Int) = 8))) fun r33 =>
                                  some (((r33.1.1 : Bool), ()), [])
                                else
                                  some ((false, ()), [])
                              else
                                some ((false, ()), [])
                            else
                              some ((false, ()), [])
                          else
                            some ((false, ()), [])
                    else
                      some ((false, ()), [])
                else
                  some ((false, ()), [])
              else
                Option.bind (innkeepref03_fit n (a0.2.2.1 : Int) false) fun r34 =>
                bif (r34.1.1 : Bool) then
                  bif (decide ((a0.1 : Int) = 5)) then
                    Option.bind (innkeepref03_fit n (a0.2.2.2.1 : Int) true) fun r35 =>
                    bif (r35.1.1 : Bool) then
                      bif (decide ((a0.1 : Int) = 2)) then
                        Option.bind (innkeepref03_fit n (a0.2.2.2.2.1 : Int) true) fun r36 =>
                        bif (r36.1.1 : Bool) then
                          Option.bind (innkeepref03_fit n (a0.2.2.2.2.2.2.1 : Int) (decide ((a0.1 : Int) = 8))) fun r37 =>
                          bif (r37.1.1 : Bool) then
                            Option.bind (innkeepref03_fit n (a0.2.2.2.2.2.2.2.2.1 : Int) (decide ((a0.1 : Int) = 8))) fun r38 =>
                            bif (r38.1.1 : Bool) then
                              Option.bind (innkeepref03_row n (a0.2.2.2.2.2.1 : (List Int)) (decide ((a0.1 : Int) = 8))) fun r39 =>
                              bif (r39.1.1 : Bool) then
                                Option.bind (innkeepref03_row n (a0.2.2.2.2.2.2.2.1 : (List Int)) (decide ((a0.1 : Int) = 8))) fun r40 =>
                                some (((r40.1.1 : Bool), ()), [])
                              else
                                some ((false, ()), [])
                            else
                              some ((false, ()), [])
                          else
                            some ((false, ()), [])
                        else
                          some ((false, ()), [])
                      else
                        bif (decide ((a0.1 : Int) = 7)) then
                          Option.bind (innkeepref03_fit n (a0.2.2.2.2.1 : Int) true) fun r41 =>
                          bif (r41.1.1 : Bool) then
                            Option.bind (innkeepref03_fit n (a0.2.2.2.2.2.2.1 : Int) (decide ((a0.1 : Int) = 8))) fun r42 =>
                            bif (r42.1.1 : Bool) then
                              Option.bind (innkeepref03_fit n (a0.2.2.2.2.2.2.2.2.1 : Int) (decide ((a0.1 : Int) = 8))) fun r43 =>
                              bif (r43.1.1 : Bool) then
                                Option.bind (innkeepref03_row n (a0.2.2.2.2.2.1 : (List Int)) (decide ((a0.1 : Int) = 8))) fun r44 =>
                                bif (r44.1.1 : Bool) then
                                  Option.bind (innkeepref03_row n (a0.2.2.2.2.2.2.2.1 : (List Int)) (decide ((a0.1 : Int) = 8))) fun r45 =>
                                  some (((r45.1.1 : Bool), ()), [])
                                else
                                  some ((false, ()), [])
                              else
                                some ((false, ()), [])
                            else
                              some ((false, ()), [])
                          else
                            some ((false, ()), [])
                        else
                          Option.bind (innkeepref03_fit n (a0.2.2.2.2.1 : Int) (decide ((a0.1 : Int) = 8))) fun r46 =>
                          bif (r46.1.1 : Bool) then
                            Option.bind (innkeepref03_fit n (a0.2.2.2.2.2.2.1 : Int) (decide ((a0.1 : Int) = 8))) fun r47 =>
                            bif (r47.1.1 : Bool) then
                              Option.bind (innkeepref03_fit n (a0.2.2.2.2.2.2.2.2.1 : Int) (decide ((a0.1 : Int) = 8))) fun r48 =>
                              bif (r48.1.1 : Bool) then
                                Option.bind (innkeepref03_row n (a0.2.2.2.2.2.1 : (List Int)) (decide ((a0.1 : Int) = 8))) fun r49 =>
                                bif (r49.1.1 : Bool) then
                                  Option.bind (innkeepref03_row n (a0.2.2.2.2.2.2.2.1 : (List Int)) (decide ((a0.1 : Int) = 8))) fun r50 =>
                                  some (((r50.1.1 : Bool), ()), [])
                                else
                                  some ((false, ()), [])
                              else
                                some ((false, ()), [])
                            else
                              some ((false, ()), [])
                          else
                            some ((false, ()), [])
                    else
                      some ((false, ()), [])
                  else
                    Option.bind (innkeepref03_fit n (a0.2.2.2.1 : Int) (decide ((a0.1 : Int) = 6))) fun r51 =>
                    bif (r51.1.1 : Bool) then
                      bif (decide ((a0.1 : Int) = 2)) then
                        Option.bind (innkeepref03_fit n (a0.2.2.2.2.1 : Int) true) fun r52 =>
                        bif (r52.1.1 : Bool) then
                          Option.bind (innkeepref03_fit n (a0.2.2.2.2.2.2.1 : Int) (decide ((a0.1 : Int) = 8))) fun r53 =>
                          bif (r53.1.1 : Bool) then
                            Option.bind (innkeepref03_fit n (a0.2.2.2.2.2.2.2.2.1 : Int) (decide ((a0.1 : Int) = 8))) fun r54 =>
                            bif (r54.1.1 : Bool) then
                              Option.bind (innkeepref03_row n (a0.2.2.2.2.2.1 : (List Int)) (decide ((a0.1 : Int) = 8))) fun r55 =>
                              bif (r55.1.1 : Bool) then
                                Option.bind (innkeepref03_row n (a0.2.2.2.2.2.2.2.1 : (List Int)) (decide ((a0.1 : Int) = 8))) fun r56 =>
                                some (((r56.1.1 : Bool), ()), [])
                              else
                                some ((false, ()), [])
                            else
                              some ((false, ()), [])
                          else
                            some ((false, ()), [])
                        else
                          some ((false, ()), [])
                      else
                        bif (decide ((a0.1 : Int) = 7)) then
                          Option.bind (innkeepref03_fit n (a0.2.2.2.2.1 : Int) true) fun r57 =>
                          bif (r57.1.1 : Bool) then
                            Option.bind (innkeepref03_fit n (a0.2.2.2.2.2.2.1 : Int) (decide ((a0.1 : Int) = 8))) fun r58 =>
                            bif (r58.1.1 : Bool) then
                              Option.bind (innkeepref03_fit n (a0.2.2.2.2.2.2.2.2.1 : Int) (decide ((a0.1 : Int) = 8))) fun r59 =>
                              bif (r59.1.1 : Bool) then
                                Option.bind (innkeepref03_row n (a0.2.2.2.2.2.1 : (List Int)) (decide ((a0.1 : Int) = 8))) fun r60 =>
                                bif (r60.1.1 : Bool) then
                                  Option.bind (innkeepref03_row n (a0.2.2.2.2.2.2.2.1 : (List Int)) (decide ((a0.1 : Int) = 8))) fun r61 =>
                                  some (((r61.1.1 : Bool), ()), [])
                                else
                                  some ((false, ()), [])
                              else
                                some ((false, ()), [])
                            else
                              some ((false, ()), [])
                          else
                            some ((false, ()), [])
                        else
                          Option.bind (innkeepref03_fit n (a0.2.2.2.2.1 : Int) (decide ((a0.1 : Int) = 8))) fun r62 =>
                          bif (r62.1.1 : Bool) then
                            Option.bind (innkeepref03_fit n (a0.2.2.2.2.2.2.1 : Int) (decide ((a0.1 : Int) = 8))) fun r63 =>
                            bif (r63.1.1 : Bool) then
                              Option.bind (innkeepref03_fit n (a0.2.2.2.2.2.2.2.2.1 : Int) (decide ((a0.1 : Int) = 8))) fun r64 =>
                              bif (r64.1.1 : Bool) then
                                Option.bind (innkeepref03_row n (a0.2.2.2.2.2.1 : (List Int)) (decide ((a0.1 : Int) = 8))) fun r65 =>
                                bif (r65.1.1 : Bool) then
                                  Option.bind (innkeepref03_row n (a0.2.2.2.2.2.2.2.1 : (List Int)) (decide ((a0.1 : Int) = 8))) fun r66 =>
                                  some (((r66.1.1 : Bool), ()), [])
                                else
                                  some ((false, ()), [])
                              else
                                some ((false, ()), [])
                            else
                              some ((false, ()), [])
                          else
                            some ((false, ()), [])
                    else
                      some ((false, ()), [])
                else
                  some ((false, ()), [])
          else
            bif (decide (3 ≤ (a0.1 : Int))) then
              Option.bind (innkeepref03_fit n (a0.2.2.1 : Int) (decide ((a0.1 : Int) ≤ 7))) fun r67 =>
              bif (r67.1.1 : Bool) then
                bif (decide ((a0.1 : Int) = 5)) then
                  Option.bind (innkeepref03_fit n (a0.2.2.2.1 : Int) true) fun r68 =>
                  bif (r68.1.1 : Bool) then
                    bif (decide ((a0.1 : Int) = 2)) then
                      Option.bind (innkeepref03_fit n (a0.2.2.2.2.1 : Int) true) fun r69 =>
                      bif (r69.1.1 : Bool) then
                        Option.bind (innkeepref03_fit n (a0.2.2.2.2.2.2.1 : Int) (decide ((a0.1 : Int) = 8))) fun r70 =>
                        bif (r70.1.1 : Bool) then
                          Option.bind (innkeepref03_fit n (a0.2.2.2.2.2.2.2.2.1 : Int) (decide ((a0.1 : Int) = 8))) fun r71 =>
                          bif (r71.1.1 : Bool) then
                            Option.bind (innkeepref03_row n (a0.2.2.2.2.2.1 : (List Int)) (decide ((a0.1 : Int) = 8))) fun r72 =>
                            bif (r72.1.1 : Bool) then
                              Option.bind (innkeepref03_row n (a0.2.2.2.2.2.2.2.1 : (List Int)) (decide ((a0.1 : Int) = 8))) fun r73 =>
                              some (((r73.1.1 : Bool), ()), [])
                            else
                              some ((false, ()), [])
                          else
                            some ((false, ()), [])
                        else
                          some ((false, ()), [])
                      else
                        some ((false, ()), [])
                    else
                      bif (decide ((a0.1 : Int) = 7)) then
                        Option.bind (innkeepref03_fit n (a0.2.2.2.2.1 : Int) true) fun r74 =>
                        bif (r74.1.1 : Bool) then
                          Option.bind (innkeepref03_fit n (a0.2.2.2.2.2.2.1 : Int) (decide ((a0.1 : Int) = 8))) fun r75 =>
                          bif (r75.1.1 : Bool) then
                            Option.bind (innkeepref03_fit n (a0.2.2.2.2.2.2.2.2.1 : Int) (decide ((a0.1 : Int) = 8))) fun r76 =>
                            bif (r76.1.1 : Bool) then
                              Option.bind (innkeepref03_row n (a0.2.2.2.2.2.1 : (List Int)) (decide ((a0.1 : Int) = 8))) fun r77 =>
                              bif (r77.1.1 : Bool) then
                                Option.bind (innkeepref03_row n (a0.2.2.2.2.2.2.2.1 : (List Int)) (decide ((a0.1 : Int) = 8))) fun r78 =>
                                some (((r78.1.1 : Bool), ()), [])
                              else
                                some ((false, ()), [])
                            else
                              some ((false, ()), [])
                          else
                            some ((false, ()), [])
                        else
                          some ((false, ()), [])
                      else
                        Option.bind (innkeepref03_fit n (a0.2.2.2.2.1 : Int) (decide ((a0.1 : Int) = 8))) fun r79 =>
                        bif (r79.1.1 : Bool) then
                          Option.bind (innkeepref03_fit n (a0.2.2.2.2.2.2.1 : Int) (decide ((a0.1 : Int) = 8))) fun r80 =>
                          bif (r80.1.1 : Bool) then
                            Option.bind (innkeepref03_fit n (a0.2.2.2.2.2.2.2.2.1 : Int) (decide ((a0.1 : Int) = 8))) fun r81 =>
                            bif (r81.1.1 : Bool) then
                              Option.bind (innkeepref03_row n (a0.2.2.2.2.2.1 : (List Int)) (decide ((a0.1 : Int) = 8))) fun r82 =>
                              bif (r82.1.1 : Bool) then
                                Option.bind (innkeepref03_row n (a0.2.2.2.2.2.2.2.1 : (List Int)) (decide ((a0.1 : Int) = 8))) fun r83 =>
                                some (((r83.1.1 : Bool), ()), [])
                              else
                                some ((false, ()), [])
                            else
                              some ((false, ()), [])
                          else
                            some ((false, ()), [])
                        else
                          some ((false, ()), [])
                  else
                    some ((false, ()), [])
                else
                  Option.bind (innkeepref03_fit n (a0.2.2.2.1 : Int) (decide ((a0.1 : Int) = 6))) fun r84 =>
                  bif (r84.1.1 : Bool) then
                    bif (decide ((a0.1 : Int) = 2)) then
                      Option.bind (innkeepref03_fit n (a0.2.2.2.2.1 : Int) true) fun r85 =>
                      bif (r85.1.1 : Bool) then
                        Option.bind (innkeepref03_fit n (a0.2.2.2.2.2.2.1 : Int) (decide ((a0.1 : Int) = 8))) fun r86 =>
                        bif (r86.1.1 : Bool) then
                          Option.bind (innkeepref03_fit n (a0.2.2.2.2.2.2.2.2.1 : Int) (decide ((a0.1 : Int) = 8))) fun r87 =>
                          bif (r87.1.1 : Bool) then
                            Option.bind (innkeepref03_row n (a0.2.2.2.2.2.1 : (List Int)) (decide ((a0.1 : Int) = 8))) fun r88 =>
                            bif (r88.1.1 : Bool) then
                              Option.bind (innkeepref03_row n (a0.2.2.2.2.2.2.2.1 : (List Int)) (decide ((a0.1 : Int) = 8))) fun r89 =>
                              some (((r89.1.1 : Bool), ()), [])
                            else
                              some ((false, ()), [])
                          else
                            some ((false, ()), [])
                        else
                          some ((false, ()), [])
                      else
                        some ((false, ()), [])
                    else
                      bif (decide ((a0.1 : Int) = 7)) then
                        Option.bind (innkeepref03_fit n (a0.2.2.2.2.1 : Int) true) fun r90 =>
                        bif (r90.1.1 : Bool) then
                          Option.bind (innkeepref03_fit n (a0.2.2.2.2.2.2.1 : Int) (decide ((a0.1 : Int) = 8))) fun r91 =>
                          bif (r91.1.1 : Bool) then
                            Option.bind (innkeepref03_fit n (a0.2.2.2.2.2.2.2.2.1 : Int) (decide ((a0.1 : Int) = 8))) fun r92 =>
                            bif (r92.1.1 : Bool) then
                              Option.bind (innkeepref03_row n (a0.2.2.2.2.2.1 : (List Int)) (decide ((a0.1 : Int) = 8))) fun r93 =>
                              bif (r93.1.1 : Bool) then
                                Option.bind (innkeepref03_row n (a0.2.2.2.2.2.2.2.1 : (List Int)) (decide ((a0.1 : Int) = 8))) fun r94 =>
                                some (((r94.1.1 : Bool), ()), [])
                              else
                                some ((false, ()), [])
                            else
                              some ((false, ()), [])
                          else
                            some ((false, ()), [])
                        else
                          some ((false, ()), [])
                      else
                        Option.bind (innkeepref03_fit n (a0.2.2.2.2.1 : Int) (decide ((a0.1 : Int) = 8))) fun r95 =>
                        bif (r95.1.1 : Bool) then
                          Option.bind (innkeepref03_fit n (a0.2.2.2.2.2.2.1 : Int) (decide ((a0.1 : Int) = 8))) fun r96 =>
                          bif (r96.1.1 : Bool) then
                            Option.bind (innkeepref03_fit n (a0.2.2.2.2.2.2.2.2.1 : Int) (decide ((a0.1 : Int) = 8))) fun r97 =>
                            bif (r97.1.1 : Bool) then
                              Option.bind (innkeepref03_row n (a0.2.2.2.2.2.1 : (List Int)) (decide ((a0.1 : Int) = 8))) fun r98 =>
                              bif (r98.1.1 : Bool) then
                                Option.bind (innkeepref03_row n (a0.2.2.2.2.2.2.2.1 : (List Int)) (decide ((a0.1 : Int) = 8))) fun r99 =>
                                some (((r99.1.1 : Bool), ()), [])
                              else
                                some ((false, ()), [])
                            else
                              some ((false, ()), [])
                          else
                            some ((false, ()), [])
                        else
                          some ((false, ()), [])
                  else
                    some ((false, ()), [])
              else
                some ((false, ()), [])
            else
              Option.bind (innkeepref03_fit n (a0.2.2.1 : Int) false) fun r100 =>
              bif (r100.1.1 : Bool) then
                bif (decide ((a0.1 : Int) = 5)) then
                  Option.bind (innkeepref03_fit n (a0.2.2.2.1 : Int) true) fun r101 =>
                  bif (r101.1.1 : Bool) then
                    bif (decide ((a0.1 : Int) = 2)) then
                      Option.bind (innkeepref03_fit n (a0.2.2.2.2.1 : Int) true) fun r102 =>
                      bif (r102.1.1 : Bool) then
                        Option.bind (innkeepref03_fit n (a0.2.2.2.2.2.2.1 : Int) (decide ((a0.1 : Int) = 8))) fun r103 =>
                        bif (r103.1.1 : Bool) then
                          Option.bind (innkeepref03_fit n (a0.2.2.2.2.2.2.2.2.1 : Int) (decide ((a0.1 : Int) = 8))) fun r104 =>
                          bif (r104.1.1 : Bool) then
                            Option.bind (innkeepref03_row n (a0.2.2.2.2.2.1 : (List Int)) (decide ((a0.1 : Int) = 8))) fun r105 =>
                            bif (r105.1.1 : Bool) then
                              Option.bind (innkeepref03_row n (a0.2.2.2.2.2.2.2.1 : (List Int)) (decide ((a0.1 : Int) = 8))) fun r106 =>
                              some (((r106.1.1 : Bool), ()), [])
                            else
                              some ((false, ()), [])
                          else
                            some ((false, ()), [])
                        else
                          some ((false, ()), [])
                      else
                        some ((false, ()), [])
                    else
                      bif (decide ((a0.1 : Int) = 7)) then
                        Option.bind (innkeepref03_fit n (a0.2.2.2.2.1 : Int) true) fun r107 =>
                        bif (r107.1.1 : Bool) then
                          Option.bind (innkeepref03_fit n (a0.2.2.2.2.2.2.1 : Int) (decide ((a0.1 : Int) = 8))) fun r108 =>
                          bif (r108.1.1 : Bool) then
                            Option.bind (innkeepref03_fit n (a0.2.2.2.2.2.2.2.2.1 : Int) (decide ((a0.1 : Int) = 8))) fun r109 =>
                            bif (r109.1.1 : Bool) then
                              Option.bind (innkeepref03_row n (a0.2.2.2.2.2.1 : (List Int)) (decide ((a0.1 : Int) = 8))) fun r110 =>
                              bif (r110.1.1 : Bool) then
                                Option.bind (innkeepref03_row n (a0.2.2.2.2.2.2.2.1 : (List Int)) (decide ((a0.1 : Int) = 8))) fun r111 =>
                                some (((r111.1.1 : Bool), ()), [])
                              else
                                some ((false, ()), [])
                            else
                              some ((false, ()), [])
                          else
                            some ((false, ()), [])
                        else
                          some ((false, ()), [])
                      else
                        Option.bind (innkeepref03_fit n (a0.2.2.2.2.1 : Int) (decide ((a0.1 : Int) = 8))) fun r112 =>
                        bif (r112.1.1 : Bool) then
                          Option.bind (innkeepref03_fit n (a0.2.2.2.2.2.2.1 : Int) (decide ((a0.1 : Int) = 8))) fun r113 =>
                          bif (r113.1.1 : Bool) then
                            Option.bind (innkeepref03_fit n (a0.2.2.2.2.2.2.2.2.1 : Int) (decide ((a0.1 : Int) = 8))) fun r114 =>
                            bif (r114.1.1 : Bool) then
                              Option.bind (innkeepref03_row n (a0.2.2.2.2.2.1 : (List Int)) (decide ((a0.1 : Int) = 8))) fun r115 =>
                              bif (r115.1.1 : Bool) then
                                Option.bind (innkeepref03_row n (a0.2.2.2.2.2.2.2.1 : (List Int)) (decide ((a0.1 : Int) = 8))) fun r116 =>
                                some (((r116.1.1 : Bool), ()), [])
                              else
                                some ((false, ()), [])
                            else
                              some ((false, ()), [])
                          else
                            some ((false, ()), [])
                        else
                          some ((false, ()), [])
                  else
                    some ((false, ()), [])
                else
                  Option.bind (innkeepref03_fit n (a0.2.2.2.1 : Int) (decide ((a0.1 : Int) = 6))) fun r117 =>
                  bif (r117.1.1 : Bool) then
                    bif (decide ((a0.1 : Int) = 2)) then
                      Option.bind (innkeepref03_fit n (a0.2.2.2.2.1 : Int) true) fun r118 =>
                      bif (r118.1.1 : Bool) then
                        Option.bind (innkeepref03_fit n (a0.2.2.2.2.2.2.1 : Int) (decide ((a0.1 : Int) = 8))) fun r119 =>
                        bif (r119.1.1 : Bool) then
                          Option.bind (innkeepref03_fit n (a0.2.2.2.2.2.2.2.2.1 : Int) (decide ((a0.1 : Int) = 8))) fun r120 =>
                          bif (r120.1.1 : Bool) then
                            Option.bind (innkeepref03_row n (a0.2.2.2.2.2.1 : (List Int)) (decide ((a0.1 : Int) = 8))) fun r121 =>
                            bif (r121.1.1 : Bool) then
                              Option.bind (innkeepref03_row n (a0.2.2.2.2.2.2.2.1 : (List Int)) (decide ((a0.1 : Int) = 8))) fun r122 =>
                              some (((r122.1.1 : Bool), ()), [])
                            else
                              some ((false, ()), [])
                          else
                            some ((false, ()), [])
                        else
                          some ((false, ()), [])
                      else
                        some ((false, ()), [])
                    else
                      bif (decide ((a0.1 : Int) = 7)) then
                        Option.bind (innkeepref03_fit n (a0.2.2.2.2.1 : Int) true) fun r123 =>
                        bif (r123.1.1 : Bool) then
                          Option.bind (innkeepref03_fit n (a0.2.2.2.2.2.2.1 : Int) (decide ((a0.1 : Int) = 8))) fun r124 =>
                          bif (r124.1.1 : Bool) then
                            Option.bind (innkeepref03_fit n (a0.2.2.2.2.2.2.2.2.1 : Int) (decide ((a0.1 : Int) = 8))) fun r125 =>
                            bif (r125.1.1 : Bool) then
                              Option.bind (innkeepref03_row n (a0.2.2.2.2.2.1 : (List Int)) (decide ((a0.1 : Int) = 8))) fun r126 =>
                              bif (r126.1.1 : Bool) then
                                Option.bind (innkeepref03_row n (a0.2.2.2.2.2.2.2.1 : (List Int)) (decide ((a0.1 : Int) = 8))) fun r127 =>
                                some (((r127.1.1 : Bool), ()), [])
                              else
                                some ((false, ()), [])
                            else
                              some ((false, ()), [])
                          else
                            some ((false, ()), [])
                        else
                          some ((false, ()), [])
                      else
                        Option.bind (innkeepref03_fit n (a0.2.2.2.2.1 : Int) (decide ((a0.1 : Int) = 8))) fun r128 =>
                        bif (r128.1.1 : Bool) then
                          Option.bind (innkeepref03_fit n (a0.2.2.2.2.2.2.1 : Int) (decide ((a0.1 : Int) = 8))) fun r129 =>
                          bif (r129.1.1 : Bool) then
                            Option.bind (innkeepref03_fit n (a0.2.2.2.2.2.2.2.2.1 : Int) (decide ((a0.1 : Int) = 8))) fun r130 =>
                            bif (r130.1.1 : Bool) then
                              Option.bind (innkeepref03_row n (a0.2.2.2.2.2.1 : (List Int)) (decide ((a0.1 : Int) = 8))) fun r131 =>
                              bif (r131.1.1 : Bool) then
                                Option.bind (innkeepref03_row n (a0.2.2.2.2.2.2.2.1 : (List Int)) (decide ((a0.1 : Int) = 8))) fun r132 =>
                                some (((r132.1.1 : Bool), ()), [])
                              else
                                some ((false, ()), [])
                            else
                              some ((false, ()), [])
                          else
                            some ((false, ()), [])
                        else
                          some ((false, ()), [])
                  else
                    some ((false, ()), [])
              else
                some ((false, ()), []) := by kernel_rfl
def innkeepref03_Ints.res : List Sh := [.d .bool]
@[reducible] def innkeepref03_Ints.R : Type := dShL [.d .bool] × Fresh
def innkeepref03_Ints (n : Nat) (a0 : (List Int)) (a1 : (List Int)) : Option innkeepref03_Ints.R := gc n 28 [.dat (.sl (.int .i64)) a0 [], .dat (.sl (.int .i64)) a1 []] [.d .bool]
def innkeepref03_Ints.l0 (n m0 : Nat) (t0 : (List Int)) (t1 : (List Int)) (t4 : Bool) (t5 : Int) : Option innkeepref03_Ints.R :=
  loopN (fun Kn K s h => run (gc n) n innkeepref03_Ints.c9 Kn K s h) m0 (kBlk 0 (kSeq (run (gc n) n) innkeepref03_Ints.c7 (retK innkeepref03_Ints.fn innkeepref03_Ints.res) (retK innkeepref03_Ints.fn innkeepref03_Ints.res)) (retK innkeepref03_Ints.fn innkeepref03_Ints.res))
    [(0, .dat (.sl (.int .i64)) t0 []), (1, .dat (.sl (.int .i64)) t1 []), (4, .dat .bool t4 []), (5, .dat (.int .i64) t5 [])]
    []
theorem innkeepref03_Ints.l0_eq (n m0 : Nat) (t0 : (List Int)) (t1 : (List Int)) (t4 : Bool) (t5 : Int) : innkeepref03_Ints.l0 n (m0 + 1) t0 t1 t4 t5 =
  bif (decide (t5 < ((List.length t0) : Int))) then
    if (0 : Int) ≤ t5 ∧ t5 < (((List.length t0) : Nat) : Int) then
    if (0 : Int) ≤ t5 ∧ t5 < (((List.length t1) : Nat) : Int) then
    bif (!(decide ((List.getD t0 (Int.toNat t5) (0 : Int) : Int) = (List.getD t1 (Int.toNat t5) (0 : Int) : Int)))) then
      some ((false, ()), [])
    else
      innkeepref03_Ints.l0 n m0 t0 t1 t4 (IntKind.wrap .i64 (t5 + 1))
    else none
    else none
  else
    some ((true, ()), []) := by kernel_rfl
theorem innkeepref03_Ints.eq (n : Nat) (a0 : (List Int)) (a1 : (List Int)) : innkeepref03_Ints (n + 1) a0 a1 =
  bif (!(decide (((List.length a0) : Int) = ((List.length a1) : Int)))) then
    some ((false, ()), [])
  else
    innkeepref03_Ints.l0 n n a0 a1 false 0 := by kernel_rfl
def innkeepref03_Same.res : List Sh := [.d .bool]
@[reducible] def innkeepref03_Same.R : Type := dShL [.d .bool] × Fresh
def innkeepref03_Same (n : Nat) (a0 : (den tCmd)) (a1 : (den tCmd)) : Option innkeepref03_Same.R := gc n 12 [.dat tCmd a0 [], .dat tCmd a1 []] [.d .bool]
theorem innkeepref03_Same.eq (n : Nat) (a0 : (den tCmd)) (a1 : (den tCmd)) : innkeepref03_Same (n + 1) a0 a1 =
  bif (decide ((a0.1 : Int) = (a1.1 : Int))) then
    bif (decide ((a0.2.1 : Int) = (a1.2.1 : Int))) then
      bif (decide ((a0.2.2.1 : Int) = (a1.2.2.1 : Int))) then
        bif (decide ((a0.2.2.2.1 : Int) = (a1.2.2.2.1 : Int))) then
          bif (decide ((a0.2.2.2.2.1 : Int) = (a1.2.2.2.2.1 : Int))) then
            bif (decide ((a0.2.2.2.2.2.2.1 : Int) = (a1.2.2.2.2.2.2.1 : Int))) then
              bif (decide ((a0.2.2.2.2.2.2.2.2.1 : Int) = (a1.2.2.2.2.2.2.2.2.1 : Int))) then
                Option.bind (innkeepref03_Ints n (a0.2.2.2.2.2.1 : (List Int)) (a1.2.2.2.2.2.1 : (List Int))) fun r1 =>
                bif (r1.1.1 : Bool) then
                  Option.bind (innkeepref03_Ints n (a0.2.2.2.2.2.2.2.1 : (List Int)) (a1.2.2.2.2.2.2.2.1 : (List Int))) fun r2 =>
                  some (((r2.1.1 : Bool), ()), [])
                else
                  some ((false, ()), [])
              else
                some ((false, ()), [])
            else
              some ((false, ()), [])
          else
            some ((false, ()), [])
        else
          some ((false, ()), [])
      else
        some ((false, ()), [])
    else
      some ((false, ()), [])
  else
    some ((false, ()), []) := by kernel_rfl
def innkeeplaw03_CmdMay.res : List Sh := [.d .bool]
@[reducible] def innkeeplaw03_CmdMay.R : Type := dShL [.d .bool] × Fresh
def innkeeplaw03_CmdMay (n : Nat) (a0 : (den tCmd)) (a1 : (den tCmd)) : Option innkeeplaw03_CmdMay.R := gc n 3 [.dat tCmd a0 [], .dat tCmd a1 []] [.d .bool]
theorem innkeeplaw03_CmdMay.eq (n : Nat) (a0 : (den tCmd)) (a1 : (den tCmd)) : innkeeplaw03_CmdMay (n + 1) a0 a1 =
  Option.bind (innkeeplaw03_awake n) fun r1 =>
  bif (!(r1.1.1 : Bool)) then
    Option.bind (innkeeplaw03_awake n) fun r2 =>
    some (((r2.1.1 : Bool), ()), [])
  else
    Option.bind (innkeepref03_Few n a0) fun r3 =>
    bif (!(r3.1.1 : Bool)) then
      Option.bind (innkeeplaw03_awake n) fun r4 =>
      some (((r4.1.1 : Bool), ()), [])
    else
      Option.bind (innkeepref03_Few n a1) fun r5 =>
      bif (!(r5.1.1 : Bool)) then
        Option.bind (innkeeplaw03_awake n) fun r6 =>
        some (((r6.1.1 : Bool), ()), [])
      else
        Option.bind (cmd_May n a0) fun r7 =>
        Option.bind (innkeepref03_May n a0) fun r8 =>
        bif (eqT .bool (r7.1.1 : Bool) (r8.1.1 : Bool)) then
          Option.bind (cmd_Same n a0 a1) fun r9 =>
          Option.bind (innkeepref03_Same n a0 a1) fun r10 =>
          bif (eqT .bool (r9.1.1 : Bool) (r10.1.1 : Bool)) then
            Option.bind (cmd_Same n a0 a0) fun r11 =>
            some (((r11.1.1 : Bool), ()), [])
          else
            some ((false, ()), [])
        else
          some ((false, ()), []) := by kernel_rfl
def innkeepref03_Name.res : List Sh := [.d .str]
@[reducible] def innkeepref03_Name.R : Type := dShL [.d .str] × Fresh
def innkeepref03_Name (n : Nat) (a0 : Int) : Option innkeepref03_Name.R := gc n 18 [.dat (.int .i64) a0 []] [.d .str]
theorem innkeepref03_Name.eq (n : Nat) (a0 : Int) : innkeepref03_Name (n + 1) a0 =
  bif (decide (a0 < 1)) then
    some (((⟨#[]⟩ : ByteArray), ()), [])
  else
    bif (decide (10 < a0)) then
      some (((⟨#[]⟩ : ByteArray), ()), [])
    else
      if (0 : Int) ≤ a0 ∧ a0 < ((11 : Nat) : Int) then
      some (((List.getD ([(⟨#[]⟩ : ByteArray), (⟨#[109, 111, 118, 101]⟩ : ByteArray), (⟨#[112, 117, 115, 104]⟩ : ByteArray), (⟨#[103, 101, 116]⟩ : ByteArray), (⟨#[100, 114, 111, 112]⟩ : ByteArray), (⟨#[112, 117, 116]⟩ : ByteArray), (⟨#[116, 97, 107, 101]⟩ : ByteArray), (⟨#[103, 105, 118, 101]⟩ : ByteArray), (⟨#[116, 114, 97, 100, 101]⟩ : ByteArray), (⟨#[108, 111, 111, 107]⟩ : ByteArray), (⟨#[111, 119, 110]⟩ : ByteArray)] : List ByteArray) (Int.toNat a0) (dft .str) : ByteArray), ()), [])
      else none := by kernel_rfl
def innkeepref03_Kind.res : List Sh := [.d (.int .i64), .d .bool]
@[reducible] def innkeepref03_Kind.R : Type := dShL [.d (.int .i64), .d .bool] × Fresh
def innkeepref03_Kind (n : Nat) (a0 : ByteArray) : Option innkeepref03_Kind.R := gc n 14 [.dat .str a0 []] [.d (.int .i64), .d .bool]
def innkeepref03_Kind.l0 (n m0 : Nat) (t0 : ByteArray) (t2 : Int) (t3 : Bool) (t4 : Int) : Option innkeepref03_Kind.R :=
  loopN (fun Kn K s h => run (gc n) n innkeepref03_Kind.c3 Kn K s h) m0 (kBlk 0 (kSeq (run (gc n) n) innkeepref03_Kind.c1 (retK innkeepref03_Kind.fn innkeepref03_Kind.res) (retK innkeepref03_Kind.fn innkeepref03_Kind.res)) (retK innkeepref03_Kind.fn innkeepref03_Kind.res))
    [(0, .dat .str t0 []), (2, .dat (.int .i64) t2 []), (3, .dat .bool t3 []), (4, .dat (.int .i64) t4 [])]
    []
theorem innkeepref03_Kind.l0_eq (n m0 : Nat) (t0 : ByteArray) (t2 : Int) (t3 : Bool) (t4 : Int) : innkeepref03_Kind.l0 n (m0 + 1) t0 t2 t3 t4 =
  bif (decide (t4 ≤ 10)) then
    Option.bind (innkeepref03_Name n t4) fun r1 =>
    bif (eqT .str (r1.1.1 : ByteArray) t0) then
      some ((t4, true, ()), [])
    else
      innkeepref03_Kind.l0 n m0 t0 t2 t3 (IntKind.wrap .i64 (t4 + 1))
  else
    some ((0, false, ()), []) := by kernel_rfl
theorem innkeepref03_Kind.eq (n : Nat) (a0 : ByteArray) : innkeepref03_Kind (n + 1) a0 =
  innkeepref03_Kind.l0 n n a0 0 false 1 := by kernel_rfl
def innkeepref03_Way.res : List Sh := [.d .str]
@[reducible] def innkeepref03_Way.R : Type := dShL [.d .str] × Fresh
def innkeepref03_Way (n : Nat) (a0 : Int) : Option innkeepref03_Way.R := gc n 20 [.dat (.int .i64) a0 []] [.d .str]
theorem innkeepref03_Way.eq (n : Nat) (a0 : Int) : innkeepref03_Way (n + 1) a0 =
  bif (decide (a0 = 0)) then
    some (((⟨#[110, 111, 114, 116, 104]⟩ : ByteArray), ()), [])
  else
    bif (decide (a0 = 1)) then
      some (((⟨#[101, 97, 115, 116]⟩ : ByteArray), ()), [])
    else
      bif (decide (a0 = 2)) then
        some (((⟨#[115, 111, 117, 116, 104]⟩ : ByteArray), ()), [])
      else
        bif (decide (a0 = 3)) then
          some (((⟨#[119, 101, 115, 116]⟩ : ByteArray), ()), [])
        else
          some (((⟨#[]⟩ : ByteArray), ()), []) := by kernel_rfl
def innkeepref03_Dir.res : List Sh := [.d (.int .i64), .d .bool]
@[reducible] def innkeepref03_Dir.R : Type := dShL [.d (.int .i64), .d .bool] × Fresh
def innkeepref03_Dir (n : Nat) (a0 : ByteArray) : Option innkeepref03_Dir.R := gc n 16 [.dat .str a0 []] [.d (.int .i64), .d .bool]
def innkeepref03_Dir.l0 (n m0 : Nat) (t0 : ByteArray) (t2 : Int) (t3 : Bool) (t4 : Int) : Option innkeepref03_Dir.R :=
  loopN (fun Kn K s h => run (gc n) n innkeepref03_Dir.c3 Kn K s h) m0 (kBlk 0 (kSeq (run (gc n) n) innkeepref03_Dir.c1 (retK innkeepref03_Dir.fn innkeepref03_Dir.res) (retK innkeepref03_Dir.fn innkeepref03_Dir.res)) (retK innkeepref03_Dir.fn innkeepref03_Dir.res))
    [(0, .dat .str t0 []), (2, .dat (.int .i64) t2 []), (3, .dat .bool t3 []), (4, .dat (.int .i64) t4 [])]
    []
theorem innkeepref03_Dir.l0_eq (n m0 : Nat) (t0 : ByteArray) (t2 : Int) (t3 : Bool) (t4 : Int) : innkeepref03_Dir.l0 n (m0 + 1) t0 t2 t3 t4 =
  bif (decide (t4 < 4)) then
    Option.bind (innkeepref03_Way n t4) fun r1 =>
    bif (eqT .str (r1.1.1 : ByteArray) t0) then
      some ((t4, true, ()), [])
    else
      innkeepref03_Dir.l0 n m0 t0 t2 t3 (IntKind.wrap .i64 (t4 + 1))
  else
    some ((0, false, ()), []) := by kernel_rfl
theorem innkeepref03_Dir.eq (n : Nat) (a0 : ByteArray) : innkeepref03_Dir (n + 1) a0 =
  innkeepref03_Dir.l0 n n a0 0 false 0 := by kernel_rfl
def innkeeplaw03_CmdNames.res : List Sh := [.d .bool]
@[reducible] def innkeeplaw03_CmdNames.R : Type := dShL [.d .bool] × Fresh
def innkeeplaw03_CmdNames (n : Nat) (a0 : Int) (a1 : ByteArray) : Option innkeeplaw03_CmdNames.R := gc n 4 [.dat (.int .i64) a0 [], .dat .str a1 []] [.d .bool]
theorem innkeeplaw03_CmdNames.eq (n : Nat) (a0 : Int) (a1 : ByteArray) : innkeeplaw03_CmdNames (n + 1) a0 a1 =
  Option.bind (innkeeplaw03_awake n) fun r1 =>
  bif (!(r1.1.1 : Bool)) then
    Option.bind (innkeeplaw03_awake n) fun r2 =>
    some (((r2.1.1 : Bool), ()), [])
  else
    bif (decide (100 < ((ByteArray.size a1 : Nat) : Int))) then
      Option.bind (innkeeplaw03_awake n) fun r3 =>
      some (((r3.1.1 : Bool), ()), [])
    else
      Option.bind (cmd_Kind n a1) fun r4 =>
      Option.bind (innkeepref03_Kind n a1) fun r5 =>
      Option.bind (cmd_Dir n a1) fun r6 =>
      Option.bind (innkeepref03_Dir n a1) fun r7 =>
      Option.bind (cmd_Name n a0) fun r8 =>
      Option.bind (innkeepref03_Name n a0) fun r9 =>
      bif (!(eqT .str (r8.1.1 : ByteArray) (r9.1.1 : ByteArray))) then
        some ((false, ()), [])
      else
        Option.bind (cmd_Way n a0) fun r10 =>
        Option.bind (innkeepref03_Way n a0) fun r11 =>
        bif (!(eqT .str (r10.1.1 : ByteArray) (r11.1.1 : ByteArray))) then
          some ((false, ()), [])
        else
          bif (!(decide ((r4.1.1 : Int) = (r5.1.1 : Int)))) then
            some ((false, ()), [])
          else
            bif (!(eqT .bool (r4.1.2.1 : Bool) (r5.1.2.1 : Bool))) then
              some ((false, ()), [])
            else
              bif (!(decide ((r6.1.1 : Int) = (r7.1.1 : Int)))) then
                some ((false, ()), [])
              else
                bif (!(eqT .bool (r6.1.2.1 : Bool) (r7.1.2.1 : Bool))) then
                  some ((false, ()), [])
                else
                  bif (!(r4.1.2.1 : Bool)) then
                    bif (!(r6.1.2.1 : Bool)) then
                      some ((true, ()), [])
                    else
                      Option.bind (cmd_Way n (r6.1.1 : Int)) fun r12 =>
                      some (((eqT .str (r12.1.1 : ByteArray) a1), ()), [])
                  else
                    Option.bind (cmd_Name n (r4.1.1 : Int)) fun r13 =>
                    bif (eqT .str (r13.1.1 : ByteArray) a1) then
                      bif (!(r6.1.2.1 : Bool)) then
                        some ((true, ()), [])
                      else
                        Option.bind (cmd_Way n (r6.1.1 : Int)) fun r14 =>
                        some (((eqT .str (r14.1.1 : ByteArray) a1), ()), [])
                    else
                      some ((false, ()), []) := by kernel_rfl
def innkeeplaw03_CmdFields.res : List Sh := [.d .bool]
@[reducible] def innkeeplaw03_CmdFields.R : Type := dShL [.d .bool] × Fresh
def innkeeplaw03_CmdFields (n : Nat) (a0 : (den tCmd)) (a1 : Int) : Option innkeeplaw03_CmdFields.R := gc n 5 [.dat tCmd a0 [], .dat (.int .u32) a1 []] [.d .bool]
def innkeeplaw03_CmdFields.l0 (n m0 : Nat) (t0 : (den tCmd)) (t1 : Int) (t4 : Bool) (t5 : Int) (t9 : Int) (o0 : (den tCmd)) (o1 : (List (den tCmd))) (o2 : (List Bool)) (o3 : (List Int)) : Option innkeeplaw03_CmdFields.R :=
  loopN (fun Kn K s h => run (gc n) n innkeeplaw03_CmdFields.c28 Kn K s h) m0 (kBlk 0 (kSeq (run (gc n) n) innkeeplaw03_CmdFields.c26 (retK innkeeplaw03_CmdFields.fn innkeeplaw03_CmdFields.res) (retK innkeeplaw03_CmdFields.fn innkeeplaw03_CmdFields.res)) (retK innkeeplaw03_CmdFields.fn innkeeplaw03_CmdFields.res))
    [(0, .dat tCmd t0 []), (1, .dat (.int .u32) t1 []), (2, .ptr 0 []), (4, .dat .bool t4 []), (5, .dat (.int .i64) t5 []), (6, .dat (.sl tCmd) ([] : List (den tCmd)) [([], some 1)]), (7, .dat (.sl .bool) ([] : List Bool) [([], some 2)]), (8, .dat (.sl (.int .i64)) ([] : List Int) [([], some 3)]), (9, .dat (.int .i64) t9 [])]
    [.box tCmd o0 [], .arr tCmd o1, .arr .bool o2, .arr (.int .i64) o3]
theorem innkeeplaw03_CmdFields.l0_eq (n m0 : Nat) (t0 : (den tCmd)) (t1 : Int) (t4 : Bool) (t5 : Int) (t9 : Int) (o0 : (den tCmd)) (o1 : (List (den tCmd))) (o2 : (List Bool)) (o3 : (List Int)) : innkeeplaw03_CmdFields.l0 n (m0 + 1) t0 t1 t4 t5 t9 o0 o1 o2 o3 =
  bif (decide (t9 < 5)) then
    if (0 : Int) ≤ t9 ∧ t9 < (((List.length o1) : Nat) : Int) then
    Option.bind (cmd_May n (List.getD o1 (Int.toNat t9) (dft tCmd) : (den tCmd))) fun r7 =>
    if (0 : Int) ≤ t9 ∧ t9 < (((List.length o2) : Nat) : Int) then
    bif (List.getD o2 (Int.toNat t9) false : Bool) then
      bif (!(eqT .bool (r7.1.1 : Bool) true)) then
        some ((false, ()), [])
      else
        if (0 : Int) ≤ t9 ∧ t9 < (((List.length o1) : Nat) : Int) then
        Option.bind (cmd_Same n (List.getD o1 (Int.toNat t9) (dft tCmd) : (den tCmd)) o0) fun r8 =>
        if (0 : Int) ≤ t9 ∧ t9 < (((List.length o3) : Nat) : Int) then
        bif (!(eqT .bool (r8.1.1 : Bool) (decide (t5 = (List.getD o3 (Int.toNat t9) (0 : Int) : Int))))) then
          some ((false, ()), [])
        else
          innkeeplaw03_CmdFields.l0 n m0 t0 t1 t4 t5 (IntKind.wrap .i64 (t9 + 1)) o0 o1 o2 o3
        else none
        else none
    else
      bif (!(eqT .bool (r7.1.1 : Bool) (decide (t5 = 0)))) then
        some ((false, ()), [])
      else
        if (0 : Int) ≤ t9 ∧ t9 < (((List.length o1) : Nat) : Int) then
        Option.bind (cmd_Same n (List.getD o1 (Int.toNat t9) (dft tCmd) : (den tCmd)) o0) fun r9 =>
        if (0 : Int) ≤ t9 ∧ t9 < (((List.length o3) : Nat) : Int) then
        bif (!(eqT .bool (r9.1.1 : Bool) (decide (t5 = (List.getD o3 (Int.toNat t9) (0 : Int) : Int))))) then
          some ((false, ()), [])
        else
          innkeeplaw03_CmdFields.l0 n m0 t0 t1 t4 t5 (IntKind.wrap .i64 (t9 + 1)) o0 o1 o2 o3
        else none
        else none
    else none
    else none
  else
    some ((true, ()), []) := by kernel_rfl
theorem innkeeplaw03_CmdFields.eq (n : Nat) (a0 : (den tCmd)) (a1 : Int) : innkeeplaw03_CmdFields (n + 1) a0 a1 =
  Option.bind (innkeeplaw03_awake n) fun r1 =>
  bif (!(r1.1.1 : Bool)) then
    Option.bind (innkeeplaw03_awake n) fun r2 =>
    some (((r2.1.1 : Bool), ()), [])
  else
    Option.bind (innkeepref03_Few n a0) fun r3 =>
    bif (!(r3.1.1 : Bool)) then
      Option.bind (innkeeplaw03_awake n) fun r4 =>
      some (((r4.1.1 : Bool), ()), [])
    else
      Option.bind (innkeepref03_May n a0) fun r5 =>
      bif (!(r5.1.1 : Bool)) then
        Option.bind (innkeeplaw03_awake n) fun r6 =>
        some (((r6.1.1 : Bool), ()), [])
      else
        bif (decide (3 ≤ (a0.1 : Int))) then
          bif (decide ((a0.1 : Int) = 5)) then
            bif (decide ((a0.1 : Int) = 2)) then
              innkeeplaw03_CmdFields.l0 n n a0 a1 false (IntKind.wrap .i64 ((Int.tmod a1 1073741824))) 0 a0 ([((a0.1 : Int), (a0.2.1 : Int), (IntKind.wrap .i64 ((Int.tmod a1 1073741824))), (a0.2.2.2.1 : Int), (a0.2.2.2.2.1 : Int), (a0.2.2.2.2.2.1 : (List Int)), (a0.2.2.2.2.2.2.1 : Int), (a0.2.2.2.2.2.2.2.1 : (List Int)), (a0.2.2.2.2.2.2.2.2.1 : Int), ()), ((a0.1 : Int), (a0.2.1 : Int), (a0.2.2.1 : Int), (IntKind.wrap .i64 ((Int.tmod a1 1073741824))), (a0.2.2.2.2.1 : Int), (a0.2.2.2.2.2.1 : (List Int)), (a0.2.2.2.2.2.2.1 : Int), (a0.2.2.2.2.2.2.2.1 : (List Int)), (a0.2.2.2.2.2.2.2.2.1 : Int), ()), ((a0.1 : Int), (a0.2.1 : Int), (a0.2.2.1 : Int), (a0.2.2.2.1 : Int), (IntKind.wrap .i64 ((Int.tmod a1 1073741824))), (a0.2.2.2.2.2.1 : (List Int)), (a0.2.2.2.2.2.2.1 : Int), (a0.2.2.2.2.2.2.2.1 : (List Int)), (a0.2.2.2.2.2.2.2.2.1 : Int), ()), ((a0.1 : Int), (a0.2.1 : Int), (a0.2.2.1 : Int), (a0.2.2.2.1 : Int), (a0.2.2.2.2.1 : Int), (a0.2.2.2.2.2.1 : (List Int)), (IntKind.wrap .i64 ((Int.tmod a1 1073741824))), (a0.2.2.2.2.2.2.2.1 : (List Int)), (a0.2.2.2.2.2.2.2.2.1 : Int), ()), ((a0.1 : Int), (a0.2.1 : Int), (a0.2.2.1 : Int), (a0.2.2.2.1 : Int), (a0.2.2.2.2.1 : Int), (a0.2.2.2.2.2.1 : (List Int)), (a0.2.2.2.2.2.2.1 : Int), (a0.2.2.2.2.2.2.2.1 : (List Int)), (IntKind.wrap .i64 ((Int.tmod a1 1073741824))), ())] : List (den tCmd)) ([(decide ((a0.1 : Int) ≤ 7)), true, true, (decide ((a0.1 : Int) = 8)), (decide ((a0.1 : Int) = 8))] : List Bool) ([(a0.2.2.1 : Int), (a0.2.2.2.1 : Int), (a0.2.2.2.2.1 : Int), (a0.2.2.2.2.2.2.1 : Int), (a0.2.2.2.2.2.2.2.2.1 : Int)] : List Int)
            else
              bif (decide ((a0.1 : Int) = 7)) then
                innkeeplaw03_CmdFields.l0 n n a0 a1 false (IntKind.wrap .i64 ((Int.tmod a1 1073741824))) 0 a0 ([((a0.1 : Int), (a0.2.1 : Int), (IntKind.wrap .i64 ((Int.tmod a1 1073741824))), (a0.2.2.2.1 : Int), (a0.2.2.2.2.1 : Int), (a0.2.2.2.2.2.1 : (List Int)), (a0.2.2.2.2.2.2.1 : Int), (a0.2.2.2.2.2.2.2.1 : (List Int)), (a0.2.2.2.2.2.2.2.2.1 : Int), ()), ((a0.1 : Int), (a0.2.1 : Int), (a0.2.2.1 : Int), (IntKind.wrap .i64 ((Int.tmod a1 1073741824))), (a0.2.2.2.2.1 : Int), (a0.2.2.2.2.2.1 : (List Int)), (a0.2.2.2.2.2.2.1 : Int), (a0.2.2.2.2.2.2.2.1 : (List Int)), (a0.2.2.2.2.2.2.2.2.1 : Int), ()), ((a0.1 : Int), (a0.2.1 : Int), (a0.2.2.1 : Int), (a0.2.2.2.1 : Int), (IntKind.wrap .i64 ((Int.tmod a1 1073741824))), (a0.2.2.2.2.2.1 : (List Int)), (a0.2.2.2.2.2.2.1 : Int), (a0.2.2.2.2.2.2.2.1 : (List Int)), (a0.2.2.2.2.2.2.2.2.1 : Int), ()), ((a0.1 : Int), (a0.2.1 : Int), (a0.2.2.1 : Int), (a0.2.2.2.1 : Int), (a0.2.2.2.2.1 : Int), (a0.2.2.2.2.2.1 : (List Int)), (IntKind.wrap .i64 ((Int.tmod a1 1073741824))), (a0.2.2.2.2.2.2.2.1 : (List Int)), (a0.2.2.2.2.2.2.2.2.1 : Int), ()), ((a0.1 : Int), (a0.2.1 : Int), (a0.2.2.1 : Int), (a0.2.2.2.1 : Int), (a0.2.2.2.2.1 : Int), (a0.2.2.2.2.2.1 : (List Int)), (a0.2.2.2.2.2.2.1 : Int), (a0.2.2.2.2.2.2.2.1 : (List Int)), (IntKind.wrap .i64 ((Int.tmod a1 1073741824))), ())] : List (den tCmd)) ([(decide ((a0.1 : Int) ≤ 7)), true, true, (decide ((a0.1 : Int) = 8)), (decide ((a0.1 : Int) = 8))] : List Bool) ([(a0.2.2.1 : Int), (a0.2.2.2.1 : Int), (a0.2.2.2.2.1 : Int), (a0.2.2.2.2.2.2.1 : Int), (a0.2.2.2.2.2.2.2.2.1 : Int)] : List Int)
              else
                innkeeplaw03_CmdFields.l0 n n a0 a1 false (IntKind.wrap .i64 ((Int.tmod a1 1073741824))) 0 a0 ([((a0.1 : Int), (a0.2.1 : Int), (IntKind.wrap .i64 ((Int.tmod a1 1073741824))), (a0.2.2.2.1 : Int), (a0.2.2.2.2.1 : Int), (a0.2.2.2.2.2.1 : (List Int)), (a0.2.2.2.2.2.2.1 : Int), (a0.2.2.2.2.2.2.2.1 : (List Int)), (a0.2.2.2.2.2.2.2.2.1 : Int), ()), ((a0.1 : Int), (a0.2.1 : Int), (a0.2.2.1 : Int), (IntKind.wrap .i64 ((Int.tmod a1 1073741824))), (a0.2.2.2.2.1 : Int), (a0.2.2.2.2.2.1 : (List Int)), (a0.2.2.2.2.2.2.1 : Int), (a0.2.2.2.2.2.2.2.1 : (List Int)), (a0.2.2.2.2.2.2.2.2.1 : Int), ()), ((a0.1 : Int), (a0.2.1 : Int), (a0.2.2.1 : Int), (a0.2.2.2.1 : Int), (IntKind.wrap .i64 ((Int.tmod a1 1073741824))), (a0.2.2.2.2.2.1 : (List Int)), (a0.2.2.2.2.2.2.1 : Int), (a0.2.2.2.2.2.2.2.1 : (List Int)), (a0.2.2.2.2.2.2.2.2.1 : Int), ()), ((a0.1 : Int), (a0.2.1 : Int), (a0.2.2.1 : Int), (a0.2.2.2.1 : Int), (a0.2.2.2.2.1 : Int), (a0.2.2.2.2.2.1 : (List Int)), (IntKind.wrap .i64 ((Int.tmod a1 1073741824))), (a0.2.2.2.2.2.2.2.1 : (List Int)), (a0.2.2.2.2.2.2.2.2.1 : Int), ()), ((a0.1 : Int), (a0.2.1 : Int), (a0.2.2.1 : Int), (a0.2.2.2.1 : Int), (a0.2.2.2.2.1 : Int), (a0.2.2.2.2.2.1 : (List Int)), (a0.2.2.2.2.2.2.1 : Int), (a0.2.2.2.2.2.2.2.1 : (List Int)), (IntKind.wrap .i64 ((Int.tmod a1 1073741824))), ())] : List (den tCmd)) ([(decide ((a0.1 : Int) ≤ 7)), true, (decide ((a0.1 : Int) = 8)), (decide ((a0.1 : Int) = 8)), (decide ((a0.1 : Int) = 8))] : List Bool) ([(a0.2.2.1 : Int), (a0.2.2.2.1 : Int), (a0.2.2.2.2.1 : Int), (a0.2.2.2.2.2.2.1 : Int), (a0.2.2.2.2.2.2.2.2.1 : Int)] : List Int)
          else
            bif (decide ((a0.1 : Int) = 2)) then
              innkeeplaw03_CmdFields.l0 n n a0 a1 false (IntKind.wrap .i64 ((Int.tmod a1 1073741824))) 0 a0 ([((a0.1 : Int), (a0.2.1 : Int), (IntKind.wrap .i64 ((Int.tmod a1 1073741824))), (a0.2.2.2.1 : Int), (a0.2.2.2.2.1 : Int), (a0.2.2.2.2.2.1 : (List Int)), (a0.2.2.2.2.2.2.1 : Int), (a0.2.2.2.2.2.2.2.1 : (List Int)), (a0.2.2.2.2.2.2.2.2.1 : Int), ()), ((a0.1 : Int), (a0.2.1 : Int), (a0.2.2.1 : Int), (IntKind.wrap .i64 ((Int.tmod a1 1073741824))), (a0.2.2.2.2.1 : Int), (a0.2.2.2.2.2.1 : (List Int)), (a0.2.2.2.2.2.2.1 : Int), (a0.2.2.2.2.2.2.2.1 : (List Int)), (a0.2.2.2.2.2.2.2.2.1 : Int), ()), ((a0.1 : Int), (a0.2.1 : Int), (a0.2.2.1 : Int), (a0.2.2.2.1 : Int), (IntKind.wrap .i64 ((Int.tmod a1 1073741824))), (a0.2.2.2.2.2.1 : (List Int)), (a0.2.2.2.2.2.2.1 : Int), (a0.2.2.2.2.2.2.2.1 : (List Int)), (a0.2.2.2.2.2.2.2.2.1 : Int), ()), ((a0.1 : Int), (a0.2.1 : Int), (a0.2.2.1 : Int), (a0.2.2.2.1 : Int), (a0.2.2.2.2.1 : Int), (a0.2.2.2.2.2.1 : (List Int)), (IntKind.wrap .i64 ((Int.tmod a1 1073741824))), (a0.2.2.2.2.2.2.2.1 : (List Int)), (a0.2.2.2.2.2.2.2.2.1 : Int), ()), ((a0.1 : Int), (a0.2.1 : Int), (a0.2.2.1 : Int), (a0.2.2.2.1 : Int), (a0.2.2.2.2.1 : Int), (a0.2.2.2.2.2.1 : (List Int)), (a0.2.2.2.2.2.2.1 : Int), (a0.2.2.2.2.2.2.2.1 : (List Int)), (IntKind.wrap .i64 ((Int.tmod a1 1073741824))), ())] : List (den tCmd)) ([(decide ((a0.1 : Int) ≤ 7)), (decide ((a0.1 : Int) = 6)), true, (decide ((a0.1 : Int) = 8)), (decide ((a0.1 : Int) = 8))] : List Bool) ([(a0.2.2.1 : Int), (a0.2.2.2.1 : Int), (a0.2.2.2.2.1 : Int), (a0.2.2.2.2.2.2.1 : Int), (a0.2.2.2.2.2.2.2.2.1 : Int)] : List Int)
            else
              bif (decide ((a0.1 : Int) = 7)) then
                innkeeplaw03_CmdFields.l0 n n a0 a1 false (IntKind.wrap .i64 ((Int.tmod a1 1073741824))) 0 a0 ([((a0.1 : Int), (a0.2.1 : Int), (IntKind.wrap .i64 ((Int.tmod a1 1073741824))), (a0.2.2.2.1 : Int), (a0.2.2.2.2.1 : Int), (a0.2.2.2.2.2.1 : (List Int)), (a0.2.2.2.2.2.2.1 : Int), (a0.2.2.2.2.2.2.2.1 : (List Int)), (a0.2.2.2.2.2.2.2.2.1 : Int), ()), ((a0.1 : Int), (a0.2.1 : Int), (a0.2.2.1 : Int), (IntKind.wrap .i64 ((Int.tmod a1 1073741824))), (a0.2.2.2.2.1 : Int), (a0.2.2.2.2.2.1 : (List Int)), (a0.2.2.2.2.2.2.1 : Int), (a0.2.2.2.2.2.2.2.1 : (List Int)), (a0.2.2.2.2.2.2.2.2.1 : Int), ()), ((a0.1 : Int), (a0.2.1 : Int), (a0.2.2.1 : Int), (a0.2.2.2.1 : Int), (IntKind.wrap .i64 ((Int.tmod a1 1073741824))), (a0.2.2.2.2.2.1 : (List Int)), (a0.2.2.2.2.2.2.1 : Int), (a0.2.2.2.2.2.2.2.1 : (List Int)), (a0.2.2.2.2.2.2.2.2.1 : Int), ()), ((a0.1 : Int), (a0.2.1 : Int), (a0.2.2.1 : Int), (a0.2.2.2.1 : Int), (a0.2.2.2.2.1 : Int), (a0.2.2.2.2.2.1 : (List Int)), (IntKind.wrap .i64 ((Int.tmod a1 1073741824))), (a0.2.2.2.2.2.2.2.1 : (List Int)), (a0.2.2.2.2.2.2.2.2.1 : Int), ()), ((a0.1 : Int), (a0.2.1 : Int), (a0.2.2.1 : Int), (a0.2.2.2.1 : Int), (a0.2.2.2.2.1 : Int), (a0.2.2.2.2.2.1 : (List Int)), (a0.2.2.2.2.2.2.1 : Int), (a0.2.2.2.2.2.2.2.1 : (List Int)), (IntKind.wrap .i64 ((Int.tmod a1 1073741824))), ())] : List (den tCmd)) ([(decide ((a0.1 : Int) ≤ 7)), (decide ((a0.1 : Int) = 6)), true, (decide ((a0.1 : Int) = 8)), (decide ((a0.1 : Int) = 8))] : List Bool) ([(a0.2.2.1 : Int), (a0.2.2.2.1 : Int), (a0.2.2.2.2.1 : Int), (a0.2.2.2.2.2.2.1 : Int), (a0.2.2.2.2.2.2.2.2.1 : Int)] : List Int)
              else
                innkeeplaw03_CmdFields.l0 n n a0 a1 false (IntKind.wrap .i64 ((Int.tmod a1 1073741824))) 0 a0 ([((a0.1 : Int), (a0.2.1 : Int), (IntKind.wrap .i64 ((Int.tmod a1 1073741824))), (a0.2.2.2.1 : Int), (a0.2.2.2.2.1 : Int), (a0.2.2.2.2.2.1 : (List Int)), (a0.2.2.2.2.2.2.1 : Int), (a0.2.2.2.2.2.2.2.1 : (List Int)), (a0.2.2.2.2.2.2.2.2.1 : Int), ()), ((a0.1 : Int), (a0.2.1 : Int), (a0.2.2.1 : Int), (IntKind.wrap .i64 ((Int.tmod a1 1073741824))), (a0.2.2.2.2.1 : Int), (a0.2.2.2.2.2.1 : (List Int)), (a0.2.2.2.2.2.2.1 : Int), (a0.2.2.2.2.2.2.2.1 : (List Int)), (a0.2.2.2.2.2.2.2.2.1 : Int), ()), ((a0.1 : Int), (a0.2.1 : Int), (a0.2.2.1 : Int), (a0.2.2.2.1 : Int), (IntKind.wrap .i64 ((Int.tmod a1 1073741824))), (a0.2.2.2.2.2.1 : (List Int)), (a0.2.2.2.2.2.2.1 : Int), (a0.2.2.2.2.2.2.2.1 : (List Int)), (a0.2.2.2.2.2.2.2.2.1 : Int), ()), ((a0.1 : Int), (a0.2.1 : Int), (a0.2.2.1 : Int), (a0.2.2.2.1 : Int), (a0.2.2.2.2.1 : Int), (a0.2.2.2.2.2.1 : (List Int)), (IntKind.wrap .i64 ((Int.tmod a1 1073741824))), (a0.2.2.2.2.2.2.2.1 : (List Int)), (a0.2.2.2.2.2.2.2.2.1 : Int), ()), ((a0.1 : Int), (a0.2.1 : Int), (a0.2.2.1 : Int), (a0.2.2.2.1 : Int), (a0.2.2.2.2.1 : Int), (a0.2.2.2.2.2.1 : (List Int)), (a0.2.2.2.2.2.2.1 : Int), (a0.2.2.2.2.2.2.2.1 : (List Int)), (IntKind.wrap .i64 ((Int.tmod a1 1073741824))), ())] : List (den tCmd)) ([(decide ((a0.1 : Int) ≤ 7)), (decide ((a0.1 : Int) = 6)), (decide ((a0.1 : Int) = 8)), (decide ((a0.1 : Int) = 8)), (decide ((a0.1 : Int) = 8))] : List Bool) ([(a0.2.2.1 : Int), (a0.2.2.2.1 : Int), (a0.2.2.2.2.1 : Int), (a0.2.2.2.2.2.2.1 : Int), (a0.2.2.2.2.2.2.2.2.1 : Int)] : List Int)
        else
          bif (decide ((a0.1 : Int) = 5)) then
            bif (decide ((a0.1 : Int) = 2)) then
              innkeeplaw03_CmdFields.l0 n n a0 a1 false (IntKind.wrap .i64 ((Int.tmod a1 1073741824))) 0 a0 ([((a0.1 : Int), (a0.2.1 : Int), (IntKind.wrap .i64 ((Int.tmod a1 1073741824))), (a0.2.2.2.1 : Int), (a0.2.2.2.2.1 : Int), (a0.2.2.2.2.2.1 : (List Int)), (a0.2.2.2.2.2.2.1 : Int), (a0.2.2.2.2.2.2.2.1 : (List Int)), (a0.2.2.2.2.2.2.2.2.1 : Int), ()), ((a0.1 : Int), (a0.2.1 : Int), (a0.2.2.1 : Int), (IntKind.wrap .i64 ((Int.tmod a1 1073741824))), (a0.2.2.2.2.1 : Int), (a0.2.2.2.2.2.1 : (List Int)), (a0.2.2.2.2.2.2.1 : Int), (a0.2.2.2.2.2.2.2.1 : (List Int)), (a0.2.2.2.2.2.2.2.2.1 : Int), ()), ((a0.1 : Int), (a0.2.1 : Int), (a0.2.2.1 : Int), (a0.2.2.2.1 : Int), (IntKind.wrap .i64 ((Int.tmod a1 1073741824))), (a0.2.2.2.2.2.1 : (List Int)), (a0.2.2.2.2.2.2.1 : Int), (a0.2.2.2.2.2.2.2.1 : (List Int)), (a0.2.2.2.2.2.2.2.2.1 : Int), ()), ((a0.1 : Int), (a0.2.1 : Int), (a0.2.2.1 : Int), (a0.2.2.2.1 : Int), (a0.2.2.2.2.1 : Int), (a0.2.2.2.2.2.1 : (List Int)), (IntKind.wrap .i64 ((Int.tmod a1 1073741824))), (a0.2.2.2.2.2.2.2.1 : (List Int)), (a0.2.2.2.2.2.2.2.2.1 : Int), ()), ((a0.1 : Int), (a0.2.1 : Int), (a0.2.2.1 : Int), (a0.2.2.2.1 : Int), (a0.2.2.2.2.1 : Int), (a0.2.2.2.2.2.1 : (List Int)), (a0.2.2.2.2.2.2.1 : Int), (a0.2.2.2.2.2.2.2.1 : (List Int)), (IntKind.wrap .i64 ((Int.tmod a1 1073741824))), ())] : List (den tCmd)) ([false, true, true, (decide ((a0.1 : Int) = 8)), (decide ((a0.1 : Int) = 8))] : List Bool) ([(a0.2.2.1 : Int), (a0.2.2.2.1 : Int), (a0.2.2.2.2.1 : Int), (a0.2.2.2.2.2.2.1 : Int), (a0.2.2.2.2.2.2.2.2.1 : Int)] : List Int)
            else
              bif (decide ((a0.1 : Int) = 7)) then
                innkeeplaw03_CmdFields.l0 n n a0 a1 false (IntKind.wrap .i64 ((Int.tmod a1 1073741824))) 0 a0 ([((a0.1 : Int), (a0.2.1 : Int), (IntKind.wrap .i64 ((Int.tmod a1 1073741824))), (a0.2.2.2.1 : Int), (a0.2.2.2.2.1 : Int), (a0.2.2.2.2.2.1 : (List Int)), (a0.2.2.2.2.2.2.1 : Int), (a0.2.2.2.2.2.2.2.1 : (List Int)), (a0.2.2.2.2.2.2.2.2.1 : Int), ()), ((a0.1 : Int), (a0.2.1 : Int), (a0.2.2.1 : Int), (IntKind.wrap .i64 ((Int.tmod a1 1073741824))), (a0.2.2.2.2.1 : Int), (a0.2.2.2.2.2.1 : (List Int)), (a0.2.2.2.2.2.2.1 : Int), (a0.2.2.2.2.2.2.2.1 : (List Int)), (a0.2.2.2.2.2.2.2.2.1 : Int), ()), ((a0.1 : Int), (a0.2.1 : Int), (a0.2.2.1 : Int), (a0.2.2.2.1 : Int), (IntKind.wrap .i64 ((Int.tmod a1 1073741824))), (a0.2.2.2.2.2.1 : (List Int)), (a0.2.2.2.2.2.2.1 : Int), (a0.2.2.2.2.2.2.2.1 : (List Int)), (a0.2.2.2.2.2.2.2.2.1 : Int), ()), ((a0.1 : Int), (a0.2.1 : Int), (a0.2.2.1 : Int), (a0.2.2.2.1 : Int), (a0.2.2.2.2.1 : Int), (a0.2.2.2.2.2.1 : (List Int)), (IntKind.wrap .i64 ((Int.tmod a1 1073741824))), (a0.2.2.2.2.2.2.2.1 : (List Int)), (a0.2.2.2.2.2.2.2.2.1 : Int), ()), ((a0.1 : Int), (a0.2.1 : Int), (a0.2.2.1 : Int), (a0.2.2.2.1 : Int), (a0.2.2.2.2.1 : Int), (a0.2.2.2.2.2.1 : (List Int)), (a0.2.2.2.2.2.2.1 : Int), (a0.2.2.2.2.2.2.2.1 : (List Int)), (IntKind.wrap .i64 ((Int.tmod a1 1073741824))), ())] : List (den tCmd)) ([false, true, true, (decide ((a0.1 : Int) = 8)), (decide ((a0.1 : Int) = 8))] : List Bool) ([(a0.2.2.1 : Int), (a0.2.2.2.1 : Int), (a0.2.2.2.2.1 : Int), (a0.2.2.2.2.2.2.1 : Int), (a0.2.2.2.2.2.2.2.2.1 : Int)] : List Int)
              else
                innkeeplaw03_CmdFields.l0 n n a0 a1 false (IntKind.wrap .i64 ((Int.tmod a1 1073741824))) 0 a0 ([((a0.1 : Int), (a0.2.1 : Int), (IntKind.wrap .i64 ((Int.tmod a1 1073741824))), (a0.2.2.2.1 : Int), (a0.2.2.2.2.1 : Int), (a0.2.2.2.2.2.1 : (List Int)), (a0.2.2.2.2.2.2.1 : Int), (a0.2.2.2.2.2.2.2.1 : (List Int)), (a0.2.2.2.2.2.2.2.2.1 : Int), ()), ((a0.1 : Int), (a0.2.1 : Int), (a0.2.2.1 : Int), (IntKind.wrap .i64 ((Int.tmod a1 1073741824))), (a0.2.2.2.2.1 : Int), (a0.2.2.2.2.2.1 : (List Int)), (a0.2.2.2.2.2.2.1 : Int), (a0.2.2.2.2.2.2.2.1 : (List Int)), (a0.2.2.2.2.2.2.2.2.1 : Int), ()), ((a0.1 : Int), (a0.2.1 : Int), (a0.2.2.1 : Int), (a0.2.2.2.1 : Int), (IntKind.wrap .i64 ((Int.tmod a1 1073741824))), (a0.2.2.2.2.2.1 : (List Int)), (a0.2.2.2.2.2.2.1 : Int), (a0.2.2.2.2.2.2.2.1 : (List Int)), (a0.2.2.2.2.2.2.2.2.1 : Int), ()), ((a0.1 : Int), (a0.2.1 : Int), (a0.2.2.1 : Int), (a0.2.2.2.1 : Int), (a0.2.2.2.2.1 : Int), (a0.2.2.2.2.2.1 : (List Int)), (IntKind.wrap .i64 ((Int.tmod a1 1073741824))), (a0.2.2.2.2.2.2.2.1 : (List Int)), (a0.2.2.2.2.2.2.2.2.1 : Int), ()), ((a0.1 : Int), (a0.2.1 : Int), (a0.2.2.1 : Int), (a0.2.2.2.1 : Int), (a0.2.2.2.2.1 : Int), (a0.2.2.2.2.2.1 : (List Int)), (a0.2.2.2.2.2.2.1 : Int), (a0.2.2.2.2.2.2.2.1 : (List Int)), (IntKind.wrap .i64 ((Int.tmod a1 1073741824))), ())] : List (den tCmd)) ([false, true, (decide ((a0.1 : Int) = 8)), (decide ((a0.1 : Int) = 8)), (decide ((a0.1 : Int) = 8))] : List Bool) ([(a0.2.2.1 : Int), (a0.2.2.2.1 : Int), (a0.2.2.2.2.1 : Int), (a0.2.2.2.2.2.2.1 : Int), (a0.2.2.2.2.2.2.2.2.1 : Int)] : List Int)
          else
            bif (decide ((a0.1 : Int) = 2)) then
              innkeeplaw03_CmdFields.l0 n n a0 a1 false (IntKind.wrap .i64 ((Int.tmod a1 1073741824))) 0 a0 ([((a0.1 : Int), (a0.2.1 : Int), (IntKind.wrap .i64 ((Int.tmod a1 1073741824))), (a0.2.2.2.1 : Int), (a0.2.2.2.2.1 : Int), (a0.2.2.2.2.2.1 : (List Int)), (a0.2.2.2.2.2.2.1 : Int), (a0.2.2.2.2.2.2.2.1 : (List Int)), (a0.2.2.2.2.2.2.2.2.1 : Int), ()), ((a0.1 : Int), (a0.2.1 : Int), (a0.2.2.1 : Int), (IntKind.wrap .i64 ((Int.tmod a1 1073741824))), (a0.2.2.2.2.1 : Int), (a0.2.2.2.2.2.1 : (List Int)), (a0.2.2.2.2.2.2.1 : Int), (a0.2.2.2.2.2.2.2.1 : (List Int)), (a0.2.2.2.2.2.2.2.2.1 : Int), ()), ((a0.1 : Int), (a0.2.1 : Int), (a0.2.2.1 : Int), (a0.2.2.2.1 : Int), (IntKind.wrap .i64 ((Int.tmod a1 1073741824))), (a0.2.2.2.2.2.1 : (List Int)), (a0.2.2.2.2.2.2.1 : Int), (a0.2.2.2.2.2.2.2.1 : (List Int)), (a0.2.2.2.2.2.2.2.2.1 : Int), ()), ((a0.1 : Int), (a0.2.1 : Int), (a0.2.2.1 : Int), (a0.2.2.2.1 : Int), (a0.2.2.2.2.1 : Int), (a0.2.2.2.2.2.1 : (List Int)), (IntKind.wrap .i64 ((Int.tmod a1 1073741824))), (a0.2.2.2.2.2.2.2.1 : (List Int)), (a0.2.2.2.2.2.2.2.2.1 : Int), ()), ((a0.1 : Int), (a0.2.1 : Int), (a0.2.2.1 : Int), (a0.2.2.2.1 : Int), (a0.2.2.2.2.1 : Int), (a0.2.2.2.2.2.1 : (List Int)), (a0.2.2.2.2.2.2.1 : Int), (a0.2.2.2.2.2.2.2.1 : (List Int)), (IntKind.wrap .i64 ((Int.tmod a1 1073741824))), ())] : List (den tCmd)) ([false, (decide ((a0.1 : Int) = 6)), true, (decide ((a0.1 : Int) = 8)), (decide ((a0.1 : Int) = 8))] : List Bool) ([(a0.2.2.1 : Int), (a0.2.2.2.1 : Int), (a0.2.2.2.2.1 : Int), (a0.2.2.2.2.2.2.1 : Int), (a0.2.2.2.2.2.2.2.2.1 : Int)] : List Int)
            else
              bif (decide ((a0.1 : Int) = 7)) then
                innkeeplaw03_CmdFields.l0 n n a0 a1 false (IntKind.wrap .i64 ((Int.tmod a1 1073741824))) 0 a0 ([((a0.1 : Int), (a0.2.1 : Int), (IntKind.wrap .i64 ((Int.tmod a1 1073741824))), (a0.2.2.2.1 : Int), (a0.2.2.2.2.1 : Int), (a0.2.2.2.2.2.1 : (List Int)), (a0.2.2.2.2.2.2.1 : Int), (a0.2.2.2.2.2.2.2.1 : (List Int)), (a0.2.2.2.2.2.2.2.2.1 : Int), ()), ((a0.1 : Int), (a0.2.1 : Int), (a0.2.2.1 : Int), (IntKind.wrap .i64 ((Int.tmod a1 1073741824))), (a0.2.2.2.2.1 : Int), (a0.2.2.2.2.2.1 : (List Int)), (a0.2.2.2.2.2.2.1 : Int), (a0.2.2.2.2.2.2.2.1 : (List Int)), (a0.2.2.2.2.2.2.2.2.1 : Int), ()), ((a0.1 : Int), (a0.2.1 : Int), (a0.2.2.1 : Int), (a0.2.2.2.1 : Int), (IntKind.wrap .i64 ((Int.tmod a1 1073741824))), (a0.2.2.2.2.2.1 : (List Int)), (a0.2.2.2.2.2.2.1 : Int), (a0.2.2.2.2.2.2.2.1 : (List Int)), (a0.2.2.2.2.2.2.2.2.1 : Int), ()), ((a0.1 : Int), (a0.2.1 : Int), (a0.2.2.1 : Int), (a0.2.2.2.1 : Int), (a0.2.2.2.2.1 : Int), (a0.2.2.2.2.2.1 : (List Int)), (IntKind.wrap .i64 ((Int.tmod a1 1073741824))), (a0.2.2.2.2.2.2.2.1 : (List Int)), (a0.2.2.2.2.2.2.2.2.1 : Int), ()), ((a0.1 : Int), (a0.2.1 : Int), (a0.2.2.1 : Int), (a0.2.2.2.1 : Int), (a0.2.2.2.2.1 : Int), (a0.2.2.2.2.2.1 : (List Int)), (a0.2.2.2.2.2.2.1 : Int), (a0.2.2.2.2.2.2.2.1 : (List Int)), (IntKind.wrap .i64 ((Int.tmod a1 1073741824))), ())] : List (den tCmd)) ([false, (decide ((a0.1 : Int) = 6)), true, (decide ((a0.1 : Int) = 8)), (decide ((a0.1 : Int) = 8))] : List Bool) ([(a0.2.2.1 : Int), (a0.2.2.2.1 : Int), (a0.2.2.2.2.1 : Int), (a0.2.2.2.2.2.2.1 : Int), (a0.2.2.2.2.2.2.2.2.1 : Int)] : List Int)
              else
                innkeeplaw03_CmdFields.l0 n n a0 a1 false (IntKind.wrap .i64 ((Int.tmod a1 1073741824))) 0 a0 ([((a0.1 : Int), (a0.2.1 : Int), (IntKind.wrap .i64 ((Int.tmod a1 1073741824))), (a0.2.2.2.1 : Int), (a0.2.2.2.2.1 : Int), (a0.2.2.2.2.2.1 : (List Int)), (a0.2.2.2.2.2.2.1 : Int), (a0.2.2.2.2.2.2.2.1 : (List Int)), (a0.2.2.2.2.2.2.2.2.1 : Int), ()), ((a0.1 : Int), (a0.2.1 : Int), (a0.2.2.1 : Int), (IntKind.wrap .i64 ((Int.tmod a1 1073741824))), (a0.2.2.2.2.1 : Int), (a0.2.2.2.2.2.1 : (List Int)), (a0.2.2.2.2.2.2.1 : Int), (a0.2.2.2.2.2.2.2.1 : (List Int)), (a0.2.2.2.2.2.2.2.2.1 : Int), ()), ((a0.1 : Int), (a0.2.1 : Int), (a0.2.2.1 : Int), (a0.2.2.2.1 : Int), (IntKind.wrap .i64 ((Int.tmod a1 1073741824))), (a0.2.2.2.2.2.1 : (List Int)), (a0.2.2.2.2.2.2.1 : Int), (a0.2.2.2.2.2.2.2.1 : (List Int)), (a0.2.2.2.2.2.2.2.2.1 : Int), ()), ((a0.1 : Int), (a0.2.1 : Int), (a0.2.2.1 : Int), (a0.2.2.2.1 : Int), (a0.2.2.2.2.1 : Int), (a0.2.2.2.2.2.1 : (List Int)), (IntKind.wrap .i64 ((Int.tmod a1 1073741824))), (a0.2.2.2.2.2.2.2.1 : (List Int)), (a0.2.2.2.2.2.2.2.2.1 : Int), ()), ((a0.1 : Int), (a0.2.1 : Int), (a0.2.2.1 : Int), (a0.2.2.2.1 : Int), (a0.2.2.2.2.1 : Int), (a0.2.2.2.2.2.1 : (List Int)), (a0.2.2.2.2.2.2.1 : Int), (a0.2.2.2.2.2.2.2.1 : (List Int)), (IntKind.wrap .i64 ((Int.tmod a1 1073741824))), ())] : List (den tCmd)) ([false, (decide ((a0.1 : Int) = 6)), (decide ((a0.1 : Int) = 8)), (decide ((a0.1 : Int) = 8)), (decide ((a0.1 : Int) = 8))] : List Bool) ([(a0.2.2.1 : Int), (a0.2.2.2.1 : Int), (a0.2.2.2.2.1 : Int), (a0.2.2.2.2.2.2.1 : Int), (a0.2.2.2.2.2.2.2.2.1 : Int)] : List Int) := by kernel_rfl
def innkeeplaw03_CmdLists.res : List Sh := [.d .bool]
@[reducible] def innkeeplaw03_CmdLists.R : Type := dShL [.d .bool] × Fresh
def innkeeplaw03_CmdLists (n : Nat) (a0 : (den tCmd)) (a1 : Int) : Option innkeeplaw03_CmdLists.R := gc n 6 [.dat tCmd a0 [], .dat (.int .u8) a1 []] [.d .bool]
theorem innkeeplaw03_CmdLists.eq (n : Nat) (a0 : (den tCmd)) (a1 : Int) : innkeeplaw03_CmdLists (n + 1) a0 a1 =
  Option.bind (innkeeplaw03_awake n) fun r1 =>
  bif (!(r1.1.1 : Bool)) then
    Option.bind (innkeeplaw03_awake n) fun r2 =>
    some (((r2.1.1 : Bool), ()), [])
  else
    Option.bind (innkeepref03_Few n a0) fun r3 =>
    bif (!(r3.1.1 : Bool)) then
      Option.bind (innkeeplaw03_awake n) fun r4 =>
      some (((r4.1.1 : Bool), ()), [])
    else
      Option.bind (innkeepref03_May n a0) fun r5 =>
      bif (!(r5.1.1 : Bool)) then
        Option.bind (innkeeplaw03_awake n) fun r6 =>
        some (((r6.1.1 : Bool), ()), [])
      else
        bif (!(decide ((a0.1 : Int) = 8))) then
          Option.bind (innkeeplaw03_awake n) fun r7 =>
          some (((r7.1.1 : Bool), ()), [])
        else
          if 0 + (List.length (a0.2.2.2.2.2.1 : (List Int))) ≤ 1048576 then
          if 0 + (List.length (a0.2.2.2.2.2.2.2.1 : (List Int))) ≤ 1048576 then
          Option.bind (cmd_Same n ((a0.1 : Int), (a0.2.1 : Int), (a0.2.2.1 : Int), (a0.2.2.2.1 : Int), (a0.2.2.2.2.1 : Int), (([] : List Int) ++ (a0.2.2.2.2.2.1 : (List Int))), (a0.2.2.2.2.2.2.1 : Int), (([] : List Int) ++ (a0.2.2.2.2.2.2.2.1 : (List Int))), (a0.2.2.2.2.2.2.2.2.1 : Int), ()) a0) fun r8 =>
          bif (!(r8.1.1 : Bool)) then
            some ((false, ()), [])
          else
            Option.bind (cmd_May n ((a0.1 : Int), (a0.2.1 : Int), (a0.2.2.1 : Int), (a0.2.2.2.1 : Int), (a0.2.2.2.2.1 : Int), (([] : List Int) ++ (a0.2.2.2.2.2.1 : (List Int))), (a0.2.2.2.2.2.2.1 : Int), (([] : List Int) ++ (a0.2.2.2.2.2.2.2.1 : (List Int))), (a0.2.2.2.2.2.2.2.2.1 : Int), ())) fun r9 =>
            bif (!(r9.1.1 : Bool)) then
              some ((false, ()), [])
            else
              Option.bind (cmd_May n ((a0.1 : Int), (a0.2.1 : Int), (a0.2.2.1 : Int), (a0.2.2.2.1 : Int), (a0.2.2.2.2.1 : Int), (List.replicate 16 (0 : Int)), (a0.2.2.2.2.2.2.1 : Int), (a0.2.2.2.2.2.2.2.1 : (List Int)), (a0.2.2.2.2.2.2.2.2.1 : Int), ())) fun r10 =>
              bif (!(r10.1.1 : Bool)) then
                some ((false, ()), [])
              else
                Option.bind (cmd_May n ((a0.1 : Int), (a0.2.1 : Int), (a0.2.2.1 : Int), (a0.2.2.2.1 : Int), (a0.2.2.2.2.1 : Int), (a0.2.2.2.2.2.1 : (List Int)), (a0.2.2.2.2.2.2.1 : Int), (List.replicate 17 (0 : Int)), (a0.2.2.2.2.2.2.2.2.1 : Int), ())) fun r11 =>
                bif (r11.1.1 : Bool) then
                  some ((false, ()), [])
                else
                  bif (decide (((List.length (a0.2.2.2.2.2.1 : (List Int))) : Int) < 2)) then
                    some ((true, ()), [])
                  else
                    if (IntKind.wrap .i64 (((List.length (a0.2.2.2.2.2.1 : (List Int))) : Int) - 1)) = 0 then none else
                    if (0 : Int) ≤ (Int.tmod (IntKind.wrap .i64 (a1)) (IntKind.wrap .i64 (((List.length (a0.2.2.2.2.2.1 : (List Int))) : Int) - 1))) ∧ (Int.tmod (IntKind.wrap .i64 (a1)) (IntKind.wrap .i64 (((List.length (a0.2.2.2.2.2.1 : (List Int))) : Int) - 1))) < (((List.length (([] : List Int) ++ (a0.2.2.2.2.2.1 : (List Int)))) : Nat) : Int) then
                    if (0 : Int) ≤ (IntKind.wrap .i64 ((Int.tmod (IntKind.wrap .i64 (a1)) (IntKind.wrap .i64 (((List.length (a0.2.2.2.2.2.1 : (List Int))) : Int) - 1))) + 1)) ∧ (IntKind.wrap .i64 ((Int.tmod (IntKind.wrap .i64 (a1)) (IntKind.wrap .i64 (((List.length (a0.2.2.2.2.2.1 : (List Int))) : Int) - 1))) + 1)) < (((List.length (([] : List Int) ++ (a0.2.2.2.2.2.1 : (List Int)))) : Nat) : Int) then
                    if (0 : Int) ≤ (Int.tmod (IntKind.wrap .i64 (a1)) (IntKind.wrap .i64 (((List.length (a0.2.2.2.2.2.1 : (List Int))) : Int) - 1))) ∧ (Int.tmod (IntKind.wrap .i64 (a1)) (IntKind.wrap .i64 (((List.length (a0.2.2.2.2.2.1 : (List Int))) : Int) - 1))) < (((List.length (([] : List Int) ++ (a0.2.2.2.2.2.1 : (List Int)))) : Nat) : Int) then
                    if (0 : Int) ≤ (IntKind.wrap .i64 ((Int.tmod (IntKind.wrap .i64 (a1)) (IntKind.wrap .i64 (((List.length (a0.2.2.2.2.2.1 : (List Int))) : Int) - 1))) + 1)) ∧ (IntKind.wrap .i64 ((Int.tmod (IntKind.wrap .i64 (a1)) (IntKind.wrap .i64 (((List.length (a0.2.2.2.2.2.1 : (List Int))) : Int) - 1))) + 1)) < (((List.length (List.set (([] : List Int) ++ (a0.2.2.2.2.2.1 : (List Int))) (Int.toNat (Int.tmod (IntKind.wrap .i64 (a1)) (IntKind.wrap .i64 (((List.length (a0.2.2.2.2.2.1 : (List Int))) : Int) - 1)))) (List.getD (([] : List Int) ++ (a0.2.2.2.2.2.1 : (List Int))) (Int.toNat (IntKind.wrap .i64 ((Int.tmod (IntKind.wrap .i64 (a1)) (IntKind.wrap .i64 (((List.length (a0.2.2.2.2.2.1 : (List Int))) : Int) - 1))) + 1))) (0 : Int) : Int) : (List Int))) : Nat) : Int) then
                    Option.bind (cmd_Same n ((a0.1 : Int), (a0.2.1 : Int), (a0.2.2.1 : Int), (a0.2.2.2.1 : Int), (a0.2.2.2.2.1 : Int), (List.set (List.set (([] : List Int) ++ (a0.2.2.2.2.2.1 : (List Int))) (Int.toNat (Int.tmod (IntKind.wrap .i64 (a1)) (IntKind.wrap .i64 (((List.length (a0.2.2.2.2.2.1 : (List Int))) : Int) - 1)))) (List.getD (([] : List Int) ++ (a0.2.2.2.2.2.1 : (List Int))) (Int.toNat (IntKind.wrap .i64 ((Int.tmod (IntKind.wrap .i64 (a1)) (IntKind.wrap .i64 (((List.length (a0.2.2.2.2.2.1 : (List Int))) : Int) - 1))) + 1))) (0 : Int) : Int) : (List Int)) (Int.toNat (IntKind.wrap .i64 ((Int.tmod (IntKind.wrap .i64 (a1)) (IntKind.wrap .i64 (((List.length (a0.2.2.2.2.2.1 : (List Int))) : Int) - 1))) + 1))) (List.getD (([] : List Int) ++ (a0.2.2.2.2.2.1 : (List Int))) (Int.toNat (Int.tmod (IntKind.wrap .i64 (a1)) (IntKind.wrap .i64 (((List.length (a0.2.2.2.2.2.1 : (List Int))) : Int) - 1)))) (0 : Int) : Int) : (List Int)), (a0.2.2.2.2.2.2.1 : Int), (([] : List Int) ++ (a0.2.2.2.2.2.2.2.1 : (List Int))), (a0.2.2.2.2.2.2.2.2.1 : Int), ()) a0) fun r12 =>
                    if (0 : Int) ≤ (Int.tmod (IntKind.wrap .i64 (a1)) (IntKind.wrap .i64 (((List.length (a0.2.2.2.2.2.1 : (List Int))) : Int) - 1))) ∧ (Int.tmod (IntKind.wrap .i64 (a1)) (IntKind.wrap .i64 (((List.length (a0.2.2.2.2.2.1 : (List Int))) : Int) - 1))) < (((List.length (a0.2.2.2.2.2.1 : (List Int))) : Nat) : Int) then
                    if (0 : Int) ≤ (IntKind.wrap .i64 ((Int.tmod (IntKind.wrap .i64 (a1)) (IntKind.wrap .i64 (((List.length (a0.2.2.2.2.2.1 : (List Int))) : Int) - 1))) + 1)) ∧ (IntKind.wrap .i64 ((Int.tmod (IntKind.wrap .i64 (a1)) (IntKind.wrap .i64 (((List.length (a0.2.2.2.2.2.1 : (List Int))) : Int) - 1))) + 1)) < (((List.length (a0.2.2.2.2.2.1 : (List Int))) : Nat) : Int) then
                    bif (eqT .bool (r12.1.1 : Bool) (decide ((List.getD (a0.2.2.2.2.2.1 : (List Int)) (Int.toNat (Int.tmod (IntKind.wrap .i64 (a1)) (IntKind.wrap .i64 (((List.length (a0.2.2.2.2.2.1 : (List Int))) : Int) - 1)))) (0 : Int) : Int) = (List.getD (a0.2.2.2.2.2.1 : (List Int)) (Int.toNat (IntKind.wrap .i64 ((Int.tmod (IntKind.wrap .i64 (a1)) (IntKind.wrap .i64 (((List.length (a0.2.2.2.2.2.1 : (List Int))) : Int) - 1))) + 1))) (0 : Int) : Int)))) then
                      Option.bind (cmd_May n ((a0.1 : Int), (a0.2.1 : Int), (a0.2.2.1 : Int), (a0.2.2.2.1 : Int), (a0.2.2.2.2.1 : Int), (List.set (List.set (([] : List Int) ++ (a0.2.2.2.2.2.1 : (List Int))) (Int.toNat (Int.tmod (IntKind.wrap .i64 (a1)) (IntKind.wrap .i64 (((List.length (a0.2.2.2.2.2.1 : (List Int))) : Int) - 1)))) (List.getD (([] : List Int) ++ (a0.2.2.2.2.2.1 : (List Int))) (Int.toNat (IntKind.wrap .i64 ((Int.tmod (IntKind.wrap .i64 (a1)) (IntKind.wrap .i64 (((List.length (a0.2.2.2.2.2.1 : (List Int))) : Int) - 1))) + 1))) (0 : Int) : Int) : (List Int)) (Int.toNat (IntKind.wrap .i64 ((Int.tmod (IntKind.wrap .i64 (a1)) (IntKind.wrap .i64 (((List.length (a0.2.2.2.2.2.1 : (List Int))) : Int) - 1))) + 1))) (List.getD (([] : List Int) ++ (a0.2.2.2.2.2.1 : (List Int))) (Int.toNat (Int.tmod (IntKind.wrap .i64 (a1)) (IntKind.wrap .i64 (((List.length (a0.2.2.2.2.2.1 : (List Int))) : Int) - 1)))) (0 : Int) : Int) : (List Int)), (a0.2.2.2.2.2.2.1 : Int), (([] : List Int) ++ (a0.2.2.2.2.2.2.2.1 : (List Int))), (a0.2.2.2.2.2.2.2.2.1 : Int), ())) fun r13 =>
                      some (((r13.1.1 : Bool), ()), [])
                    else
                      some ((false, ()), [])
                    else none
                    else none
                    else none
                    else none
                    else none
                    else none
          else none
          else none := by kernel_rfl
end Go.Proofs.YtapeeipnjpihcaaDoor.Ghost
