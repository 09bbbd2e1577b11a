/- The functions as ghost code. Conditions: none; no statement is proved here. -/
import Derived.Test.YtkjcmjfdkmnikaaA1
set_option linter.unusedVariables false
set_option linter.unusedSimpArgs false
set_option linter.unusedSectionVars false
set_option linter.unnecessarySimpa false
namespace Go.Proofs.Ytkjcmjfdkmnikaa.Ghost
open Go
abbrev tboundsError : Ty := .st [(.int .i64), (.int .i64), .bool, (.int .u8)]
abbrev terrorAddressString : Ty := .st [.str, (.int .u64)]
abbrev tDesc : Ty := .st [(.sl (.arr 4 (.int .i64))), (.sl (.int .i64)), (.sl (.int .i64)), (.sl (.int .i64)), (.sl .bool), (.int .i64), (.int .i64), (.int .i64)]
abbrev tPlace : Ty := .st [(.int .i64), (.int .i64)]
abbrev tWorld : Ty := .st [tDesc, (.sl (.int .i64)), (.sl (.int .i64)), (.sl tPlace)]
def desc_is.c2 : Cd := .tidy [5, 6, 7, 8, 9, 10, 11] [] [] none
def desc_is.c1 : Cd := .ret
def desc_is.c0 : Cd := .seq (.seq (.reg false [⟨some 5, .move (.t 0), none, [], []⟩,
    ⟨some 6, .bin .geq (.t 5) (.c (.int .i64) (0 : Int)), none, [], []⟩,
    ⟨some 7, .move (.t 6), none, [], []⟩,
    ⟨some 8, .move (.t 0), some (7, true), [], []⟩,
    ⟨some 9, .move (.t 1), some (7, true), [], []⟩,
    ⟨some 10, .bin .lss (.t 8) (.t 9), some (7, true), [], []⟩,
    ⟨some 11, .pick (.t 7) (.t 10) (.c .bool false), none, [], []⟩,
    ⟨some 4, .move (.t 11), none, [], []⟩]) (desc_is.c2)) (desc_is.c1)
def desc_is.fn : Fn := ⟨2, [.tmp 4], .seq (.reg false [⟨some 4, .move (.c .bool false), none, [], []⟩]) (desc_is.c0)⟩
def desc_holds.c2 : Cd := .tidy [3, 4] [] [] none
def desc_holds.c1 : Cd := .ret
def desc_holds.c0 : Cd := .seq (.seq (.reg false [⟨some 3, .move (.t 0), none, [], []⟩,
    ⟨some 4, .call (.f 23) [(.t 3), (.c (.int .i64) (65 : Int))] [.d .bool] [] false, none, [], []⟩,
    ⟨some 2, .move (.t 4), none, [], []⟩]) (desc_holds.c2)) (desc_holds.c1)
def desc_holds.fn : Fn := ⟨1, [.tmp 2], .seq (.reg false [⟨some 2, .move (.c .bool false), none, [], []⟩]) (desc_holds.c0)⟩
def desc_May_1.c2 : Cd := .tidy [4, 5, 6] [] [] none
def desc_May_1.c1 : Cd := .ret
def desc_May_1.c0 : Cd := .seq (.seq (.reg false [⟨some 4, .move (.t 0), none, [], []⟩,
    ⟨some 5, .load (.d (.int .i64)) (.t 1), none, [], []⟩,
    ⟨some 6, .call (.f 23) [(.t 4), (.t 5)] [.d .bool] [] false, none, [], []⟩,
    ⟨some 3, .move (.t 6), none, [], []⟩]) (desc_May_1.c2)) (desc_May_1.c1)
def desc_May_1.fn : Fn := ⟨2, [.tmp 3], .seq (.reg false [⟨some 3, .move (.c .bool false), none, [], []⟩]) (desc_May_1.c0)⟩
def desc_May_2_1.c2 : Cd := .tidy [4, 5, 6, 7, 8, 9, 10] [] [] none
def desc_May_2_1.c1 : Cd := .ret
def desc_May_2_1.c0 : Cd := .seq (.seq (.reg false [⟨some 4, .move (.t 0), none, [], []⟩,
    ⟨some 5, .bin .eql (.t 4) (.c (.int .i64) ((-1) : Int)), none, [], []⟩,
    ⟨some 6, .move (.t 5), none, [], []⟩,
    ⟨some 7, .load (.v false 1) (.t 1), some (6, false), [], []⟩,
    ⟨some 8, .move (.t 0), some (6, false), [], []⟩,
    ⟨some 9, .call (.t 7) [(.t 8)] [.d .bool] [] false, some (6, false), [], []⟩,
    ⟨some 10, .pick (.t 6) (.c .bool true) (.t 9), none, [], []⟩,
    ⟨some 3, .move (.t 10), none, [], []⟩]) (desc_May_2_1.c2)) (desc_May_2_1.c1)
def desc_May_2_1.fn : Fn := ⟨2, [.tmp 3], .seq (.reg false [⟨some 3, .move (.c .bool false), none, [], []⟩]) (desc_May_2_1.c0)⟩
def desc_all_int_1.c2 : Cd := .tidy [4, 5, 6, 7] [] [] none
def desc_all_int_1.c1 : Cd := .ret
def desc_all_int_1.c0 : Cd := .seq (.seq (.reg false [⟨some 4, .load (.v false 1) (.t 1), none, [], []⟩,
    ⟨some 5, .move (.t 0), none, [], []⟩,
    ⟨some 6, .call (.t 4) [(.t 5)] [.d .bool] [] false, none, [], []⟩,
    ⟨some 7, .not (.t 6), none, [], []⟩,
    ⟨some 3, .move (.t 7), none, [], []⟩]) (desc_all_int_1.c2)) (desc_all_int_1.c1)
def desc_all_int_1.fn : Fn := ⟨2, [.tmp 3], .seq (.reg false [⟨some 3, .move (.c .bool false), none, [], []⟩]) (desc_all_int_1.c0)⟩
def slices_IndexFunc_sint_int.c3 : Cd := .tidy [6] [] [] none
def slices_IndexFunc_sint_int.c8 : Cd := .skip
def slices_IndexFunc_sint_int.c19 : Cd := .exit 0
def slices_IndexFunc_sint_int.c11 : Cd := .tidy [10] [] [] none
def slices_IndexFunc_sint_int.c13 : Cd := .tidy [11, 12, 13, 14, 15] [] [] none
def slices_IndexFunc_sint_int.c16 : Cd := .tidy [17] [] [] none
def slices_IndexFunc_sint_int.c15 : Cd := .ret
def slices_IndexFunc_sint_int.c14 : Cd := .seq (.seq (.reg false [⟨some 17, .move (.t 5), none, [], []⟩,
    ⟨some 4, .move (.t 17), none, [], []⟩]) (slices_IndexFunc_sint_int.c16)) (slices_IndexFunc_sint_int.c15)
def slices_IndexFunc_sint_int.c17 : Cd := .skip
def slices_IndexFunc_sint_int.c12 : Cd := .cond (.t 16) (.seq (.tidy [16] [] [] none) (slices_IndexFunc_sint_int.c14)) (.seq (.tidy [16] [] [] none) (slices_IndexFunc_sint_int.c17))
def slices_IndexFunc_sint_int.c10 : Cd := .seq (.seq (.reg false [⟨some 11, .move (.t 1), none, [], []⟩,
    ⟨some 12, .move (.t 0), none, [], []⟩,
    ⟨some 13, .move (.t 5), none, [], []⟩,
    ⟨some 14, .index (.sl (.int .i64)) (.t 12) (.t 13), none, [], []⟩,
    ⟨some 15, .load (.d (.int .i64)) (.t 14), none, [], []⟩,
    ⟨some 16, .call (.t 11) [(.t 15)] [.d .bool] [] false, none, [], []⟩]) (slices_IndexFunc_sint_int.c13)) (slices_IndexFunc_sint_int.c12)
def slices_IndexFunc_sint_int.c18 : Cd := .tidy [18] [] [] none
def slices_IndexFunc_sint_int.c9 : Cd := .seq (.reg false [⟨some 18, .bin .add (.t 8) (.c (.int .i64) (1 : Int)), none, [], []⟩,
    ⟨some 8, .move (.t 18), none, [], []⟩]) (slices_IndexFunc_sint_int.c18)
def slices_IndexFunc_sint_int.c7 : Cd := .seq (.block 1 (.seq (.seq (.reg false [⟨some 10, .move (.t 8), none, [], []⟩,
    ⟨some 5, .move (.t 10), none, [], []⟩]) (slices_IndexFunc_sint_int.c11)) (slices_IndexFunc_sint_int.c10))) (slices_IndexFunc_sint_int.c9)
def slices_IndexFunc_sint_int.c6 : Cd := .seq (.cond (.t 9) (.seq (.tidy [9] [] [] none) (slices_IndexFunc_sint_int.c8)) (.seq (.tidy [9] [] [] none) (slices_IndexFunc_sint_int.c19))) (slices_IndexFunc_sint_int.c7)
def slices_IndexFunc_sint_int.c5 : Cd := .tidy [5] [] [] (some 0)
def slices_IndexFunc_sint_int.c4 : Cd := .seq (.seq (.reg false [⟨some 9, .bin .lss (.t 8) (.t 7), none, [], []⟩]) (slices_IndexFunc_sint_int.c6)) (slices_IndexFunc_sint_int.c5)
def slices_IndexFunc_sint_int.c2 : Cd := .block 0 (.loop (slices_IndexFunc_sint_int.c4))
def slices_IndexFunc_sint_int.c20 : Cd := .ret
def slices_IndexFunc_sint_int.c1 : Cd := .seq (.reg false [⟨some 4, .move (.c (.int .i64) ((-1) : Int)), none, [], []⟩]) (slices_IndexFunc_sint_int.c20)
def slices_IndexFunc_sint_int.c0 : Cd := .seq (.seq (.seq (.reg false [⟨some 6, .move (.t 0), none, [], []⟩,
    ⟨some 7, .len (.t 6), none, [], []⟩,
    ⟨some 8, .move (.c (.int .i64) (0 : Int)), none, [], []⟩]) (slices_IndexFunc_sint_int.c3)) (slices_IndexFunc_sint_int.c2)) (slices_IndexFunc_sint_int.c1)
def slices_IndexFunc_sint_int.fn : Fn := ⟨2, [.tmp 4], .seq (.reg false [⟨some 4, .move (.c (.int .i64) (0 : Int)), none, [], []⟩]) (slices_IndexFunc_sint_int.c0)⟩
def slices_ContainsFunc_sint_int.c2 : Cd := .tidy [5, 6, 7, 8] [] [] none
def slices_ContainsFunc_sint_int.c1 : Cd := .ret
def slices_ContainsFunc_sint_int.c0 : Cd := .seq (.seq (.reg false [⟨some 5, .move (.t 0), none, [], []⟩,
    ⟨some 6, .move (.t 1), none, [], []⟩,
    ⟨some 7, .call (.f 53) [(.t 5), (.t 6)] [.d (.int .i64)] [] false, none, [], []⟩,
    ⟨some 8, .bin .geq (.t 7) (.c (.int .i64) (0 : Int)), none, [], []⟩,
    ⟨some 4, .move (.t 8), none, [], []⟩]) (slices_ContainsFunc_sint_int.c2)) (slices_ContainsFunc_sint_int.c1)
def slices_ContainsFunc_sint_int.fn : Fn := ⟨2, [.tmp 4], .seq (.reg false [⟨some 4, .move (.c .bool false), none, [], []⟩]) (slices_ContainsFunc_sint_int.c0)⟩
def desc_all_int.c2 : Cd := .tidy [5, 6, 7, 8] [] [] none
def desc_all_int.c1 : Cd := .ret
def desc_all_int.c0 : Cd := .seq (.seq (.reg false [⟨some 5, .move (.t 0), none, [], []⟩,
    ⟨some 6, .func 46 [(.t 3)], none, [], []⟩,
    ⟨some 7, .call (.f 45) [(.t 5), (.t 6)] [.d .bool] [] false, none, [], []⟩,
    ⟨some 8, .not (.t 7), none, [], []⟩,
    ⟨some 4, .move (.t 8), none, [], []⟩]) (desc_all_int.c2)) (desc_all_int.c1)
def desc_all_int.fn : Fn := ⟨2, [.tmp 4], .seq (.reg false [⟨some 3, .box 0 (.t 1), none, [], []⟩,
    ⟨some 4, .move (.c .bool false), none, [], []⟩]) (desc_all_int.c0)⟩
def desc_May_2.c2 : Cd := .tidy [4, 5, 6] [] [] none
def desc_May_2.c1 : Cd := .ret
def desc_May_2.c0 : Cd := .seq (.seq (.reg false [⟨some 4, .slicearr 4 (.int .i64) (.t 2), none, [], []⟩,
    ⟨some 5, .func 26 [(.t 1)], none, [], []⟩,
    ⟨some 6, .call (.f 25) [(.t 4), (.t 5)] [.d .bool] [] false, none, [], []⟩,
    ⟨some 3, .move (.t 6), none, [], []⟩]) (desc_May_2.c2)) (desc_May_2.c1)
def desc_May_2.fn : Fn := ⟨2, [.tmp 3], .seq (.reg false [⟨some 2, .box 0 (.t 0), none, [], []⟩,
    ⟨some 3, .move (.c .bool false), none, [], []⟩]) (desc_May_2.c0)⟩
def desc_all_a4int_1.c2 : Cd := .tidy [4, 5, 6, 7] [] [] none
def desc_all_a4int_1.c1 : Cd := .ret
def desc_all_a4int_1.c0 : Cd := .seq (.seq (.reg false [⟨some 4, .load (.v false 1) (.t 1), none, [], []⟩,
    ⟨some 5, .load (.d (.arr 4 (.int .i64))) (.t 2), none, [], []⟩,
    ⟨some 6, .call (.t 4) [(.t 5)] [.d .bool] [] false, none, [], []⟩,
    ⟨some 7, .not (.t 6), none, [], []⟩,
    ⟨some 3, .move (.t 7), none, [], []⟩]) (desc_all_a4int_1.c2)) (desc_all_a4int_1.c1)
def desc_all_a4int_1.fn : Fn := ⟨2, [.tmp 3], .seq (.reg false [⟨some 2, .box 0 (.t 0), none, [], []⟩,
    ⟨some 3, .move (.c .bool false), none, [], []⟩]) (desc_all_a4int_1.c0)⟩
def slices_IndexFunc_sa4int_a4int.c3 : Cd := .tidy [6] [] [] none
def slices_IndexFunc_sa4int_a4int.c8 : Cd := .skip
def slices_IndexFunc_sa4int_a4int.c19 : Cd := .exit 0
def slices_IndexFunc_sa4int_a4int.c11 : Cd := .tidy [10] [] [] none
def slices_IndexFunc_sa4int_a4int.c13 : Cd := .tidy [11, 12, 13, 14, 15] [] [] none
def slices_IndexFunc_sa4int_a4int.c16 : Cd := .tidy [17] [] [] none
def slices_IndexFunc_sa4int_a4int.c15 : Cd := .ret
def slices_IndexFunc_sa4int_a4int.c14 : Cd := .seq (.seq (.reg false [⟨some 17, .move (.t 5), none, [], []⟩,
    ⟨some 4, .move (.t 17), none, [], []⟩]) (slices_IndexFunc_sa4int_a4int.c16)) (slices_IndexFunc_sa4int_a4int.c15)
def slices_IndexFunc_sa4int_a4int.c17 : Cd := .skip
def slices_IndexFunc_sa4int_a4int.c12 : Cd := .cond (.t 16) (.seq (.tidy [16] [] [] none) (slices_IndexFunc_sa4int_a4int.c14)) (.seq (.tidy [16] [] [] none) (slices_IndexFunc_sa4int_a4int.c17))
def slices_IndexFunc_sa4int_a4int.c10 : Cd := .seq (.seq (.reg false [⟨some 11, .move (.t 1), none, [], []⟩,
    ⟨some 12, .move (.t 0), none, [], []⟩,
    ⟨some 13, .move (.t 5), none, [], []⟩,
    ⟨some 14, .index (.sl (.arr 4 (.int .i64))) (.t 12) (.t 13), none, [], []⟩,
    ⟨some 15, .load (.d (.arr 4 (.int .i64))) (.t 14), none, [], []⟩,
    ⟨some 16, .call (.t 11) [(.t 15)] [.d .bool] [] false, none, [], []⟩]) (slices_IndexFunc_sa4int_a4int.c13)) (slices_IndexFunc_sa4int_a4int.c12)
def slices_IndexFunc_sa4int_a4int.c18 : Cd := .tidy [18] [] [] none
def slices_IndexFunc_sa4int_a4int.c9 : Cd := .seq (.reg false [⟨some 18, .bin .add (.t 8) (.c (.int .i64) (1 : Int)), none, [], []⟩,
    ⟨some 8, .move (.t 18), none, [], []⟩]) (slices_IndexFunc_sa4int_a4int.c18)
def slices_IndexFunc_sa4int_a4int.c7 : Cd := .seq (.block 1 (.seq (.seq (.reg false [⟨some 10, .move (.t 8), none, [], []⟩,
    ⟨some 5, .move (.t 10), none, [], []⟩]) (slices_IndexFunc_sa4int_a4int.c11)) (slices_IndexFunc_sa4int_a4int.c10))) (slices_IndexFunc_sa4int_a4int.c9)
def slices_IndexFunc_sa4int_a4int.c6 : Cd := .seq (.cond (.t 9) (.seq (.tidy [9] [] [] none) (slices_IndexFunc_sa4int_a4int.c8)) (.seq (.tidy [9] [] [] none) (slices_IndexFunc_sa4int_a4int.c19))) (slices_IndexFunc_sa4int_a4int.c7)
def slices_IndexFunc_sa4int_a4int.c5 : Cd := .tidy [5] [] [] (some 0)
def slices_IndexFunc_sa4int_a4int.c4 : Cd := .seq (.seq (.reg false [⟨some 9, .bin .lss (.t 8) (.t 7), none, [], []⟩]) (slices_IndexFunc_sa4int_a4int.c6)) (slices_IndexFunc_sa4int_a4int.c5)
def slices_IndexFunc_sa4int_a4int.c2 : Cd := .block 0 (.loop (slices_IndexFunc_sa4int_a4int.c4))
def slices_IndexFunc_sa4int_a4int.c20 : Cd := .ret
def slices_IndexFunc_sa4int_a4int.c1 : Cd := .seq (.reg false [⟨some 4, .move (.c (.int .i64) ((-1) : Int)), none, [], []⟩]) (slices_IndexFunc_sa4int_a4int.c20)
def slices_IndexFunc_sa4int_a4int.c0 : Cd := .seq (.seq (.seq (.reg false [⟨some 6, .move (.t 0), none, [], []⟩,
    ⟨some 7, .len (.t 6), none, [], []⟩,
    ⟨some 8, .move (.c (.int .i64) (0 : Int)), none, [], []⟩]) (slices_IndexFunc_sa4int_a4int.c3)) (slices_IndexFunc_sa4int_a4int.c2)) (slices_IndexFunc_sa4int_a4int.c1)
def slices_IndexFunc_sa4int_a4int.fn : Fn := ⟨2, [.tmp 4], .seq (.reg false [⟨some 4, .move (.c (.int .i64) (0 : Int)), none, [], []⟩]) (slices_IndexFunc_sa4int_a4int.c0)⟩
def slices_ContainsFunc_sa4int_a4int.c2 : Cd := .tidy [5, 6, 7, 8] [] [] none
def slices_ContainsFunc_sa4int_a4int.c1 : Cd := .ret
def slices_ContainsFunc_sa4int_a4int.c0 : Cd := .seq (.seq (.reg false [⟨some 5, .move (.t 0), none, [], []⟩,
    ⟨some 6, .move (.t 1), none, [], []⟩,
    ⟨some 7, .call (.f 54) [(.t 5), (.t 6)] [.d (.int .i64)] [] false, none, [], []⟩,
    ⟨some 8, .bin .geq (.t 7) (.c (.int .i64) (0 : Int)), none, [], []⟩,
    ⟨some 4, .move (.t 8), none, [], []⟩]) (slices_ContainsFunc_sa4int_a4int.c2)) (slices_ContainsFunc_sa4int_a4int.c1)
def slices_ContainsFunc_sa4int_a4int.fn : Fn := ⟨2, [.tmp 4], .seq (.reg false [⟨some 4, .move (.c .bool false), none, [], []⟩]) (slices_ContainsFunc_sa4int_a4int.c0)⟩
def desc_all_a4int.c2 : Cd := .tidy [5, 6, 7, 8] [] [] none
def desc_all_a4int.c1 : Cd := .ret
def desc_all_a4int.c0 : Cd := .seq (.seq (.reg false [⟨some 5, .move (.t 0), none, [], []⟩,
    ⟨some 6, .func 48 [(.t 3)], none, [], []⟩,
    ⟨some 7, .call (.f 47) [(.t 5), (.t 6)] [.d .bool] [] false, none, [], []⟩,
    ⟨some 8, .not (.t 7), none, [], []⟩,
    ⟨some 4, .move (.t 8), none, [], []⟩]) (desc_all_a4int.c2)) (desc_all_a4int.c1)
def desc_all_a4int.fn : Fn := ⟨2, [.tmp 4], .seq (.reg false [⟨some 3, .box 0 (.t 1), none, [], []⟩,
    ⟨some 4, .move (.c .bool false), none, [], []⟩]) (desc_all_a4int.c0)⟩
def coin_Is.c2 : Cd := .tidy [3, 4, 5, 6, 7, 8] [] [] none
def coin_Is.c1 : Cd := .ret
def coin_Is.c0 : Cd := .seq (.seq (.reg false [⟨some 3, .move (.t 0), none, [], []⟩,
    ⟨some 4, .bin .geq (.t 3) (.c (.int .i64) (0 : Int)), none, [], []⟩,
    ⟨some 5, .move (.t 4), none, [], []⟩,
    ⟨some 6, .move (.t 0), some (5, true), [], []⟩,
    ⟨some 7, .bin .leq (.t 6) (.c (.int .i64) (1073741824 : Int)), some (5, true), [], []⟩,
    ⟨some 8, .pick (.t 5) (.t 7) (.c .bool false), none, [], []⟩,
    ⟨some 2, .move (.t 8), none, [], []⟩]) (coin_Is.c2)) (coin_Is.c1)
def coin_Is.fn : Fn := ⟨1, [.tmp 2], .seq (.reg false [⟨some 2, .move (.c .bool false), none, [], []⟩]) (coin_Is.c0)⟩
def desc_May_3.c2 : Cd := .tidy [4, 5, 6, 7] [] [] none
def desc_May_3.c1 : Cd := .ret
def desc_May_3.c0 : Cd := .seq (.seq (.reg false [⟨some 4, .move (.t 0), none, [], []⟩,
    ⟨some 5, .fieldAddr (.d tDesc) 5 (.t 1), none, [], []⟩,
    ⟨some 6, .load (.d (.int .i64)) (.t 5), none, [], []⟩,
    ⟨some 7, .bin .leq (.t 4) (.t 6), none, [], []⟩,
    ⟨some 3, .move (.t 7), none, [], []⟩]) (desc_May_3.c2)) (desc_May_3.c1)
def desc_May_3.fn : Fn := ⟨2, [.tmp 3], .seq (.reg false [⟨some 3, .move (.c .bool false), none, [], []⟩]) (desc_May_3.c0)⟩
def desc_May.c2 : Cd := .tidy [9, 10, 11] [] [] none
def desc_May.c4 : Cd := .tidy [12] [] [] none
def desc_May.c6 : Cd := .tidy [13] [] [] none
def desc_May.c9 : Cd := .tidy [14, 15, 16, 17, 18, 19, 20, 21, 22, 23, 24, 25, 26, 27, 28, 29, 30, 31, 32, 33, 34, 35, 36] [] [] none
def desc_May.c11 : Cd := .ret
def desc_May.c10 : Cd := .seq (.reg false [⟨some 2, .move (.c .bool false), none, [], []⟩]) (desc_May.c11)
def desc_May.c12 : Cd := .skip
def desc_May.c8 : Cd := .cond (.t 37) (.seq (.tidy [37] [] [] none) (desc_May.c10)) (.seq (.tidy [37] [] [] none) (desc_May.c12))
def desc_May.c15 : Cd := .tidy [38, 39, 40, 41, 42, 43, 44, 45, 46, 47, 48, 49, 50, 51, 52, 53, 54, 55, 56, 57, 58, 59, 60, 61, 62, 63, 64, 65, 66, 67, 68, 69, 70] [] [] none
def desc_May.c17 : Cd := .ret
def desc_May.c16 : Cd := .seq (.reg false [⟨some 2, .move (.c .bool false), none, [], []⟩]) (desc_May.c17)
def desc_May.c18 : Cd := .skip
def desc_May.c14 : Cd := .cond (.t 71) (.seq (.tidy [71] [] [] none) (desc_May.c16)) (.seq (.tidy [71] [] [] none) (desc_May.c18))
def desc_May.c21 : Cd := .tidy [72, 73, 74, 75, 76, 77, 78, 79, 80, 81, 82, 83, 84, 85, 86, 87, 88, 89, 90, 91, 92, 93, 94, 95] [] [] none
def desc_May.c23 : Cd := .ret
def desc_May.c22 : Cd := .seq (.reg false [⟨some 2, .move (.c .bool false), none, [], []⟩]) (desc_May.c23)
def desc_May.c24 : Cd := .skip
def desc_May.c20 : Cd := .cond (.t 96) (.seq (.tidy [96] [] [] none) (desc_May.c22)) (.seq (.tidy [96] [] [] none) (desc_May.c24))
def desc_May.c26 : Cd := .tidy [97, 98] [] [] none
def desc_May.c29 : Cd := .tidy [99] [] [] none
def desc_May.c34 : Cd := .skip
def desc_May.c40 : Cd := .exit 0
def desc_May.c37 : Cd := .tidy [104, 105] [] [] none
def desc_May.c38 : Cd := .tidy [106, 107, 108, 109, 110, 111] [] [] none
def desc_May.c36 : Cd := .seq (.reg false [⟨some 106, .move (.t 6), none, [], []⟩,
    ⟨some 107, .move (.t 8), none, [], []⟩,
    ⟨some 108, .index (.sl (.int .i64)) (.t 106) (.t 107), none, [], []⟩,
    ⟨some 109, .load (.d (.int .i64)) (.t 108), none, [], []⟩,
    ⟨some 110, .bin .add (.t 109) (.c (.int .i64) (1 : Int)), none, [], []⟩,
    ⟨some 111, .index (.sl (.int .i64)) (.t 106) (.t 107), none, [], []⟩,
    ⟨none, .store (.d (.int .i64)) (.t 111) (.t 110), none, [], []⟩]) (desc_May.c38)
def desc_May.c39 : Cd := .tidy [112] [] [] none
def desc_May.c35 : Cd := .seq (.reg false [⟨some 112, .bin .add (.t 102) (.c (.int .i64) (1 : Int)), none, [], []⟩,
    ⟨some 102, .move (.t 112), none, [], []⟩]) (desc_May.c39)
def desc_May.c33 : Cd := .seq (.block 1 (.seq (.seq (.reg false [⟨some 104, .index (.sl (.int .i64)) (.t 100) (.t 102), none, [], []⟩,
    ⟨some 105, .load (.d (.int .i64)) (.t 104), none, [], []⟩,
    ⟨some 8, .move (.t 105), none, [], []⟩]) (desc_May.c37)) (desc_May.c36))) (desc_May.c35)
def desc_May.c32 : Cd := .seq (.cond (.t 103) (.seq (.tidy [103] [] [] none) (desc_May.c34)) (.seq (.tidy [103] [] [] none) (desc_May.c40))) (desc_May.c33)
def desc_May.c31 : Cd := .tidy [8] [] [] (some 4)
def desc_May.c30 : Cd := .seq (.seq (.reg false [⟨some 103, .bin .lss (.t 102) (.t 101), none, [], []⟩]) (desc_May.c32)) (desc_May.c31)
def desc_May.c28 : Cd := .block 0 (.loop (desc_May.c30))
def desc_May.c42 : Cd := .tidy [113, 114, 115] [] [] none
def desc_May.c41 : Cd := .ret
def desc_May.c27 : Cd := .seq (.seq (.reg false [⟨some 113, .move (.t 6), none, [], []⟩,
    ⟨some 114, .func 30 [(.t 1)], none, [], []⟩,
    ⟨some 115, .call (.f 25) [(.t 113), (.t 114)] [.d .bool] [] false, none, [], []⟩,
    ⟨some 2, .move (.t 115), none, [], []⟩]) (desc_May.c42)) (desc_May.c41)
def desc_May.c25 : Cd := .seq (.seq (.seq (.reg false [⟨some 99, .fieldAddr (.d tDesc) 3 (.t 1), none, [], []⟩,
    ⟨some 100, .load (.d (.sl (.int .i64))) (.t 99), none, [], []⟩,
    ⟨some 101, .len (.t 100), none, [], []⟩,
    ⟨some 102, .move (.c (.int .i64) (0 : Int)), none, [], []⟩]) (desc_May.c29)) (desc_May.c28)) (desc_May.c27)
def desc_May.c19 : Cd := .seq (.seq (.reg false [⟨some 97, .load (.d (.int .i64)) (.t 3), none, [], []⟩,
    ⟨some 98, .make 3 (.int .i64) (.t 97), none, [], []⟩,
    ⟨some 6, .move (.t 98), none, [], []⟩]) (desc_May.c26)) (desc_May.c25)
def desc_May.c13 : Cd := .seq (.seq (.seq (.reg false [⟨some 72, .fieldAddr (.d tDesc) 0 (.t 1), none, [], []⟩,
    ⟨some 73, .load (.d (.sl (.arr 4 (.int .i64)))) (.t 72), none, [], []⟩,
    ⟨some 74, .move (.t 5), none, [], []⟩,
    ⟨some 75, .call (.f 28) [(.t 73), (.t 74)] [.d .bool] [] false, none, [], []⟩,
    ⟨some 76, .not (.t 75), none, [], []⟩,
    ⟨some 77, .move (.t 76), none, [], []⟩,
    ⟨some 78, .fieldAddr (.d tDesc) 1 (.t 1), some (77, false), [], []⟩,
    ⟨some 79, .load (.d (.sl (.int .i64))) (.t 78), some (77, false), [], []⟩,
    ⟨some 80, .load (.v false 1) (.t 4), some (77, false), [], []⟩,
    ⟨some 81, .call (.f 25) [(.t 79), (.t 80)] [.d .bool] [] false, some (77, false), [], []⟩,
    ⟨some 82, .not (.t 81), some (77, false), [], []⟩,
    ⟨some 83, .pick (.t 77) (.c .bool true) (.t 82), none, [], []⟩,
    ⟨some 84, .move (.t 83), none, [], []⟩,
    ⟨some 85, .fieldAddr (.d tDesc) 3 (.t 1), some (84, false), [], []⟩,
    ⟨some 86, .load (.d (.sl (.int .i64))) (.t 85), some (84, false), [], []⟩,
    ⟨some 87, .load (.v false 1) (.t 4), some (84, false), [], []⟩,
    ⟨some 88, .call (.f 25) [(.t 86), (.t 87)] [.d .bool] [] false, some (84, false), [], []⟩,
    ⟨some 89, .not (.t 88), some (84, false), [], []⟩,
    ⟨some 90, .pick (.t 84) (.c .bool true) (.t 89), none, [], []⟩,
    ⟨some 91, .move (.t 90), none, [], []⟩,
    ⟨some 92, .fieldAddr (.d tDesc) 2 (.t 1), some (91, false), [], []⟩,
    ⟨some 93, .load (.d (.sl (.int .i64))) (.t 92), some (91, false), [], []⟩,
    ⟨some 94, .call (.f 25) [(.t 93), (.f 29)] [.d .bool] [] false, some (91, false), [], []⟩,
    ⟨some 95, .not (.t 94), some (91, false), [], []⟩,
    ⟨some 96, .pick (.t 91) (.c .bool true) (.t 95), none, [], []⟩]) (desc_May.c21)) (desc_May.c20)) (desc_May.c19)
def desc_May.c7 : Cd := .seq (.seq (.seq (.reg false [⟨some 38, .fieldAddr (.d tDesc) 2 (.t 1), none, [], []⟩,
    ⟨some 39, .load (.d (.sl (.int .i64))) (.t 38), none, [], []⟩,
    ⟨some 40, .len (.t 39), none, [], []⟩,
    ⟨some 41, .fieldAddr (.d tDesc) 1 (.t 1), none, [], []⟩,
    ⟨some 42, .load (.d (.sl (.int .i64))) (.t 41), none, [], []⟩,
    ⟨some 43, .len (.t 42), none, [], []⟩,
    ⟨some 44, .bin .neq (.t 40) (.t 43), none, [], []⟩,
    ⟨some 45, .move (.t 44), none, [], []⟩,
    ⟨some 46, .fieldAddr (.d tDesc) 4 (.t 1), some (45, false), [], []⟩,
    ⟨some 47, .load (.d (.sl .bool)) (.t 46), some (45, false), [], []⟩,
    ⟨some 48, .len (.t 47), some (45, false), [], []⟩,
    ⟨some 49, .fieldAddr (.d tDesc) 3 (.t 1), some (45, false), [], []⟩,
    ⟨some 50, .load (.d (.sl (.int .i64))) (.t 49), some (45, false), [], []⟩,
    ⟨some 51, .len (.t 50), some (45, false), [], []⟩,
    ⟨some 52, .bin .neq (.t 48) (.t 51), some (45, false), [], []⟩,
    ⟨some 53, .pick (.t 45) (.c .bool true) (.t 52), none, [], []⟩,
    ⟨some 54, .move (.t 53), none, [], []⟩,
    ⟨some 55, .fieldAddr (.d tDesc) 5 (.t 1), some (54, false), [], []⟩,
    ⟨some 56, .load (.d (.int .i64)) (.t 55), some (54, false), [], []⟩,
    ⟨some 57, .call (.f 27) [(.t 56)] [.d .bool] [] false, some (54, false), [], []⟩,
    ⟨some 58, .not (.t 57), some (54, false), [], []⟩,
    ⟨some 59, .pick (.t 54) (.c .bool true) (.t 58), none, [], []⟩,
    ⟨some 60, .move (.t 59), none, [], []⟩,
    ⟨some 61, .fieldAddr (.d tDesc) 6 (.t 1), some (60, false), [], []⟩,
    ⟨some 62, .load (.d (.int .i64)) (.t 61), some (60, false), [], []⟩,
    ⟨some 63, .call (.f 27) [(.t 62)] [.d .bool] [] false, some (60, false), [], []⟩,
    ⟨some 64, .not (.t 63), some (60, false), [], []⟩,
    ⟨some 65, .pick (.t 60) (.c .bool true) (.t 64), none, [], []⟩,
    ⟨some 66, .move (.t 65), none, [], []⟩,
    ⟨some 67, .fieldAddr (.d tDesc) 7 (.t 1), some (66, false), [], []⟩,
    ⟨some 68, .load (.d (.int .i64)) (.t 67), some (66, false), [], []⟩,
    ⟨some 69, .call (.f 27) [(.t 68)] [.d .bool] [] false, some (66, false), [], []⟩,
    ⟨some 70, .not (.t 69), some (66, false), [], []⟩,
    ⟨some 71, .pick (.t 66) (.c .bool true) (.t 70), none, [], []⟩]) (desc_May.c15)) (desc_May.c14)) (desc_May.c13)
def desc_May.c5 : Cd := .seq (.seq (.seq (.reg false [⟨some 14, .load (.d (.int .i64)) (.t 3), none, [], []⟩,
    ⟨some 15, .bin .lss (.t 14) (.c (.int .i64) (1 : Int)), none, [], []⟩,
    ⟨some 16, .move (.t 15), none, [], []⟩,
    ⟨some 17, .load (.d (.int .i64)) (.t 3), some (16, false), [], []⟩,
    ⟨some 18, .bin .gtr (.t 17) (.c (.int .i64) (8 : Int)), some (16, false), [], []⟩,
    ⟨some 19, .pick (.t 16) (.c .bool true) (.t 18), none, [], []⟩,
    ⟨some 20, .move (.t 19), none, [], []⟩,
    ⟨some 21, .fieldAddr (.d tDesc) 1 (.t 1), some (20, false), [], []⟩,
    ⟨some 22, .load (.d (.sl (.int .i64))) (.t 21), some (20, false), [], []⟩,
    ⟨some 23, .len (.t 22), some (20, false), [], []⟩,
    ⟨some 24, .bin .lss (.t 23) (.c (.int .i64) (1 : Int)), some (20, false), [], []⟩,
    ⟨some 25, .pick (.t 20) (.c .bool true) (.t 24), none, [], []⟩,
    ⟨some 26, .move (.t 25), none, [], []⟩,
    ⟨some 27, .fieldAddr (.d tDesc) 1 (.t 1), some (26, false), [], []⟩,
    ⟨some 28, .load (.d (.sl (.int .i64))) (.t 27), some (26, false), [], []⟩,
    ⟨some 29, .len (.t 28), some (26, false), [], []⟩,
    ⟨some 30, .bin .gtr (.t 29) (.c (.int .i64) (6 : Int)), some (26, false), [], []⟩,
    ⟨some 31, .pick (.t 26) (.c .bool true) (.t 30), none, [], []⟩,
    ⟨some 32, .move (.t 31), none, [], []⟩,
    ⟨some 33, .fieldAddr (.d tDesc) 3 (.t 1), some (32, false), [], []⟩,
    ⟨some 34, .load (.d (.sl (.int .i64))) (.t 33), some (32, false), [], []⟩,
    ⟨some 35, .len (.t 34), some (32, false), [], []⟩,
    ⟨some 36, .bin .gtr (.t 35) (.c (.int .i64) (16 : Int)), some (32, false), [], []⟩,
    ⟨some 37, .pick (.t 32) (.c .bool true) (.t 36), none, [], []⟩]) (desc_May.c9)) (desc_May.c8)) (desc_May.c7)
def desc_May.c3 : Cd := .seq (.seq (.reg false [⟨some 13, .func 24 [(.t 4)], none, [], []⟩,
    ⟨some 5, .move (.t 13), none, [], []⟩]) (desc_May.c6)) (desc_May.c5)
def desc_May.c1 : Cd := .seq (.seq (.reg false [⟨some 12, .func 22 [(.t 3)], none, [], []⟩,
    ⟨some 4, .newboxv 2 (.nilfn), none, [], []⟩,
    ⟨none, .store (.v false 1) (.t 4) (.t 12), none, [], []⟩]) (desc_May.c4)) (desc_May.c3)
def desc_May.c0 : Cd := .seq (.seq (.reg false [⟨some 9, .fieldAddr (.d tDesc) 0 (.t 1), none, [], []⟩,
    ⟨some 10, .load (.d (.sl (.arr 4 (.int .i64)))) (.t 9), none, [], []⟩,
    ⟨some 11, .len (.t 10), none, [], []⟩,
    ⟨some 3, .newbox 1 (.int .i64) [], none, [], []⟩,
    ⟨none, .store (.d (.int .i64)) (.t 3) (.t 11), none, [], []⟩]) (desc_May.c2)) (desc_May.c1)
def desc_May.fn : Fn := ⟨1, [.tmp 2], .seq (.reg false [⟨some 1, .box 0 (.t 0), none, [], []⟩,
    ⟨some 2, .move (.c .bool false), none, [], []⟩]) (desc_May.c0)⟩
def desc_New.c3 : Cd := .tidy [7, 8] [] [] none
def desc_New.c6 : Cd := .tidy [10] [] [] none
def desc_New.c5 : Cd := .ret
def desc_New.c4 : Cd := .seq (.seq (.reg false [⟨some 10, .build tWorld [] [([1], 6), ([2], 7), ([3], 8)], none, [], []⟩,
    ⟨none, .store (.d tWorld) (.t 2) (.t 10), none, [], []⟩,
    ⟨some 3, .move (.c (.int .i64) (1 : Int)), none, [], []⟩]) (desc_New.c6)) (desc_New.c5)
def desc_New.c7 : Cd := .skip
def desc_New.c2 : Cd := .cond (.t 9) (.seq (.tidy [9] [] [] none) (desc_New.c4)) (.seq (.tidy [9] [] [] none) (desc_New.c7))
def desc_New.c9 : Cd := .tidy [11, 12, 13, 14, 15, 16, 17, 18] [] [] none
def desc_New.c12 : Cd := .tidy [19] [] [] none
def desc_New.c17 : Cd := .skip
def desc_New.c23 : Cd := .exit 0
def desc_New.c20 : Cd := .tidy [24, 25] [] [] none
def desc_New.c21 : Cd := .tidy [26, 27, 28, 29, 30, 31, 32] [] [] none
def desc_New.c19 : Cd := .seq (.reg false [⟨some 26, .fieldAddr (.d tWorld) 3 (.t 4), none, [], []⟩,
    ⟨some 27, .load (.d (.sl tPlace)) (.t 26), none, [], []⟩,
    ⟨some 28, .move (.t 6), none, [], []⟩,
    ⟨some 29, .build tPlace [(0, (.c (.int .i64) (0 : Int))), (1, (.t 28))] [], none, [], []⟩,
    ⟨some 30, .slice 3 tPlace [(.t 29)], none, [], []⟩,
    ⟨some 31, .append 4 tPlace (.t 27) (.t 30), none, [], []⟩,
    ⟨some 32, .fieldAddr (.d tWorld) 3 (.t 4), none, [], []⟩,
    ⟨none, .store (.d (.sl tPlace)) (.t 32) (.t 31), none, [], []⟩]) (desc_New.c21)
def desc_New.c22 : Cd := .tidy [33] [] [] none
def desc_New.c18 : Cd := .seq (.reg false [⟨some 33, .bin .add (.t 22) (.c (.int .i64) (1 : Int)), none, [], []⟩,
    ⟨some 22, .move (.t 33), none, [], []⟩]) (desc_New.c22)
def desc_New.c16 : Cd := .seq (.block 1 (.seq (.seq (.reg false [⟨some 24, .index (.sl (.int .i64)) (.t 20) (.t 22), none, [], []⟩,
    ⟨some 25, .load (.d (.int .i64)) (.t 24), none, [], []⟩,
    ⟨some 6, .move (.t 25), none, [], []⟩]) (desc_New.c20)) (desc_New.c19))) (desc_New.c18)
def desc_New.c15 : Cd := .seq (.cond (.t 23) (.seq (.tidy [23] [] [] none) (desc_New.c17)) (.seq (.tidy [23] [] [] none) (desc_New.c23))) (desc_New.c16)
def desc_New.c14 : Cd := .tidy [6] [(4, 5)] [3] (some 11)
def desc_New.c13 : Cd := .seq (.seq (.reg false [⟨some 23, .bin .lss (.t 22) (.t 21), none, [], []⟩]) (desc_New.c15)) (desc_New.c14)
def desc_New.c11 : Cd := .block 0 (.loop (desc_New.c13))
def desc_New.c25 : Cd := .tidy [34] [] [] none
def desc_New.c24 : Cd := .ret
def desc_New.c10 : Cd := .seq (.seq (.reg false [⟨some 34, .load (.d tWorld) (.t 4), none, [], []⟩,
    ⟨none, .store (.d tWorld) (.t 2) (.t 34), none, [], []⟩,
    ⟨some 3, .move (.c (.int .i64) (0 : Int)), none, [], []⟩]) (desc_New.c25)) (desc_New.c24)
def desc_New.c8 : Cd := .seq (.seq (.seq (.reg false [⟨some 19, .fieldAddr (.d tDesc) 3 (.t 1), none, [], []⟩,
    ⟨some 20, .load (.d (.sl (.int .i64))) (.t 19), none, [], []⟩,
    ⟨some 21, .len (.t 20), none, [], []⟩,
    ⟨some 22, .move (.c (.int .i64) (0 : Int)), none, [], []⟩]) (desc_New.c12)) (desc_New.c11)) (desc_New.c10)
def desc_New.c1 : Cd := .seq (.seq (.reg true [⟨some 11, .load (.d tDesc) (.t 1), none, [0], []⟩,
    ⟨some 12, .fieldAddr (.d tDesc) 1 (.t 1), none, [0], []⟩,
    ⟨some 13, .load (.d (.sl (.int .i64))) (.t 12), none, [0], []⟩,
    ⟨some 14, .call (.f 21) [(.t 13)] [.d (.sl (.int .i64))] [((0, []), 9)] false, none, [], [9]⟩,
    ⟨some 15, .fieldAddr (.d tDesc) 2 (.t 1), none, [0], []⟩,
    ⟨some 16, .load (.d (.sl (.int .i64))) (.t 15), none, [0], []⟩,
    ⟨some 17, .call (.f 21) [(.t 16)] [.d (.sl (.int .i64))] [((0, []), 10)] false, none, [], [10]⟩,
    ⟨some 18, .build tWorld [(0, (.t 11)), (1, (.t 14)), (2, (.t 17))] [([3], 5)], none, [], [5]⟩,
    ⟨some 4, .newbox 2 tWorld [], none, [], [2]⟩,
    ⟨none, .store (.d tWorld) (.t 4) (.t 18), none, [], [2]⟩]) (desc_New.c9)) (desc_New.c8)
def desc_New.c0 : Cd := .seq (.seq (.seq (.reg false [⟨some 7, .load (.d tDesc) (.t 1), none, [], []⟩,
    ⟨some 8, .call (.f 11) [(.t 7)] [.d .bool] [] false, none, [], []⟩,
    ⟨some 9, .not (.t 8), none, [], []⟩]) (desc_New.c3)) (desc_New.c2)) (desc_New.c1)
def desc_New.fn : Fn := ⟨1, [.cell 2 (.d tWorld), .tmp 3], .seq (.reg false [⟨some 1, .box 0 (.t 0), none, [], []⟩,
    ⟨some 2, .newbox 1 tWorld [], none, [], []⟩,
    ⟨some 3, .move (.c (.int .i64) (0 : Int)), none, [], []⟩]) (desc_New.c0)⟩
def desc_Copy.c2 : Cd := .tidy [3, 4, 5, 6, 7, 8, 9, 10, 11, 12, 13, 14] [] [] none
def desc_Copy.c4 : Cd := .tidy [15] [] [] none
def desc_Copy.c3 : Cd := .ret
def desc_Copy.c1 : Cd := .seq (.seq (.reg false [⟨some 15, .load (.d tWorld) (.t 1), none, [], []⟩,
    ⟨none, .store (.d tWorld) (.t 2) (.t 15), none, [], []⟩]) (desc_Copy.c4)) (desc_Copy.c3)
def desc_Copy.c0 : Cd := .seq (.seq (.reg true [⟨some 3, .fieldAddr (.d tWorld) 1 (.t 1), none, [0], []⟩,
    ⟨some 4, .load (.d (.sl (.int .i64))) (.t 3), none, [0], []⟩,
    ⟨some 5, .call (.f 21) [(.t 4)] [.d (.sl (.int .i64))] [((0, []), 2)] false, none, [], [2]⟩,
    ⟨some 6, .fieldAddr (.d tWorld) 2 (.t 1), none, [0], []⟩,
    ⟨some 7, .load (.d (.sl (.int .i64))) (.t 6), none, [0], []⟩,
    ⟨some 8, .call (.f 21) [(.t 7)] [.d (.sl (.int .i64))] [((0, []), 3)] false, none, [], [3]⟩,
    ⟨some 9, .fieldAddr (.d tWorld) 3 (.t 1), none, [0], []⟩,
    ⟨some 10, .load (.d (.sl tPlace)) (.t 9), none, [0], []⟩,
    ⟨some 11, .call (.f 44) [(.t 10)] [.d (.sl tPlace)] [((0, []), 4)] false, none, [], [4]⟩,
    ⟨some 12, .fieldAddr (.d tWorld) 1 (.t 1), none, [0], []⟩,
    ⟨none, .store (.d (.sl (.int .i64))) (.t 12) (.t 5), none, [], [0]⟩,
    ⟨some 13, .fieldAddr (.d tWorld) 2 (.t 1), none, [0], []⟩,
    ⟨none, .store (.d (.sl (.int .i64))) (.t 13) (.t 8), none, [], [0]⟩,
    ⟨some 14, .fieldAddr (.d tWorld) 3 (.t 1), none, [0], []⟩,
    ⟨none, .store (.d (.sl tPlace)) (.t 14) (.t 11), none, [], [0]⟩]) (desc_Copy.c2)) (desc_Copy.c1)
def desc_Copy.fn : Fn := ⟨1, [.cell 2 (.d tWorld)], .seq (.reg false [⟨some 1, .box 0 (.t 0), none, [], []⟩,
    ⟨some 2, .newbox 1 tWorld [], none, [], []⟩]) (desc_Copy.c0)⟩
def desc_Right_2.c2 : Cd := .tidy [4, 5, 6, 7, 8] [] [] none
def desc_Right_2.c1 : Cd := .ret
def desc_Right_2.c0 : Cd := .seq (.seq (.reg false [⟨some 4, .move (.t 0), none, [], []⟩,
    ⟨some 5, .fieldAddr (.d tDesc) 0 (.t 1), none, [], []⟩,
    ⟨some 6, .load (.d (.sl (.arr 4 (.int .i64)))) (.t 5), none, [], []⟩,
    ⟨some 7, .len (.t 6), none, [], []⟩,
    ⟨some 8, .call (.f 23) [(.t 4), (.t 7)] [.d .bool] [] false, none, [], []⟩,
    ⟨some 3, .move (.t 8), none, [], []⟩]) (desc_Right_2.c2)) (desc_Right_2.c1)
def desc_Right_2.fn : Fn := ⟨2, [.tmp 3], .seq (.reg false [⟨some 3, .move (.c .bool false), none, [], []⟩]) (desc_Right_2.c0)⟩
def desc_Right_1.c3 : Cd := .tidy [4] [] [] none
def desc_Right_1.c5 : Cd := .tidy [7] [] [] none
def desc_Right_1.c8 : Cd := .tidy [8, 9, 10, 11, 12, 13] [] [] none
def desc_Right_1.c7 : Cd := .ret
def desc_Right_1.c6 : Cd := .seq (.seq (.reg false [⟨some 8, .fieldAddr (.d tPlace) 1 (.t 2), none, [], []⟩,
    ⟨some 9, .load (.d (.int .i64)) (.t 8), none, [], []⟩,
    ⟨some 10, .fieldAddr (.d tDesc) 0 (.t 1), none, [], []⟩,
    ⟨some 11, .load (.d (.sl (.arr 4 (.int .i64)))) (.t 10), none, [], []⟩,
    ⟨some 12, .len (.t 11), none, [], []⟩,
    ⟨some 13, .call (.f 23) [(.t 9), (.t 12)] [.d .bool] [] false, none, [], []⟩,
    ⟨some 3, .move (.t 13), none, [], []⟩]) (desc_Right_1.c8)) (desc_Right_1.c7)
def desc_Right_1.c11 : Cd := .tidy [15] [] [] none
def desc_Right_1.c14 : Cd := .tidy [16, 17, 18, 19, 20, 21] [] [] none
def desc_Right_1.c13 : Cd := .ret
def desc_Right_1.c12 : Cd := .seq (.seq (.reg false [⟨some 16, .fieldAddr (.d tPlace) 1 (.t 2), none, [], []⟩,
    ⟨some 17, .load (.d (.int .i64)) (.t 16), none, [], []⟩,
    ⟨some 18, .fieldAddr (.d tDesc) 1 (.t 1), none, [], []⟩,
    ⟨some 19, .load (.d (.sl (.int .i64))) (.t 18), none, [], []⟩,
    ⟨some 20, .len (.t 19), none, [], []⟩,
    ⟨some 21, .call (.f 23) [(.t 17), (.t 20)] [.d .bool] [] false, none, [], []⟩,
    ⟨some 3, .move (.t 21), none, [], []⟩]) (desc_Right_1.c14)) (desc_Right_1.c13)
def desc_Right_1.c17 : Cd := .tidy [23] [] [] none
def desc_Right_1.c20 : Cd := .tidy [24, 25, 26, 27, 28, 29, 30, 31, 32, 33, 34, 35, 36, 37] [] [] none
def desc_Right_1.c19 : Cd := .ret
def desc_Right_1.c18 : Cd := .seq (.seq (.reg false [⟨some 24, .fieldAddr (.d tPlace) 1 (.t 2), none, [], []⟩,
    ⟨some 25, .load (.d (.int .i64)) (.t 24), none, [], []⟩,
    ⟨some 26, .fieldAddr (.d tDesc) 3 (.t 1), none, [], []⟩,
    ⟨some 27, .load (.d (.sl (.int .i64))) (.t 26), none, [], []⟩,
    ⟨some 28, .len (.t 27), none, [], []⟩,
    ⟨some 29, .call (.f 23) [(.t 25), (.t 28)] [.d .bool] [] false, none, [], []⟩,
    ⟨some 30, .move (.t 29), none, [], []⟩,
    ⟨some 31, .fieldAddr (.d tDesc) 4 (.t 1), some (30, true), [], []⟩,
    ⟨some 32, .load (.d (.sl .bool)) (.t 31), some (30, true), [], []⟩,
    ⟨some 33, .fieldAddr (.d tPlace) 1 (.t 2), some (30, true), [], []⟩,
    ⟨some 34, .load (.d (.int .i64)) (.t 33), some (30, true), [], []⟩,
    ⟨some 35, .index (.sl .bool) (.t 32) (.t 34), some (30, true), [], []⟩,
    ⟨some 36, .load (.d .bool) (.t 35), some (30, true), [], []⟩,
    ⟨some 37, .pick (.t 30) (.t 36) (.c .bool false), none, [], []⟩,
    ⟨some 3, .move (.t 37), none, [], []⟩]) (desc_Right_1.c20)) (desc_Right_1.c19)
def desc_Right_1.c21 : Cd := .skip
def desc_Right_1.c16 : Cd := .cond (.t 22) (.seq (.tidy [22] [] [] none) (desc_Right_1.c18)) (.seq (.tidy [22] [] [] none) (desc_Right_1.c21))
def desc_Right_1.c15 : Cd := .seq (.seq (.reg false [⟨some 23, .bin .eql (.t 5) (.c (.int .i64) (2 : Int)), none, [], []⟩,
    ⟨some 22, .move (.t 23), none, [], []⟩]) (desc_Right_1.c17)) (desc_Right_1.c16)
def desc_Right_1.c10 : Cd := .cond (.t 14) (.seq (.tidy [14] [] [] none) (desc_Right_1.c12)) (.seq (.tidy [14] [] [] none) (desc_Right_1.c15))
def desc_Right_1.c9 : Cd := .seq (.seq (.reg false [⟨some 15, .bin .eql (.t 5) (.c (.int .i64) (1 : Int)), none, [], []⟩,
    ⟨some 14, .move (.t 15), none, [], []⟩]) (desc_Right_1.c11)) (desc_Right_1.c10)
def desc_Right_1.c4 : Cd := .cond (.t 6) (.seq (.tidy [6] [] [] none) (desc_Right_1.c6)) (.seq (.tidy [6] [] [] none) (desc_Right_1.c9))
def desc_Right_1.c2 : Cd := .block 0 (.seq (.seq (.reg false [⟨some 7, .bin .eql (.t 5) (.c (.int .i64) (0 : Int)), none, [], []⟩,
    ⟨some 6, .move (.t 7), none, [], []⟩]) (desc_Right_1.c5)) (desc_Right_1.c4))
def desc_Right_1.c22 : Cd := .ret
def desc_Right_1.c1 : Cd := .seq (.reg false [⟨some 3, .move (.c .bool false), none, [], []⟩]) (desc_Right_1.c22)
def desc_Right_1.c0 : Cd := .seq (.seq (.seq (.reg false [⟨some 4, .fieldAddr (.d tPlace) 0 (.t 2), none, [], []⟩,
    ⟨some 5, .load (.d (.int .i64)) (.t 4), none, [], []⟩]) (desc_Right_1.c3)) (desc_Right_1.c2)) (desc_Right_1.c1)
def desc_Right_1.fn : Fn := ⟨2, [.tmp 3], .seq (.reg false [⟨some 2, .box 0 (.t 0), none, [], []⟩,
    ⟨some 3, .move (.c .bool false), none, [], []⟩]) (desc_Right_1.c0)⟩
def desc_all_api_Place_1.c2 : Cd := .tidy [4, 5, 6, 7] [] [] none
def desc_all_api_Place_1.c1 : Cd := .ret
def desc_all_api_Place_1.c0 : Cd := .seq (.seq (.reg false [⟨some 4, .load (.v false 1) (.t 1), none, [], []⟩,
    ⟨some 5, .load (.d tPlace) (.t 2), none, [], []⟩,
    ⟨some 6, .call (.t 4) [(.t 5)] [.d .bool] [] false, none, [], []⟩,
    ⟨some 7, .not (.t 6), none, [], []⟩,
    ⟨some 3, .move (.t 7), none, [], []⟩]) (desc_all_api_Place_1.c2)) (desc_all_api_Place_1.c1)
def desc_all_api_Place_1.fn : Fn := ⟨2, [.tmp 3], .seq (.reg false [⟨some 2, .box 0 (.t 0), none, [], []⟩,
    ⟨some 3, .move (.c .bool false), none, [], []⟩]) (desc_all_api_Place_1.c0)⟩
def slices_IndexFunc_sapi_Place_api_Place.c3 : Cd := .tidy [6] [] [] none
def slices_IndexFunc_sapi_Place_api_Place.c8 : Cd := .skip
def slices_IndexFunc_sapi_Place_api_Place.c19 : Cd := .exit 0
def slices_IndexFunc_sapi_Place_api_Place.c11 : Cd := .tidy [10] [] [] none
def slices_IndexFunc_sapi_Place_api_Place.c13 : Cd := .tidy [11, 12, 13, 14, 15] [] [] none
def slices_IndexFunc_sapi_Place_api_Place.c16 : Cd := .tidy [17] [] [] none
def slices_IndexFunc_sapi_Place_api_Place.c15 : Cd := .ret
def slices_IndexFunc_sapi_Place_api_Place.c14 : Cd := .seq (.seq (.reg false [⟨some 17, .move (.t 5), none, [], []⟩,
    ⟨some 4, .move (.t 17), none, [], []⟩]) (slices_IndexFunc_sapi_Place_api_Place.c16)) (slices_IndexFunc_sapi_Place_api_Place.c15)
def slices_IndexFunc_sapi_Place_api_Place.c17 : Cd := .skip
def slices_IndexFunc_sapi_Place_api_Place.c12 : Cd := .cond (.t 16) (.seq (.tidy [16] [] [] none) (slices_IndexFunc_sapi_Place_api_Place.c14)) (.seq (.tidy [16] [] [] none) (slices_IndexFunc_sapi_Place_api_Place.c17))
def slices_IndexFunc_sapi_Place_api_Place.c10 : Cd := .seq (.seq (.reg false [⟨some 11, .move (.t 1), none, [], []⟩,
    ⟨some 12, .move (.t 0), none, [], []⟩,
    ⟨some 13, .move (.t 5), none, [], []⟩,
    ⟨some 14, .index (.sl tPlace) (.t 12) (.t 13), none, [], []⟩,
    ⟨some 15, .load (.d tPlace) (.t 14), none, [], []⟩,
    ⟨some 16, .call (.t 11) [(.t 15)] [.d .bool] [] false, none, [], []⟩]) (slices_IndexFunc_sapi_Place_api_Place.c13)) (slices_IndexFunc_sapi_Place_api_Place.c12)
def slices_IndexFunc_sapi_Place_api_Place.c18 : Cd := .tidy [18] [] [] none
def slices_IndexFunc_sapi_Place_api_Place.c9 : Cd := .seq (.reg false [⟨some 18, .bin .add (.t 8) (.c (.int .i64) (1 : Int)), none, [], []⟩,
    ⟨some 8, .move (.t 18), none, [], []⟩]) (slices_IndexFunc_sapi_Place_api_Place.c18)
def slices_IndexFunc_sapi_Place_api_Place.c7 : Cd := .seq (.block 1 (.seq (.seq (.reg false [⟨some 10, .move (.t 8), none, [], []⟩,
    ⟨some 5, .move (.t 10), none, [], []⟩]) (slices_IndexFunc_sapi_Place_api_Place.c11)) (slices_IndexFunc_sapi_Place_api_Place.c10))) (slices_IndexFunc_sapi_Place_api_Place.c9)
def slices_IndexFunc_sapi_Place_api_Place.c6 : Cd := .seq (.cond (.t 9) (.seq (.tidy [9] [] [] none) (slices_IndexFunc_sapi_Place_api_Place.c8)) (.seq (.tidy [9] [] [] none) (slices_IndexFunc_sapi_Place_api_Place.c19))) (slices_IndexFunc_sapi_Place_api_Place.c7)
def slices_IndexFunc_sapi_Place_api_Place.c5 : Cd := .tidy [5] [] [] (some 0)
def slices_IndexFunc_sapi_Place_api_Place.c4 : Cd := .seq (.seq (.reg false [⟨some 9, .bin .lss (.t 8) (.t 7), none, [], []⟩]) (slices_IndexFunc_sapi_Place_api_Place.c6)) (slices_IndexFunc_sapi_Place_api_Place.c5)
def slices_IndexFunc_sapi_Place_api_Place.c2 : Cd := .block 0 (.loop (slices_IndexFunc_sapi_Place_api_Place.c4))
def slices_IndexFunc_sapi_Place_api_Place.c20 : Cd := .ret
def slices_IndexFunc_sapi_Place_api_Place.c1 : Cd := .seq (.reg false [⟨some 4, .move (.c (.int .i64) ((-1) : Int)), none, [], []⟩]) (slices_IndexFunc_sapi_Place_api_Place.c20)
def slices_IndexFunc_sapi_Place_api_Place.c0 : Cd := .seq (.seq (.seq (.reg false [⟨some 6, .move (.t 0), none, [], []⟩,
    ⟨some 7, .len (.t 6), none, [], []⟩,
    ⟨some 8, .move (.c (.int .i64) (0 : Int)), none, [], []⟩]) (slices_IndexFunc_sapi_Place_api_Place.c3)) (slices_IndexFunc_sapi_Place_api_Place.c2)) (slices_IndexFunc_sapi_Place_api_Place.c1)
def slices_IndexFunc_sapi_Place_api_Place.fn : Fn := ⟨2, [.tmp 4], .seq (.reg false [⟨some 4, .move (.c (.int .i64) (0 : Int)), none, [], []⟩]) (slices_IndexFunc_sapi_Place_api_Place.c0)⟩
def slices_ContainsFunc_sapi_Place_api_Place.c2 : Cd := .tidy [5, 6, 7, 8] [] [] none
def slices_ContainsFunc_sapi_Place_api_Place.c1 : Cd := .ret
def slices_ContainsFunc_sapi_Place_api_Place.c0 : Cd := .seq (.seq (.reg false [⟨some 5, .move (.t 0), none, [], []⟩,
    ⟨some 6, .move (.t 1), none, [], []⟩,
    ⟨some 7, .call (.f 55) [(.t 5), (.t 6)] [.d (.int .i64)] [] false, none, [], []⟩,
    ⟨some 8, .bin .geq (.t 7) (.c (.int .i64) (0 : Int)), none, [], []⟩,
    ⟨some 4, .move (.t 8), none, [], []⟩]) (slices_ContainsFunc_sapi_Place_api_Place.c2)) (slices_ContainsFunc_sapi_Place_api_Place.c1)
def slices_ContainsFunc_sapi_Place_api_Place.fn : Fn := ⟨2, [.tmp 4], .seq (.reg false [⟨some 4, .move (.c .bool false), none, [], []⟩]) (slices_ContainsFunc_sapi_Place_api_Place.c0)⟩
def desc_all_api_Place.c2 : Cd := .tidy [5, 6, 7, 8] [] [] none
def desc_all_api_Place.c1 : Cd := .ret
def desc_all_api_Place.c0 : Cd := .seq (.seq (.reg false [⟨some 5, .move (.t 0), none, [], []⟩,
    ⟨some 6, .func 50 [(.t 3)], none, [], []⟩,
    ⟨some 7, .call (.f 49) [(.t 5), (.t 6)] [.d .bool] [] false, none, [], []⟩,
    ⟨some 8, .not (.t 7), none, [], []⟩,
    ⟨some 4, .move (.t 8), none, [], []⟩]) (desc_all_api_Place.c2)) (desc_all_api_Place.c1)
def desc_all_api_Place.fn : Fn := ⟨2, [.tmp 4], .seq (.reg false [⟨some 3, .box 0 (.t 1), none, [], []⟩,
    ⟨some 4, .move (.c .bool false), none, [], []⟩]) (desc_all_api_Place.c0)⟩
def desc_Right_3.c2 : Cd := .tidy [7, 8, 9, 10, 11, 12, 13, 14, 15, 16, 17, 18, 19, 20, 21, 22, 23, 24, 25] [] [] none
def desc_Right_3.c1 : Cd := .ret
def desc_Right_3.c0 : Cd := .seq (.seq (.reg true [⟨some 7, .fieldAddr (.d tPlace) 0 (.t 4), none, [0], []⟩,
    ⟨some 8, .load (.d (.int .i64)) (.t 7), none, [0], []⟩,
    ⟨some 9, .bin .neq (.t 8) (.c (.int .i64) (2 : Int)), none, [], []⟩,
    ⟨some 10, .move (.t 9), none, [], []⟩,
    ⟨some 11, .move (.t 1), some (10, false), [], []⟩,
    ⟨some 12, .bin .lss (.t 11) (.c (.int .i64) (4 : Int)), some (10, false), [], []⟩,
    ⟨some 13, .move (.t 12), some (10, false), [], []⟩,
    ⟨some 14, .load (.v false 1) (.t 2), some (13, true), [], []⟩,
    ⟨some 15, .fieldAddr (.d tWorld) 3 (.t 3), some (13, true), [], []⟩,
    ⟨some 16, .load (.d (.sl tPlace)) (.t 15), some (13, true), [], []⟩,
    ⟨some 17, .fieldAddr (.d tPlace) 1 (.t 4), some (13, true), [0], []⟩,
    ⟨some 18, .load (.d (.int .i64)) (.t 17), some (13, true), [0], []⟩,
    ⟨some 19, .index (.sl tPlace) (.t 16) (.t 18), some (13, true), [], []⟩,
    ⟨some 20, .load (.d tPlace) (.t 19), some (13, true), [], []⟩,
    ⟨some 21, .move (.t 1), some (13, true), [], []⟩,
    ⟨some 22, .bin .add (.t 21) (.c (.int .i64) (1 : Int)), some (13, true), [], []⟩,
    ⟨some 23, .call (.t 14) [(.t 20), (.t 22)] [.d .bool] [] false, some (13, true), [], []⟩,
    ⟨some 24, .pick (.t 13) (.t 23) (.c .bool false), some (10, false), [], []⟩,
    ⟨some 25, .pick (.t 10) (.c .bool true) (.t 24), none, [], []⟩,
    ⟨some 6, .move (.t 25), none, [], []⟩]) (desc_Right_3.c2)) (desc_Right_3.c1)
def desc_Right_3.fn : Fn := ⟨4, [.tmp 6], .seq (.reg false [⟨some 4, .box 0 (.t 0), none, [], []⟩,
    ⟨some 6, .move (.c .bool false), none, [], []⟩]) (desc_Right_3.c0)⟩
def desc_Right.c2 : Cd := .tidy [10, 11] [] [] none
def desc_Right.c5 : Cd := .tidy [12, 13, 14, 15, 16, 17, 18, 19, 20, 21, 22, 23, 24, 25, 26, 27, 28, 29, 30, 31, 32, 33, 34, 35, 36, 37, 38, 39, 40] [] [] none
def desc_Right.c7 : Cd := .ret
def desc_Right.c6 : Cd := .seq (.reg false [⟨some 2, .move (.c .bool false), none, [], []⟩]) (desc_Right.c7)
def desc_Right.c8 : Cd := .skip
def desc_Right.c4 : Cd := .cond (.t 41) (.seq (.tidy [41] [] [] none) (desc_Right.c6)) (.seq (.tidy [41] [] [] none) (desc_Right.c8))
def desc_Right.c10 : Cd := .tidy [42] [] [] none
def desc_Right.c13 : Cd := .tidy [43, 44, 45, 46, 47, 48, 49, 50, 51, 52, 53, 54, 55, 56, 57, 58, 59] [] [] none
def desc_Right.c15 : Cd := .ret
def desc_Right.c14 : Cd := .seq (.reg false [⟨some 2, .move (.c .bool false), none, [], []⟩]) (desc_Right.c15)
def desc_Right.c16 : Cd := .skip
def desc_Right.c12 : Cd := .cond (.t 60) (.seq (.tidy [60] [] [] none) (desc_Right.c14)) (.seq (.tidy [60] [] [] none) (desc_Right.c16))
def desc_Right.c19 : Cd := .tidy [61] [] [] none
def desc_Right.c21 : Cd := .tidy [62, 63, 64, 65, 66, 67, 68, 69] [] [] none
def desc_Right.c24 : Cd := .tidy [70] [] [] none
def desc_Right.c29 : Cd := .skip
def desc_Right.c41 : Cd := .exit 0
def desc_Right.c32 : Cd := .tidy [75, 76] [] [] none
def desc_Right.c34 : Cd := .tidy [77, 78, 79, 80, 81, 82] [] [] none
def desc_Right.c36 : Cd := .tidy [83, 84, 85, 86, 87, 88, 89, 90, 91, 92, 93, 94, 95] [] [] none
def desc_Right.c38 : Cd := .ret
def desc_Right.c37 : Cd := .seq (.reg false [⟨some 2, .move (.c .bool false), none, [], []⟩]) (desc_Right.c38)
def desc_Right.c39 : Cd := .skip
def desc_Right.c35 : Cd := .cond (.t 96) (.seq (.tidy [96] [] [] none) (desc_Right.c37)) (.seq (.tidy [96] [] [] none) (desc_Right.c39))
def desc_Right.c33 : Cd := .seq (.seq (.reg true [⟨some 83, .move (.t 6), none, [], []⟩,
    ⟨some 84, .load (.d tPlace) (.t 9), none, [5], []⟩,
    ⟨some 85, .lookup tPlace (.int .i64) (.t 83) (.t 84), none, [3], []⟩,
    ⟨some 86, .fieldAddr (.d tPlace) 0 (.t 9), none, [5], []⟩,
    ⟨some 87, .load (.d (.int .i64)) (.t 86), none, [5], []⟩,
    ⟨some 88, .index (.arr 3 (.int .i64)) (.t 7) (.t 87), none, [4], []⟩,
    ⟨some 89, .load (.d (.int .i64)) (.t 88), none, [4], []⟩,
    ⟨some 90, .bin .gtr (.t 85) (.t 89), none, [], []⟩,
    ⟨some 91, .move (.t 90), none, [], []⟩,
    ⟨some 92, .load (.v false 1) (.t 5), some (91, false), [2], []⟩,
    ⟨some 93, .load (.d tPlace) (.t 9), some (91, false), [5], []⟩,
    ⟨some 94, .call (.t 92) [(.t 93), (.c (.int .i64) (0 : Int))] [.d .bool] [] false, some (91, false), [0, 2], []⟩,
    ⟨some 95, .not (.t 94), some (91, false), [], []⟩,
    ⟨some 96, .pick (.t 91) (.c .bool true) (.t 95), none, [], []⟩]) (desc_Right.c36)) (desc_Right.c35)
def desc_Right.c31 : Cd := .seq (.seq (.reg true [⟨some 77, .move (.t 6), none, [], []⟩,
    ⟨some 78, .load (.d tPlace) (.t 9), none, [5], []⟩,
    ⟨some 79, .lookup tPlace (.int .i64) (.t 77) (.t 78), none, [3], []⟩,
    ⟨some 80, .bin .add (.t 79) (.c (.int .i64) (1 : Int)), none, [], []⟩,
    ⟨some 81, .mapent tPlace (.int .i64) (.t 77) (.t 78), none, [], [3]⟩,
    ⟨some 82, .extract (.t 81) 1, none, [], []⟩,
    ⟨none, .mapst tPlace (.int .i64) (.t 77) (.t 82) (.t 80), none, [], [3]⟩]) (desc_Right.c34)) (desc_Right.c33)
def desc_Right.c40 : Cd := .tidy [97] [] [] none
def desc_Right.c30 : Cd := .seq (.reg false [⟨some 97, .bin .add (.t 73) (.c (.int .i64) (1 : Int)), none, [], []⟩,
    ⟨some 73, .move (.t 97), none, [], []⟩]) (desc_Right.c40)
def desc_Right.c28 : Cd := .seq (.block 1 (.seq (.seq (.reg false [⟨some 75, .index (.sl tPlace) (.t 71) (.t 73), none, [], []⟩,
    ⟨some 76, .load (.d tPlace) (.t 75), none, [], []⟩,
    ⟨some 9, .newbox 5 tPlace [], none, [], []⟩,
    ⟨none, .store (.d tPlace) (.t 9) (.t 76), none, [], []⟩]) (desc_Right.c32)) (desc_Right.c31))) (desc_Right.c30)
def desc_Right.c27 : Cd := .seq (.cond (.t 74) (.seq (.tidy [74] [] [] none) (desc_Right.c29)) (.seq (.tidy [74] [] [] none) (desc_Right.c41))) (desc_Right.c28)
def desc_Right.c26 : Cd := .tidy [9] [] [] (some 5)
def desc_Right.c25 : Cd := .seq (.seq (.reg false [⟨some 74, .bin .lss (.t 73) (.t 72), none, [], []⟩]) (desc_Right.c27)) (desc_Right.c26)
def desc_Right.c23 : Cd := .block 0 (.loop (desc_Right.c25))
def desc_Right.c42 : Cd := .ret
def desc_Right.c22 : Cd := .seq (.reg false [⟨some 2, .move (.c .bool true), none, [], []⟩]) (desc_Right.c42)
def desc_Right.c20 : Cd := .seq (.seq (.seq (.reg false [⟨some 70, .fieldAddr (.d tWorld) 3 (.t 1), none, [], []⟩,
    ⟨some 71, .load (.d (.sl tPlace)) (.t 70), none, [], []⟩,
    ⟨some 72, .len (.t 71), none, [], []⟩,
    ⟨some 73, .move (.c (.int .i64) (0 : Int)), none, [], []⟩]) (desc_Right.c24)) (desc_Right.c23)) (desc_Right.c22)
def desc_Right.c18 : Cd := .seq (.seq (.reg true [⟨some 62, .mkmap 3 tPlace (.int .i64), none, [], [3]⟩,
    ⟨some 63, .fieldAddr (.d tDesc) 5 (.t 3), none, [1], []⟩,
    ⟨some 64, .load (.d (.int .i64)) (.t 63), none, [1], []⟩,
    ⟨some 65, .fieldAddr (.d tDesc) 6 (.t 3), none, [1], []⟩,
    ⟨some 66, .load (.d (.int .i64)) (.t 65), none, [1], []⟩,
    ⟨some 67, .fieldAddr (.d tDesc) 7 (.t 3), none, [1], []⟩,
    ⟨some 68, .load (.d (.int .i64)) (.t 67), none, [1], []⟩,
    ⟨some 69, .build (.arr 3 (.int .i64)) [(0, (.t 64)), (1, (.t 66)), (2, (.t 68))] [], none, [], []⟩,
    ⟨some 7, .newbox 4 (.arr 3 (.int .i64)) [], none, [], [4]⟩,
    ⟨some 6, .move (.t 62), none, [], []⟩,
    ⟨none, .store (.d (.arr 3 (.int .i64))) (.t 7) (.t 69), none, [], [4]⟩]) (desc_Right.c21)) (desc_Right.c20)
def desc_Right.c17 : Cd := .seq (.seq (.reg false [⟨some 61, .func 36 [(.t 5), (.t 1)], none, [], []⟩,
    ⟨none, .store (.v false 1) (.t 5) (.t 61), none, [], []⟩]) (desc_Right.c19)) (desc_Right.c18)
def desc_Right.c11 : Cd := .seq (.reg false [⟨some 5, .newboxv 2 (.nilfn), none, [], []⟩]) (desc_Right.c17)
def desc_Right.c9 : Cd := .seq (.seq (.seq (.reg false [⟨some 43, .fieldAddr (.d tWorld) 1 (.t 1), none, [], []⟩,
    ⟨some 44, .load (.d (.sl (.int .i64))) (.t 43), none, [], []⟩,
    ⟨some 45, .func 34 [(.t 3)], none, [], []⟩,
    ⟨some 46, .call (.f 25) [(.t 44), (.t 45)] [.d .bool] [] false, none, [], []⟩,
    ⟨some 47, .not (.t 46), none, [], []⟩,
    ⟨some 48, .move (.t 47), none, [], []⟩,
    ⟨some 49, .fieldAddr (.d tWorld) 2 (.t 1), some (48, false), [], []⟩,
    ⟨some 50, .load (.d (.sl (.int .i64))) (.t 49), some (48, false), [], []⟩,
    ⟨some 51, .call (.f 25) [(.t 50), (.f 29)] [.d .bool] [] false, some (48, false), [], []⟩,
    ⟨some 52, .not (.t 51), some (48, false), [], []⟩,
    ⟨some 53, .pick (.t 48) (.c .bool true) (.t 52), none, [], []⟩,
    ⟨some 54, .move (.t 53), none, [], []⟩,
    ⟨some 55, .fieldAddr (.d tWorld) 3 (.t 1), some (54, false), [], []⟩,
    ⟨some 56, .load (.d (.sl tPlace)) (.t 55), some (54, false), [], []⟩,
    ⟨some 57, .move (.t 4), some (54, false), [], []⟩,
    ⟨some 58, .call (.f 35) [(.t 56), (.t 57)] [.d .bool] [] false, some (54, false), [], []⟩,
    ⟨some 59, .not (.t 58), some (54, false), [], []⟩,
    ⟨some 60, .pick (.t 54) (.c .bool true) (.t 59), none, [], []⟩]) (desc_Right.c13)) (desc_Right.c12)) (desc_Right.c11)
def desc_Right.c3 : Cd := .seq (.seq (.reg false [⟨some 42, .func 33 [(.t 3)], none, [], []⟩,
    ⟨some 4, .move (.t 42), none, [], []⟩]) (desc_Right.c10)) (desc_Right.c9)
def desc_Right.c1 : Cd := .seq (.seq (.seq (.reg false [⟨some 12, .load (.d tDesc) (.t 3), none, [], []⟩,
    ⟨some 13, .call (.f 11) [(.t 12)] [.d .bool] [] false, none, [], []⟩,
    ⟨some 14, .not (.t 13), none, [], []⟩,
    ⟨some 15, .move (.t 14), none, [], []⟩,
    ⟨some 16, .fieldAddr (.d tWorld) 1 (.t 1), some (15, false), [], []⟩,
    ⟨some 17, .load (.d (.sl (.int .i64))) (.t 16), some (15, false), [], []⟩,
    ⟨some 18, .len (.t 17), some (15, false), [], []⟩,
    ⟨some 19, .fieldAddr (.d tDesc) 1 (.t 3), some (15, false), [], []⟩,
    ⟨some 20, .load (.d (.sl (.int .i64))) (.t 19), some (15, false), [], []⟩,
    ⟨some 21, .len (.t 20), some (15, false), [], []⟩,
    ⟨some 22, .bin .neq (.t 18) (.t 21), some (15, false), [], []⟩,
    ⟨some 23, .pick (.t 15) (.c .bool true) (.t 22), none, [], []⟩,
    ⟨some 24, .move (.t 23), none, [], []⟩,
    ⟨some 25, .fieldAddr (.d tWorld) 2 (.t 1), some (24, false), [], []⟩,
    ⟨some 26, .load (.d (.sl (.int .i64))) (.t 25), some (24, false), [], []⟩,
    ⟨some 27, .len (.t 26), some (24, false), [], []⟩,
    ⟨some 28, .fieldAddr (.d tDesc) 1 (.t 3), some (24, false), [], []⟩,
    ⟨some 29, .load (.d (.sl (.int .i64))) (.t 28), some (24, false), [], []⟩,
    ⟨some 30, .len (.t 29), some (24, false), [], []⟩,
    ⟨some 31, .bin .neq (.t 27) (.t 30), some (24, false), [], []⟩,
    ⟨some 32, .pick (.t 24) (.c .bool true) (.t 31), none, [], []⟩,
    ⟨some 33, .move (.t 32), none, [], []⟩,
    ⟨some 34, .fieldAddr (.d tWorld) 3 (.t 1), some (33, false), [], []⟩,
    ⟨some 35, .load (.d (.sl tPlace)) (.t 34), some (33, false), [], []⟩,
    ⟨some 36, .len (.t 35), some (33, false), [], []⟩,
    ⟨some 37, .fieldAddr (.d tDesc) 3 (.t 3), some (33, false), [], []⟩,
    ⟨some 38, .load (.d (.sl (.int .i64))) (.t 37), some (33, false), [], []⟩,
    ⟨some 39, .len (.t 38), some (33, false), [], []⟩,
    ⟨some 40, .bin .neq (.t 36) (.t 39), some (33, false), [], []⟩,
    ⟨some 41, .pick (.t 33) (.c .bool true) (.t 40), none, [], []⟩]) (desc_Right.c5)) (desc_Right.c4)) (desc_Right.c3)
def desc_Right.c0 : Cd := .seq (.seq (.reg false [⟨some 10, .fieldAddr (.d tWorld) 0 (.t 1), none, [], []⟩,
    ⟨some 11, .load (.d tDesc) (.t 10), none, [], []⟩,
    ⟨some 3, .newbox 1 tDesc [], none, [], []⟩,
    ⟨none, .store (.d tDesc) (.t 3) (.t 11), none, [], []⟩]) (desc_Right.c2)) (desc_Right.c1)
def desc_Right.fn : Fn := ⟨1, [.tmp 2], .seq (.reg false [⟨some 1, .box 0 (.t 0), none, [], []⟩,
    ⟨some 2, .move (.c .bool false), none, [], []⟩]) (desc_Right.c0)⟩
def slices_Equal_sa4int_a4int.c3 : Cd := .tidy [6, 7, 8, 9] [] [] none
def slices_Equal_sa4int_a4int.c5 : Cd := .ret
def slices_Equal_sa4int_a4int.c4 : Cd := .seq (.reg false [⟨some 4, .move (.c .bool false), none, [], []⟩]) (slices_Equal_sa4int_a4int.c5)
def slices_Equal_sa4int_a4int.c6 : Cd := .skip
def slices_Equal_sa4int_a4int.c2 : Cd := .cond (.t 10) (.seq (.tidy [10] [] [] none) (slices_Equal_sa4int_a4int.c4)) (.seq (.tidy [10] [] [] none) (slices_Equal_sa4int_a4int.c6))
def slices_Equal_sa4int_a4int.c9 : Cd := .tidy [11] [] [] none
def slices_Equal_sa4int_a4int.c14 : Cd := .skip
def slices_Equal_sa4int_a4int.c24 : Cd := .exit 0
def slices_Equal_sa4int_a4int.c17 : Cd := .tidy [15] [] [] none
def slices_Equal_sa4int_a4int.c19 : Cd := .tidy [16, 17, 18, 19, 20, 21, 22, 23] [] [] none
def slices_Equal_sa4int_a4int.c21 : Cd := .ret
def slices_Equal_sa4int_a4int.c20 : Cd := .seq (.reg false [⟨some 4, .move (.c .bool false), none, [], []⟩]) (slices_Equal_sa4int_a4int.c21)
def slices_Equal_sa4int_a4int.c22 : Cd := .skip
def slices_Equal_sa4int_a4int.c18 : Cd := .cond (.t 24) (.seq (.tidy [24] [] [] none) (slices_Equal_sa4int_a4int.c20)) (.seq (.tidy [24] [] [] none) (slices_Equal_sa4int_a4int.c22))
def slices_Equal_sa4int_a4int.c16 : Cd := .seq (.seq (.reg true [⟨some 16, .move (.t 0), none, [], []⟩,
    ⟨some 17, .move (.t 5), none, [], []⟩,
    ⟨some 18, .index (.sl (.arr 4 (.int .i64))) (.t 16) (.t 17), none, [], []⟩,
    ⟨some 19, .load (.d (.arr 4 (.int .i64))) (.t 18), none, [], []⟩,
    ⟨some 20, .move (.t 1), none, [], []⟩,
    ⟨some 21, .move (.t 5), none, [], []⟩,
    ⟨some 22, .index (.sl (.arr 4 (.int .i64))) (.t 20) (.t 21), none, [], []⟩,
    ⟨some 23, .load (.d (.arr 4 (.int .i64))) (.t 22), none, [], []⟩,
    ⟨some 24, .eqs (.arr 4 (.int .i64)) true (.t 19) (.t 23), none, [], []⟩]) (slices_Equal_sa4int_a4int.c19)) (slices_Equal_sa4int_a4int.c18)
def slices_Equal_sa4int_a4int.c23 : Cd := .tidy [25] [] [] none
def slices_Equal_sa4int_a4int.c15 : Cd := .seq (.reg false [⟨some 25, .bin .add (.t 13) (.c (.int .i64) (1 : Int)), none, [], []⟩,
    ⟨some 13, .move (.t 25), none, [], []⟩]) (slices_Equal_sa4int_a4int.c23)
def slices_Equal_sa4int_a4int.c13 : Cd := .seq (.block 1 (.seq (.seq (.reg false [⟨some 15, .move (.t 13), none, [], []⟩,
    ⟨some 5, .move (.t 15), none, [], []⟩]) (slices_Equal_sa4int_a4int.c17)) (slices_Equal_sa4int_a4int.c16))) (slices_Equal_sa4int_a4int.c15)
def slices_Equal_sa4int_a4int.c12 : Cd := .seq (.cond (.t 14) (.seq (.tidy [14] [] [] none) (slices_Equal_sa4int_a4int.c14)) (.seq (.tidy [14] [] [] none) (slices_Equal_sa4int_a4int.c24))) (slices_Equal_sa4int_a4int.c13)
def slices_Equal_sa4int_a4int.c11 : Cd := .tidy [5] [] [] (some 0)
def slices_Equal_sa4int_a4int.c10 : Cd := .seq (.seq (.reg false [⟨some 14, .bin .lss (.t 13) (.t 12), none, [], []⟩]) (slices_Equal_sa4int_a4int.c12)) (slices_Equal_sa4int_a4int.c11)
def slices_Equal_sa4int_a4int.c8 : Cd := .block 0 (.loop (slices_Equal_sa4int_a4int.c10))
def slices_Equal_sa4int_a4int.c25 : Cd := .ret
def slices_Equal_sa4int_a4int.c7 : Cd := .seq (.reg false [⟨some 4, .move (.c .bool true), none, [], []⟩]) (slices_Equal_sa4int_a4int.c25)
def slices_Equal_sa4int_a4int.c1 : Cd := .seq (.seq (.seq (.reg false [⟨some 11, .move (.t 0), none, [], []⟩,
    ⟨some 12, .len (.t 11), none, [], []⟩,
    ⟨some 13, .move (.c (.int .i64) (0 : Int)), none, [], []⟩]) (slices_Equal_sa4int_a4int.c9)) (slices_Equal_sa4int_a4int.c8)) (slices_Equal_sa4int_a4int.c7)
def slices_Equal_sa4int_a4int.c0 : Cd := .seq (.seq (.seq (.reg false [⟨some 6, .move (.t 0), none, [], []⟩,
    ⟨some 7, .len (.t 6), none, [], []⟩,
    ⟨some 8, .move (.t 1), none, [], []⟩,
    ⟨some 9, .len (.t 8), none, [], []⟩,
    ⟨some 10, .bin .neq (.t 7) (.t 9), none, [], []⟩]) (slices_Equal_sa4int_a4int.c3)) (slices_Equal_sa4int_a4int.c2)) (slices_Equal_sa4int_a4int.c1)
def slices_Equal_sa4int_a4int.fn : Fn := ⟨2, [.tmp 4], .seq (.reg false [⟨some 4, .move (.c .bool false), none, [], []⟩]) (slices_Equal_sa4int_a4int.c0)⟩
def slices_Equal_sint_int.c3 : Cd := .tidy [6, 7, 8, 9] [] [] none
def slices_Equal_sint_int.c5 : Cd := .ret
def slices_Equal_sint_int.c4 : Cd := .seq (.reg false [⟨some 4, .move (.c .bool false), none, [], []⟩]) (slices_Equal_sint_int.c5)
def slices_Equal_sint_int.c6 : Cd := .skip
def slices_Equal_sint_int.c2 : Cd := .cond (.t 10) (.seq (.tidy [10] [] [] none) (slices_Equal_sint_int.c4)) (.seq (.tidy [10] [] [] none) (slices_Equal_sint_int.c6))
def slices_Equal_sint_int.c9 : Cd := .tidy [11] [] [] none
def slices_Equal_sint_int.c14 : Cd := .skip
def slices_Equal_sint_int.c24 : Cd := .exit 0
def slices_Equal_sint_int.c17 : Cd := .tidy [15] [] [] none
def slices_Equal_sint_int.c19 : Cd := .tidy [16, 17, 18, 19, 20, 21, 22, 23] [] [] none
def slices_Equal_sint_int.c21 : Cd := .ret
def slices_Equal_sint_int.c20 : Cd := .seq (.reg false [⟨some 4, .move (.c .bool false), none, [], []⟩]) (slices_Equal_sint_int.c21)
def slices_Equal_sint_int.c22 : Cd := .skip
def slices_Equal_sint_int.c18 : Cd := .cond (.t 24) (.seq (.tidy [24] [] [] none) (slices_Equal_sint_int.c20)) (.seq (.tidy [24] [] [] none) (slices_Equal_sint_int.c22))
def slices_Equal_sint_int.c16 : Cd := .seq (.seq (.reg true [⟨some 16, .move (.t 0), none, [], []⟩,
    ⟨some 17, .move (.t 5), none, [], []⟩,
    ⟨some 18, .index (.sl (.int .i64)) (.t 16) (.t 17), none, [], []⟩,
    ⟨some 19, .load (.d (.int .i64)) (.t 18), none, [], []⟩,
    ⟨some 20, .move (.t 1), none, [], []⟩,
    ⟨some 21, .move (.t 5), none, [], []⟩,
    ⟨some 22, .index (.sl (.int .i64)) (.t 20) (.t 21), none, [], []⟩,
    ⟨some 23, .load (.d (.int .i64)) (.t 22), none, [], []⟩,
    ⟨some 24, .bin .neq (.t 19) (.t 23), none, [], []⟩]) (slices_Equal_sint_int.c19)) (slices_Equal_sint_int.c18)
def slices_Equal_sint_int.c23 : Cd := .tidy [25] [] [] none
def slices_Equal_sint_int.c15 : Cd := .seq (.reg false [⟨some 25, .bin .add (.t 13) (.c (.int .i64) (1 : Int)), none, [], []⟩,
    ⟨some 13, .move (.t 25), none, [], []⟩]) (slices_Equal_sint_int.c23)
def slices_Equal_sint_int.c13 : Cd := .seq (.block 1 (.seq (.seq (.reg false [⟨some 15, .move (.t 13), none, [], []⟩,
    ⟨some 5, .move (.t 15), none, [], []⟩]) (slices_Equal_sint_int.c17)) (slices_Equal_sint_int.c16))) (slices_Equal_sint_int.c15)
def slices_Equal_sint_int.c12 : Cd := .seq (.cond (.t 14) (.seq (.tidy [14] [] [] none) (slices_Equal_sint_int.c14)) (.seq (.tidy [14] [] [] none) (slices_Equal_sint_int.c24))) (slices_Equal_sint_int.c13)
def slices_Equal_sint_int.c11 : Cd := .tidy [5] [] [] (some 0)
def slices_Equal_sint_int.c10 : Cd := .seq (.seq (.reg false [⟨some 14, .bin .lss (.t 13) (.t 12), none, [], []⟩]) (slices_Equal_sint_int.c12)) (slices_Equal_sint_int.c11)
def slices_Equal_sint_int.c8 : Cd := .block 0 (.loop (slices_Equal_sint_int.c10))
def slices_Equal_sint_int.c25 : Cd := .ret
def slices_Equal_sint_int.c7 : Cd := .seq (.reg false [⟨some 4, .move (.c .bool true), none, [], []⟩]) (slices_Equal_sint_int.c25)
def slices_Equal_sint_int.c1 : Cd := .seq (.seq (.seq (.reg false [⟨some 11, .move (.t 0), none, [], []⟩,
    ⟨some 12, .len (.t 11), none, [], []⟩,
    ⟨some 13, .move (.c (.int .i64) (0 : Int)), none, [], []⟩]) (slices_Equal_sint_int.c9)) (slices_Equal_sint_int.c8)) (slices_Equal_sint_int.c7)
def slices_Equal_sint_int.c0 : Cd := .seq (.seq (.seq (.reg false [⟨some 6, .move (.t 0), none, [], []⟩,
    ⟨some 7, .len (.t 6), none, [], []⟩,
    ⟨some 8, .move (.t 1), none, [], []⟩,
    ⟨some 9, .len (.t 8), none, [], []⟩,
    ⟨some 10, .bin .neq (.t 7) (.t 9), none, [], []⟩]) (slices_Equal_sint_int.c3)) (slices_Equal_sint_int.c2)) (slices_Equal_sint_int.c1)
def slices_Equal_sint_int.fn : Fn := ⟨2, [.tmp 4], .seq (.reg false [⟨some 4, .move (.c .bool false), none, [], []⟩]) (slices_Equal_sint_int.c0)⟩
def slices_Equal_sbool_bool.c3 : Cd := .tidy [6, 7, 8, 9] [] [] none
def slices_Equal_sbool_bool.c5 : Cd := .ret
def slices_Equal_sbool_bool.c4 : Cd := .seq (.reg false [⟨some 4, .move (.c .bool false), none, [], []⟩]) (slices_Equal_sbool_bool.c5)
def slices_Equal_sbool_bool.c6 : Cd := .skip
def slices_Equal_sbool_bool.c2 : Cd := .cond (.t 10) (.seq (.tidy [10] [] [] none) (slices_Equal_sbool_bool.c4)) (.seq (.tidy [10] [] [] none) (slices_Equal_sbool_bool.c6))
def slices_Equal_sbool_bool.c9 : Cd := .tidy [11] [] [] none
def slices_Equal_sbool_bool.c14 : Cd := .skip
def slices_Equal_sbool_bool.c24 : Cd := .exit 0
def slices_Equal_sbool_bool.c17 : Cd := .tidy [15] [] [] none
def slices_Equal_sbool_bool.c19 : Cd := .tidy [16, 17, 18, 19, 20, 21, 22, 23] [] [] none
def slices_Equal_sbool_bool.c21 : Cd := .ret
def slices_Equal_sbool_bool.c20 : Cd := .seq (.reg false [⟨some 4, .move (.c .bool false), none, [], []⟩]) (slices_Equal_sbool_bool.c21)
def slices_Equal_sbool_bool.c22 : Cd := .skip
def slices_Equal_sbool_bool.c18 : Cd := .cond (.t 24) (.seq (.tidy [24] [] [] none) (slices_Equal_sbool_bool.c20)) (.seq (.tidy [24] [] [] none) (slices_Equal_sbool_bool.c22))
def slices_Equal_sbool_bool.c16 : Cd := .seq (.seq (.reg true [⟨some 16, .move (.t 0), none, [], []⟩,
    ⟨some 17, .move (.t 5), none, [], []⟩,
    ⟨some 18, .index (.sl .bool) (.t 16) (.t 17), none, [], []⟩,
    ⟨some 19, .load (.d .bool) (.t 18), none, [], []⟩,
    ⟨some 20, .move (.t 1), none, [], []⟩,
    ⟨some 21, .move (.t 5), none, [], []⟩,
    ⟨some 22, .index (.sl .bool) (.t 20) (.t 21), none, [], []⟩,
    ⟨some 23, .load (.d .bool) (.t 22), none, [], []⟩,
    ⟨some 24, .eqs .bool true (.t 19) (.t 23), none, [], []⟩]) (slices_Equal_sbool_bool.c19)) (slices_Equal_sbool_bool.c18)
def slices_Equal_sbool_bool.c23 : Cd := .tidy [25] [] [] none
def slices_Equal_sbool_bool.c15 : Cd := .seq (.reg false [⟨some 25, .bin .add (.t 13) (.c (.int .i64) (1 : Int)), none, [], []⟩,
    ⟨some 13, .move (.t 25), none, [], []⟩]) (slices_Equal_sbool_bool.c23)
def slices_Equal_sbool_bool.c13 : Cd := .seq (.block 1 (.seq (.seq (.reg false [⟨some 15, .move (.t 13), none, [], []⟩,
    ⟨some 5, .move (.t 15), none, [], []⟩]) (slices_Equal_sbool_bool.c17)) (slices_Equal_sbool_bool.c16))) (slices_Equal_sbool_bool.c15)
def slices_Equal_sbool_bool.c12 : Cd := .seq (.cond (.t 14) (.seq (.tidy [14] [] [] none) (slices_Equal_sbool_bool.c14)) (.seq (.tidy [14] [] [] none) (slices_Equal_sbool_bool.c24))) (slices_Equal_sbool_bool.c13)
def slices_Equal_sbool_bool.c11 : Cd := .tidy [5] [] [] (some 0)
def slices_Equal_sbool_bool.c10 : Cd := .seq (.seq (.reg false [⟨some 14, .bin .lss (.t 13) (.t 12), none, [], []⟩]) (slices_Equal_sbool_bool.c12)) (slices_Equal_sbool_bool.c11)
def slices_Equal_sbool_bool.c8 : Cd := .block 0 (.loop (slices_Equal_sbool_bool.c10))
def slices_Equal_sbool_bool.c25 : Cd := .ret
def slices_Equal_sbool_bool.c7 : Cd := .seq (.reg false [⟨some 4, .move (.c .bool true), none, [], []⟩]) (slices_Equal_sbool_bool.c25)
def slices_Equal_sbool_bool.c1 : Cd := .seq (.seq (.seq (.reg false [⟨some 11, .move (.t 0), none, [], []⟩,
    ⟨some 12, .len (.t 11), none, [], []⟩,
    ⟨some 13, .move (.c (.int .i64) (0 : Int)), none, [], []⟩]) (slices_Equal_sbool_bool.c9)) (slices_Equal_sbool_bool.c8)) (slices_Equal_sbool_bool.c7)
def slices_Equal_sbool_bool.c0 : Cd := .seq (.seq (.seq (.reg false [⟨some 6, .move (.t 0), none, [], []⟩,
    ⟨some 7, .len (.t 6), none, [], []⟩,
    ⟨some 8, .move (.t 1), none, [], []⟩,
    ⟨some 9, .len (.t 8), none, [], []⟩,
    ⟨some 10, .bin .neq (.t 7) (.t 9), none, [], []⟩]) (slices_Equal_sbool_bool.c3)) (slices_Equal_sbool_bool.c2)) (slices_Equal_sbool_bool.c1)
def slices_Equal_sbool_bool.fn : Fn := ⟨2, [.tmp 4], .seq (.reg false [⟨some 4, .move (.c .bool false), none, [], []⟩]) (slices_Equal_sbool_bool.c0)⟩
def desc_sameDesc.c2 : Cd := .tidy [5, 6, 7, 8, 9, 10, 11, 12, 13, 14, 15, 16, 17, 18, 19, 20, 21, 22, 23, 24, 25, 26, 27, 28, 29, 30, 31, 32, 33, 34, 35, 36, 37, 38, 39, 40, 41, 42, 43, 44, 45, 46, 47, 48, 49, 50, 51, 52, 53, 54, 55, 56, 57, 58] [] [] none
def desc_sameDesc.c1 : Cd := .ret
def desc_sameDesc.c0 : Cd := .seq (.seq (.reg false [⟨some 5, .fieldAddr (.d tDesc) 5 (.t 2), none, [], []⟩,
    ⟨some 6, .load (.d (.int .i64)) (.t 5), none, [], []⟩,
    ⟨some 7, .fieldAddr (.d tDesc) 5 (.t 3), none, [], []⟩,
    ⟨some 8, .load (.d (.int .i64)) (.t 7), none, [], []⟩,
    ⟨some 9, .bin .eql (.t 6) (.t 8), none, [], []⟩,
    ⟨some 10, .move (.t 9), none, [], []⟩,
    ⟨some 11, .fieldAddr (.d tDesc) 6 (.t 2), some (10, true), [], []⟩,
    ⟨some 12, .load (.d (.int .i64)) (.t 11), some (10, true), [], []⟩,
    ⟨some 13, .fieldAddr (.d tDesc) 6 (.t 3), some (10, true), [], []⟩,
    ⟨some 14, .load (.d (.int .i64)) (.t 13), some (10, true), [], []⟩,
    ⟨some 15, .bin .eql (.t 12) (.t 14), some (10, true), [], []⟩,
    ⟨some 16, .pick (.t 10) (.t 15) (.c .bool false), none, [], []⟩,
    ⟨some 17, .move (.t 16), none, [], []⟩,
    ⟨some 18, .fieldAddr (.d tDesc) 7 (.t 2), some (17, true), [], []⟩,
    ⟨some 19, .load (.d (.int .i64)) (.t 18), some (17, true), [], []⟩,
    ⟨some 20, .fieldAddr (.d tDesc) 7 (.t 3), some (17, true), [], []⟩,
    ⟨some 21, .load (.d (.int .i64)) (.t 20), some (17, true), [], []⟩,
    ⟨some 22, .bin .eql (.t 19) (.t 21), some (17, true), [], []⟩,
    ⟨some 23, .pick (.t 17) (.t 22) (.c .bool false), none, [], []⟩,
    ⟨some 24, .move (.t 23), none, [], []⟩,
    ⟨some 25, .fieldAddr (.d tDesc) 0 (.t 2), some (24, true), [], []⟩,
    ⟨some 26, .load (.d (.sl (.arr 4 (.int .i64)))) (.t 25), some (24, true), [], []⟩,
    ⟨some 27, .fieldAddr (.d tDesc) 0 (.t 3), some (24, true), [], []⟩,
    ⟨some 28, .load (.d (.sl (.arr 4 (.int .i64)))) (.t 27), some (24, true), [], []⟩,
    ⟨some 29, .call (.f 51) [(.t 26), (.t 28)] [.d .bool] [] false, some (24, true), [], []⟩,
    ⟨some 30, .pick (.t 24) (.t 29) (.c .bool false), none, [], []⟩,
    ⟨some 31, .move (.t 30), none, [], []⟩,
    ⟨some 32, .fieldAddr (.d tDesc) 1 (.t 2), some (31, true), [], []⟩,
    ⟨some 33, .load (.d (.sl (.int .i64))) (.t 32), some (31, true), [], []⟩,
    ⟨some 34, .fieldAddr (.d tDesc) 1 (.t 3), some (31, true), [], []⟩,
    ⟨some 35, .load (.d (.sl (.int .i64))) (.t 34), some (31, true), [], []⟩,
    ⟨some 36, .call (.f 40) [(.t 33), (.t 35)] [.d .bool] [] false, some (31, true), [], []⟩,
    ⟨some 37, .pick (.t 31) (.t 36) (.c .bool false), none, [], []⟩,
    ⟨some 38, .move (.t 37), none, [], []⟩,
    ⟨some 39, .fieldAddr (.d tDesc) 2 (.t 2), some (38, true), [], []⟩,
    ⟨some 40, .load (.d (.sl (.int .i64))) (.t 39), some (38, true), [], []⟩,
    ⟨some 41, .fieldAddr (.d tDesc) 2 (.t 3), some (38, true), [], []⟩,
    ⟨some 42, .load (.d (.sl (.int .i64))) (.t 41), some (38, true), [], []⟩,
    ⟨some 43, .call (.f 40) [(.t 40), (.t 42)] [.d .bool] [] false, some (38, true), [], []⟩,
    ⟨some 44, .pick (.t 38) (.t 43) (.c .bool false), none, [], []⟩,
    ⟨some 45, .move (.t 44), none, [], []⟩,
    ⟨some 46, .fieldAddr (.d tDesc) 3 (.t 2), some (45, true), [], []⟩,
    ⟨some 47, .load (.d (.sl (.int .i64))) (.t 46), some (45, true), [], []⟩,
    ⟨some 48, .fieldAddr (.d tDesc) 3 (.t 3), some (45, true), [], []⟩,
    ⟨some 49, .load (.d (.sl (.int .i64))) (.t 48), some (45, true), [], []⟩,
    ⟨some 50, .call (.f 40) [(.t 47), (.t 49)] [.d .bool] [] false, some (45, true), [], []⟩,
    ⟨some 51, .pick (.t 45) (.t 50) (.c .bool false), none, [], []⟩,
    ⟨some 52, .move (.t 51), none, [], []⟩,
    ⟨some 53, .fieldAddr (.d tDesc) 4 (.t 2), some (52, true), [], []⟩,
    ⟨some 54, .load (.d (.sl .bool)) (.t 53), some (52, true), [], []⟩,
    ⟨some 55, .fieldAddr (.d tDesc) 4 (.t 3), some (52, true), [], []⟩,
    ⟨some 56, .load (.d (.sl .bool)) (.t 55), some (52, true), [], []⟩,
    ⟨some 57, .call (.f 52) [(.t 54), (.t 56)] [.d .bool] [] false, some (52, true), [], []⟩,
    ⟨some 58, .pick (.t 52) (.t 57) (.c .bool false), none, [], []⟩,
    ⟨some 4, .move (.t 58), none, [], []⟩]) (desc_sameDesc.c2)) (desc_sameDesc.c1)
def desc_sameDesc.fn : Fn := ⟨2, [.tmp 4], .seq (.reg false [⟨some 2, .box 0 (.t 0), none, [], []⟩,
    ⟨some 3, .box 1 (.t 1), none, [], []⟩,
    ⟨some 4, .move (.c .bool false), none, [], []⟩]) (desc_sameDesc.c0)⟩
def slices_Equal_sapi_Place_api_Place.c3 : Cd := .tidy [6, 7, 8, 9] [] [] none
def slices_Equal_sapi_Place_api_Place.c5 : Cd := .ret
def slices_Equal_sapi_Place_api_Place.c4 : Cd := .seq (.reg false [⟨some 4, .move (.c .bool false), none, [], []⟩]) (slices_Equal_sapi_Place_api_Place.c5)
def slices_Equal_sapi_Place_api_Place.c6 : Cd := .skip
def slices_Equal_sapi_Place_api_Place.c2 : Cd := .cond (.t 10) (.seq (.tidy [10] [] [] none) (slices_Equal_sapi_Place_api_Place.c4)) (.seq (.tidy [10] [] [] none) (slices_Equal_sapi_Place_api_Place.c6))
def slices_Equal_sapi_Place_api_Place.c9 : Cd := .tidy [11] [] [] none
def slices_Equal_sapi_Place_api_Place.c14 : Cd := .skip
def slices_Equal_sapi_Place_api_Place.c24 : Cd := .exit 0
def slices_Equal_sapi_Place_api_Place.c17 : Cd := .tidy [15] [] [] none
def slices_Equal_sapi_Place_api_Place.c19 : Cd := .tidy [16, 17, 18, 19, 20, 21, 22, 23] [] [] none
def slices_Equal_sapi_Place_api_Place.c21 : Cd := .ret
def slices_Equal_sapi_Place_api_Place.c20 : Cd := .seq (.reg false [⟨some 4, .move (.c .bool false), none, [], []⟩]) (slices_Equal_sapi_Place_api_Place.c21)
def slices_Equal_sapi_Place_api_Place.c22 : Cd := .skip
def slices_Equal_sapi_Place_api_Place.c18 : Cd := .cond (.t 24) (.seq (.tidy [24] [] [] none) (slices_Equal_sapi_Place_api_Place.c20)) (.seq (.tidy [24] [] [] none) (slices_Equal_sapi_Place_api_Place.c22))
def slices_Equal_sapi_Place_api_Place.c16 : Cd := .seq (.seq (.reg true [⟨some 16, .move (.t 0), none, [], []⟩,
    ⟨some 17, .move (.t 5), none, [], []⟩,
    ⟨some 18, .index (.sl tPlace) (.t 16) (.t 17), none, [], []⟩,
    ⟨some 19, .load (.d tPlace) (.t 18), none, [], []⟩,
    ⟨some 20, .move (.t 1), none, [], []⟩,
    ⟨some 21, .move (.t 5), none, [], []⟩,
    ⟨some 22, .index (.sl tPlace) (.t 20) (.t 21), none, [], []⟩,
    ⟨some 23, .load (.d tPlace) (.t 22), none, [], []⟩,
    ⟨some 24, .eqs tPlace true (.t 19) (.t 23), none, [], []⟩]) (slices_Equal_sapi_Place_api_Place.c19)) (slices_Equal_sapi_Place_api_Place.c18)
def slices_Equal_sapi_Place_api_Place.c23 : Cd := .tidy [25] [] [] none
def slices_Equal_sapi_Place_api_Place.c15 : Cd := .seq (.reg false [⟨some 25, .bin .add (.t 13) (.c (.int .i64) (1 : Int)), none, [], []⟩,
    ⟨some 13, .move (.t 25), none, [], []⟩]) (slices_Equal_sapi_Place_api_Place.c23)
def slices_Equal_sapi_Place_api_Place.c13 : Cd := .seq (.block 1 (.seq (.seq (.reg false [⟨some 15, .move (.t 13), none, [], []⟩,
    ⟨some 5, .move (.t 15), none, [], []⟩]) (slices_Equal_sapi_Place_api_Place.c17)) (slices_Equal_sapi_Place_api_Place.c16))) (slices_Equal_sapi_Place_api_Place.c15)
def slices_Equal_sapi_Place_api_Place.c12 : Cd := .seq (.cond (.t 14) (.seq (.tidy [14] [] [] none) (slices_Equal_sapi_Place_api_Place.c14)) (.seq (.tidy [14] [] [] none) (slices_Equal_sapi_Place_api_Place.c24))) (slices_Equal_sapi_Place_api_Place.c13)
def slices_Equal_sapi_Place_api_Place.c11 : Cd := .tidy [5] [] [] (some 0)
def slices_Equal_sapi_Place_api_Place.c10 : Cd := .seq (.seq (.reg false [⟨some 14, .bin .lss (.t 13) (.t 12), none, [], []⟩]) (slices_Equal_sapi_Place_api_Place.c12)) (slices_Equal_sapi_Place_api_Place.c11)
def slices_Equal_sapi_Place_api_Place.c8 : Cd := .block 0 (.loop (slices_Equal_sapi_Place_api_Place.c10))
def slices_Equal_sapi_Place_api_Place.c25 : Cd := .ret
def slices_Equal_sapi_Place_api_Place.c7 : Cd := .seq (.reg false [⟨some 4, .move (.c .bool true), none, [], []⟩]) (slices_Equal_sapi_Place_api_Place.c25)
def slices_Equal_sapi_Place_api_Place.c1 : Cd := .seq (.seq (.seq (.reg false [⟨some 11, .move (.t 0), none, [], []⟩,
    ⟨some 12, .len (.t 11), none, [], []⟩,
    ⟨some 13, .move (.c (.int .i64) (0 : Int)), none, [], []⟩]) (slices_Equal_sapi_Place_api_Place.c9)) (slices_Equal_sapi_Place_api_Place.c8)) (slices_Equal_sapi_Place_api_Place.c7)
def slices_Equal_sapi_Place_api_Place.c0 : Cd := .seq (.seq (.seq (.reg false [⟨some 6, .move (.t 0), none, [], []⟩,
    ⟨some 7, .len (.t 6), none, [], []⟩,
    ⟨some 8, .move (.t 1), none, [], []⟩,
    ⟨some 9, .len (.t 8), none, [], []⟩,
    ⟨some 10, .bin .neq (.t 7) (.t 9), none, [], []⟩]) (slices_Equal_sapi_Place_api_Place.c3)) (slices_Equal_sapi_Place_api_Place.c2)) (slices_Equal_sapi_Place_api_Place.c1)
def slices_Equal_sapi_Place_api_Place.fn : Fn := ⟨2, [.tmp 4], .seq (.reg false [⟨some 4, .move (.c .bool false), none, [], []⟩]) (slices_Equal_sapi_Place_api_Place.c0)⟩
def desc_Same.c2 : Cd := .tidy [5, 6, 7, 8, 9, 10, 11, 12, 13, 14, 15, 16, 17, 18, 19, 20, 21, 22, 23, 24, 25, 26, 27, 28, 29, 30] [] [] none
def desc_Same.c1 : Cd := .ret
def desc_Same.c0 : Cd := .seq (.seq (.reg false [⟨some 5, .fieldAddr (.d tWorld) 0 (.t 2), none, [], []⟩,
    ⟨some 6, .load (.d tDesc) (.t 5), none, [], []⟩,
    ⟨some 7, .fieldAddr (.d tWorld) 0 (.t 3), none, [], []⟩,
    ⟨some 8, .load (.d tDesc) (.t 7), none, [], []⟩,
    ⟨some 9, .call (.f 39) [(.t 6), (.t 8)] [.d .bool] [] false, none, [], []⟩,
    ⟨some 10, .move (.t 9), none, [], []⟩,
    ⟨some 11, .fieldAddr (.d tWorld) 1 (.t 2), some (10, true), [], []⟩,
    ⟨some 12, .load (.d (.sl (.int .i64))) (.t 11), some (10, true), [], []⟩,
    ⟨some 13, .fieldAddr (.d tWorld) 1 (.t 3), some (10, true), [], []⟩,
    ⟨some 14, .load (.d (.sl (.int .i64))) (.t 13), some (10, true), [], []⟩,
    ⟨some 15, .call (.f 40) [(.t 12), (.t 14)] [.d .bool] [] false, some (10, true), [], []⟩,
    ⟨some 16, .pick (.t 10) (.t 15) (.c .bool false), none, [], []⟩,
    ⟨some 17, .move (.t 16), none, [], []⟩,
    ⟨some 18, .fieldAddr (.d tWorld) 2 (.t 2), some (17, true), [], []⟩,
    ⟨some 19, .load (.d (.sl (.int .i64))) (.t 18), some (17, true), [], []⟩,
    ⟨some 20, .fieldAddr (.d tWorld) 2 (.t 3), some (17, true), [], []⟩,
    ⟨some 21, .load (.d (.sl (.int .i64))) (.t 20), some (17, true), [], []⟩,
    ⟨some 22, .call (.f 40) [(.t 19), (.t 21)] [.d .bool] [] false, some (17, true), [], []⟩,
    ⟨some 23, .pick (.t 17) (.t 22) (.c .bool false), none, [], []⟩,
    ⟨some 24, .move (.t 23), none, [], []⟩,
    ⟨some 25, .fieldAddr (.d tWorld) 3 (.t 2), some (24, true), [], []⟩,
    ⟨some 26, .load (.d (.sl tPlace)) (.t 25), some (24, true), [], []⟩,
    ⟨some 27, .fieldAddr (.d tWorld) 3 (.t 3), some (24, true), [], []⟩,
    ⟨some 28, .load (.d (.sl tPlace)) (.t 27), some (24, true), [], []⟩,
    ⟨some 29, .call (.f 41) [(.t 26), (.t 28)] [.d .bool] [] false, some (24, true), [], []⟩,
    ⟨some 30, .pick (.t 24) (.t 29) (.c .bool false), none, [], []⟩,
    ⟨some 4, .move (.t 30), none, [], []⟩]) (desc_Same.c2)) (desc_Same.c1)
def desc_Same.fn : Fn := ⟨2, [.tmp 4], .seq (.reg false [⟨some 2, .box 0 (.t 0), none, [], []⟩,
    ⟨some 3, .box 1 (.t 1), none, [], []⟩,
    ⟨some 4, .move (.c .bool false), none, [], []⟩]) (desc_Same.c0)⟩
def innkeeplaw06_awake.c2 : Cd := .tidy [8, 9, 10, 11, 12, 13, 14, 15] [] [] none
def innkeeplaw06_awake.c4 : Cd := .tidy [16, 17, 18, 19, 20] [] [] none
def innkeeplaw06_awake.c6 : Cd := .tidy [4, 21, 22, 23, 24, 25] [] [] none
def innkeeplaw06_awake.c9 : Cd := .tidy [26, 27, 28, 29, 30, 31, 32, 33, 34] [] [] none
def innkeeplaw06_awake.c11 : Cd := .ret
def innkeeplaw06_awake.c10 : Cd := .seq (.reg false [⟨some 0, .move (.c .bool false), none, [], []⟩]) (innkeeplaw06_awake.c11)
def innkeeplaw06_awake.c12 : Cd := .skip
def innkeeplaw06_awake.c8 : Cd := .cond (.t 35) (.seq (.tidy [35] [] [] none) (innkeeplaw06_awake.c10)) (.seq (.tidy [35] [] [] none) (innkeeplaw06_awake.c12))
def innkeeplaw06_awake.c14 : Cd := .tidy [36, 37] [] [] none
def innkeeplaw06_awake.c16 : Cd := .tidy [38, 39, 40, 41] [] [] none
def innkeeplaw06_awake.c18 : Cd := .tidy [42, 43] [] [] none
def innkeeplaw06_awake.c20 : Cd := .tidy [44, 45, 46, 47] [] [] none
def innkeeplaw06_awake.c22 : Cd := .tidy [48, 49, 50, 51, 52, 53, 54, 55, 56, 57, 58, 59, 60, 61, 62, 63, 64, 65, 66, 67, 68, 69, 70, 71, 72, 73, 74, 75, 76, 77, 78, 79, 80, 81, 82, 83, 84, 85, 86, 87, 88, 89, 90, 91, 92, 93, 94] [] [] none
def innkeeplaw06_awake.c21 : Cd := .ret
def innkeeplaw06_awake.c19 : Cd := .seq (.seq (.reg true [⟨some 48, .move (.t 3), none, [], []⟩,
    ⟨some 49, .bin .eql (.t 48) (.c (.int .i64) (0 : Int)), none, [], []⟩,
    ⟨some 50, .move (.t 49), none, [], []⟩,
    ⟨some 51, .move (.t 5), some (50, true), [], []⟩,
    ⟨some 52, .bin .eql (.t 51) (.c (.int .i64) (1 : Int)), some (50, true), [], []⟩,
    ⟨some 53, .pick (.t 50) (.t 52) (.c .bool false), none, [], []⟩,
    ⟨some 54, .move (.t 53), none, [], []⟩,
    ⟨some 55, .fieldAddr (.d tWorld) 1 (.t 2), some (54, true), [6], []⟩,
    ⟨some 56, .load (.d (.sl (.int .i64))) (.t 55), some (54, true), [6], []⟩,
    ⟨some 57, .index (.sl (.int .i64)) (.t 56) (.c (.int .i64) (0 : Int)), some (54, true), [], []⟩,
    ⟨some 58, .load (.d (.int .i64)) (.t 57), some (54, true), [], []⟩,
    ⟨some 59, .bin .eql (.t 58) (.c (.int .i64) (1 : Int)), some (54, true), [], []⟩,
    ⟨some 60, .pick (.t 54) (.t 59) (.c .bool false), none, [], []⟩,
    ⟨some 61, .move (.t 60), none, [], []⟩,
    ⟨some 62, .load (.d tWorld) (.t 2), some (61, true), [6], []⟩,
    ⟨some 63, .call (.f 13) [(.t 62)] [.d .bool] [] false, some (61, true), [], []⟩,
    ⟨some 64, .pick (.t 61) (.t 63) (.c .bool false), none, [], []⟩,
    ⟨some 65, .move (.t 64), none, [], []⟩,
    ⟨some 66, .load (.d tWorld) (.t 6), some (65, true), [8], []⟩,
    ⟨some 67, .call (.f 13) [(.t 66)] [.d .bool] [] false, some (65, true), [10], []⟩,
    ⟨some 68, .pick (.t 65) (.t 67) (.c .bool false), none, [], []⟩,
    ⟨some 69, .move (.t 68), none, [], []⟩,
    ⟨some 70, .load (.d tWorld) (.t 7), some (69, true), [9], []⟩,
    ⟨some 71, .call (.f 13) [(.t 70)] [.d .bool] [] false, some (69, true), [11], []⟩,
    ⟨some 72, .not (.t 71), some (69, true), [], []⟩,
    ⟨some 73, .pick (.t 69) (.t 72) (.c .bool false), none, [], []⟩,
    ⟨some 74, .move (.t 73), none, [], []⟩,
    ⟨some 75, .load (.d tWorld) (.t 2), some (74, true), [6], []⟩,
    ⟨some 76, .load (.d tWorld) (.t 6), some (74, true), [8], []⟩,
    ⟨some 77, .call (.f 15) [(.t 75), (.t 76)] [.d .bool] [] false, some (74, true), [10], []⟩,
    ⟨some 78, .not (.t 77), some (74, true), [], []⟩,
    ⟨some 79, .pick (.t 74) (.t 78) (.c .bool false), none, [], []⟩,
    ⟨some 80, .move (.t 79), none, [], []⟩,
    ⟨some 81, .load (.d tWorld) (.t 2), some (80, true), [6], []⟩,
    ⟨some 82, .load (.d tWorld) (.t 2), some (80, true), [6], []⟩,
    ⟨some 83, .call (.f 17) [(.t 82)] [.d tWorld] [] false, some (80, true), [], []⟩,
    ⟨some 84, .call (.f 15) [(.t 81), (.t 83)] [.d .bool] [] false, some (80, true), [], []⟩,
    ⟨some 85, .pick (.t 80) (.t 84) (.c .bool false), none, [], []⟩,
    ⟨some 86, .move (.t 85), none, [], []⟩,
    ⟨some 87, .load (.d tDesc) (.t 1), some (86, true), [5], []⟩,
    ⟨some 88, .call (.f 11) [(.t 87)] [.d .bool] [] false, some (86, true), [0, 1, 2, 3, 4], []⟩,
    ⟨some 89, .pick (.t 86) (.t 88) (.c .bool false), none, [], []⟩,
    ⟨some 90, .move (.t 89), none, [], []⟩,
    ⟨some 91, .build tDesc [] [], some (90, true), [], []⟩,
    ⟨some 92, .call (.f 11) [(.t 91)] [.d .bool] [] false, some (90, true), [], []⟩,
    ⟨some 93, .not (.t 92), some (90, true), [], []⟩,
    ⟨some 94, .pick (.t 90) (.t 93) (.c .bool false), none, [], []⟩,
    ⟨some 0, .move (.t 94), none, [], []⟩]) (innkeeplaw06_awake.c22)) (innkeeplaw06_awake.c21)
def innkeeplaw06_awake.c17 : Cd := .seq (.seq (.reg false [⟨some 44, .fieldAddr (.d tWorld) 3 (.t 7), none, [], []⟩,
    ⟨some 45, .load (.d (.sl tPlace)) (.t 44), none, [], []⟩,
    ⟨some 46, .build tPlace [(0, (.c (.int .i64) (2 : Int))), (1, (.c (.int .i64) (0 : Int)))] [], none, [], []⟩,
    ⟨some 47, .index (.sl tPlace) (.t 45) (.c (.int .i64) (1 : Int)), none, [], []⟩,
    ⟨none, .store (.d tPlace) (.t 47) (.t 46), none, [], []⟩]) (innkeeplaw06_awake.c20)) (innkeeplaw06_awake.c19)
def innkeeplaw06_awake.c15 : Cd := .seq (.seq (.reg false [⟨some 42, .load (.d tWorld) (.t 6), none, [], []⟩,
    ⟨some 43, .call (.f 17) [(.t 42)] [.d tWorld] [((0, [3]), 11)] false, none, [], []⟩,
    ⟨some 7, .newbox 9 tWorld [], none, [], []⟩,
    ⟨none, .store (.d tWorld) (.t 7) (.t 43), none, [], []⟩]) (innkeeplaw06_awake.c18)) (innkeeplaw06_awake.c17)
def innkeeplaw06_awake.c13 : Cd := .seq (.seq (.reg false [⟨some 38, .fieldAddr (.d tWorld) 3 (.t 6), none, [], []⟩,
    ⟨some 39, .load (.d (.sl tPlace)) (.t 38), none, [], []⟩,
    ⟨some 40, .build tPlace [(0, (.c (.int .i64) (2 : Int))), (1, (.c (.int .i64) (1 : Int)))] [], none, [], []⟩,
    ⟨some 41, .index (.sl tPlace) (.t 39) (.c (.int .i64) (0 : Int)), none, [], []⟩,
    ⟨none, .store (.d tPlace) (.t 41) (.t 40), none, [], []⟩]) (innkeeplaw06_awake.c16)) (innkeeplaw06_awake.c15)
def innkeeplaw06_awake.c7 : Cd := .seq (.seq (.reg false [⟨some 36, .load (.d tWorld) (.t 2), none, [], []⟩,
    ⟨some 37, .call (.f 17) [(.t 36)] [.d tWorld] [((0, [3]), 10)] false, none, [], []⟩,
    ⟨some 6, .newbox 8 tWorld [], none, [], []⟩,
    ⟨none, .store (.d tWorld) (.t 6) (.t 37), none, [], []⟩]) (innkeeplaw06_awake.c14)) (innkeeplaw06_awake.c13)
def innkeeplaw06_awake.c5 : Cd := .seq (.seq (.seq (.reg false [⟨some 26, .fieldAddr (.d tWorld) 3 (.t 2), none, [], []⟩,
    ⟨some 27, .load (.d (.sl tPlace)) (.t 26), none, [], []⟩,
    ⟨some 28, .len (.t 27), none, [], []⟩,
    ⟨some 29, .bin .neq (.t 28) (.c (.int .i64) (2 : Int)), none, [], []⟩,
    ⟨some 30, .move (.t 29), none, [], []⟩,
    ⟨some 31, .fieldAddr (.d tWorld) 1 (.t 2), some (30, false), [], []⟩,
    ⟨some 32, .load (.d (.sl (.int .i64))) (.t 31), some (30, false), [], []⟩,
    ⟨some 33, .len (.t 32), some (30, false), [], []⟩,
    ⟨some 34, .bin .neq (.t 33) (.c (.int .i64) (1 : Int)), some (30, false), [], []⟩,
    ⟨some 35, .pick (.t 30) (.c .bool true) (.t 34), none, [], []⟩]) (innkeeplaw06_awake.c9)) (innkeeplaw06_awake.c8)) (innkeeplaw06_awake.c7)
def innkeeplaw06_awake.c3 : Cd := .seq (.seq (.reg false [⟨some 22, .build tDesc [] [], none, [], []⟩,
    ⟨some 23, .call (.f 10) [(.t 22)] [.d tWorld, .d (.int .i64)] [] false, none, [], []⟩,
    ⟨some 21, .move (.t 23), none, [], []⟩,
    ⟨some 24, .extract (.t 21) 0, none, [], []⟩,
    ⟨some 25, .extract (.t 21) 1, none, [], []⟩,
    ⟨some 4, .newbox 7 tWorld [], none, [], []⟩,
    ⟨none, .store (.d tWorld) (.t 4) (.t 24), none, [], []⟩,
    ⟨some 5, .move (.t 25), none, [], []⟩]) (innkeeplaw06_awake.c6)) (innkeeplaw06_awake.c5)
def innkeeplaw06_awake.c1 : Cd := .seq (.seq (.reg false [⟨some 17, .load (.d tDesc) (.t 1), none, [], []⟩,
    ⟨some 18, .call (.f 10) [(.t 17)] [.d tWorld, .d (.int .i64)] [] false, none, [], []⟩,
    ⟨some 16, .move (.t 18), none, [], []⟩,
    ⟨some 19, .extract (.t 16) 0, none, [], []⟩,
    ⟨some 20, .extract (.t 16) 1, none, [], []⟩,
    ⟨some 2, .newbox 6 tWorld [], none, [], []⟩,
    ⟨none, .store (.d tWorld) (.t 2) (.t 19), none, [], []⟩,
    ⟨some 3, .move (.t 20), none, [], []⟩]) (innkeeplaw06_awake.c4)) (innkeeplaw06_awake.c3)
def innkeeplaw06_awake.c0 : Cd := .seq (.seq (.reg false [⟨some 8, .build (.arr 4 (.int .i64)) [(0, (.c (.int .i64) (1 : Int))), (1, (.c (.int .i64) ((-1) : Int))), (2, (.c (.int .i64) ((-1) : Int))), (3, (.c (.int .i64) ((-1) : Int)))] [], none, [], []⟩,
    ⟨some 9, .build (.arr 4 (.int .i64)) [(0, (.c (.int .i64) ((-1) : Int))), (1, (.c (.int .i64) ((-1) : Int))), (2, (.c (.int .i64) (0 : Int))), (3, (.c (.int .i64) ((-1) : Int)))] [], none, [], []⟩,
    ⟨some 10, .slice 0 (.arr 4 (.int .i64)) [(.t 8), (.t 9)], none, [], []⟩,
    ⟨some 11, .slice 1 (.int .i64) [(.c (.int .i64) (1 : Int))], none, [], []⟩,
    ⟨some 12, .slice 2 (.int .i64) [(.c (.int .i64) (5 : Int))], none, [], []⟩,
    ⟨some 13, .slice 3 (.int .i64) [(.c (.int .i64) (0 : Int)), (.c (.int .i64) (0 : Int))], none, [], []⟩,
    ⟨some 14, .slice 4 .bool [(.c .bool true), (.c .bool true)], none, [], []⟩,
    ⟨some 15, .build tDesc [(0, (.t 10)), (1, (.t 11)), (2, (.t 12)), (3, (.t 13)), (4, (.t 14)), (5, (.c (.int .i64) (2 : Int))), (6, (.c (.int .i64) (1 : Int))), (7, (.c (.int .i64) (1 : Int)))] [], none, [], []⟩,
    ⟨some 1, .newbox 5 tDesc [], none, [], []⟩,
    ⟨none, .store (.d tDesc) (.t 1) (.t 15), none, [], []⟩]) (innkeeplaw06_awake.c2)) (innkeeplaw06_awake.c1)
def innkeeplaw06_awake.fn : Fn := ⟨0, [.tmp 0], .seq (.reg false [⟨some 0, .move (.c .bool false), none, [], []⟩]) (innkeeplaw06_awake.c0)⟩
def innkeepref06_Few.c2 : Cd := .tidy [4, 5] [] [] none
def innkeepref06_Few.c4 : Cd := .tidy [6, 7, 8, 9, 10, 11, 12, 13, 14, 15, 16, 17, 18, 19, 20, 21, 22, 23, 24, 25, 26, 27, 28, 29, 30, 31, 32, 33, 34, 35, 36, 37, 38, 39, 40, 41, 42, 43, 44, 45, 46, 47, 48, 49, 50, 51] [] [] none
def innkeepref06_Few.c3 : Cd := .ret
def innkeepref06_Few.c1 : Cd := .seq (.seq (.reg false [⟨some 6, .fieldAddr (.d tDesc) 0 (.t 3), none, [], []⟩,
    ⟨some 7, .load (.d (.sl (.arr 4 (.int .i64)))) (.t 6), none, [], []⟩,
    ⟨some 8, .len (.t 7), none, [], []⟩,
    ⟨some 9, .bin .leq (.t 8) (.c (.int .i64) (20 : Int)), none, [], []⟩,
    ⟨some 10, .move (.t 9), none, [], []⟩,
    ⟨some 11, .fieldAddr (.d tDesc) 1 (.t 3), some (10, true), [], []⟩,
    ⟨some 12, .load (.d (.sl (.int .i64))) (.t 11), some (10, true), [], []⟩,
    ⟨some 13, .len (.t 12), some (10, true), [], []⟩,
    ⟨some 14, .bin .leq (.t 13) (.c (.int .i64) (20 : Int)), some (10, true), [], []⟩,
    ⟨some 15, .pick (.t 10) (.t 14) (.c .bool false), none, [], []⟩,
    ⟨some 16, .move (.t 15), none, [], []⟩,
    ⟨some 17, .fieldAddr (.d tDesc) 2 (.t 3), some (16, true), [], []⟩,
    ⟨some 18, .load (.d (.sl (.int .i64))) (.t 17), some (16, true), [], []⟩,
    ⟨some 19, .len (.t 18), some (16, true), [], []⟩,
    ⟨some 20, .bin .leq (.t 19) (.c (.int .i64) (20 : Int)), some (16, true), [], []⟩,
    ⟨some 21, .pick (.t 16) (.t 20) (.c .bool false), none, [], []⟩,
    ⟨some 22, .move (.t 21), none, [], []⟩,
    ⟨some 23, .fieldAddr (.d tDesc) 3 (.t 3), some (22, true), [], []⟩,
    ⟨some 24, .load (.d (.sl (.int .i64))) (.t 23), some (22, true), [], []⟩,
    ⟨some 25, .len (.t 24), some (22, true), [], []⟩,
    ⟨some 26, .bin .leq (.t 25) (.c (.int .i64) (40 : Int)), some (22, true), [], []⟩,
    ⟨some 27, .pick (.t 22) (.t 26) (.c .bool false), none, [], []⟩,
    ⟨some 28, .move (.t 27), none, [], []⟩,
    ⟨some 29, .fieldAddr (.d tDesc) 4 (.t 3), some (28, true), [], []⟩,
    ⟨some 30, .load (.d (.sl .bool)) (.t 29), some (28, true), [], []⟩,
    ⟨some 31, .len (.t 30), some (28, true), [], []⟩,
    ⟨some 32, .bin .leq (.t 31) (.c (.int .i64) (40 : Int)), some (28, true), [], []⟩,
    ⟨some 33, .pick (.t 28) (.t 32) (.c .bool false), none, [], []⟩,
    ⟨some 34, .move (.t 33), none, [], []⟩,
    ⟨some 35, .fieldAddr (.d tWorld) 1 (.t 1), some (34, true), [], []⟩,
    ⟨some 36, .load (.d (.sl (.int .i64))) (.t 35), some (34, true), [], []⟩,
    ⟨some 37, .len (.t 36), some (34, true), [], []⟩,
    ⟨some 38, .bin .leq (.t 37) (.c (.int .i64) (40 : Int)), some (34, true), [], []⟩,
    ⟨some 39, .pick (.t 34) (.t 38) (.c .bool false), none, [], []⟩,
    ⟨some 40, .move (.t 39), none, [], []⟩,
    ⟨some 41, .fieldAddr (.d tWorld) 2 (.t 1), some (40, true), [], []⟩,
    ⟨some 42, .load (.d (.sl (.int .i64))) (.t 41), some (40, true), [], []⟩,
    ⟨some 43, .len (.t 42), some (40, true), [], []⟩,
    ⟨some 44, .bin .leq (.t 43) (.c (.int .i64) (40 : Int)), some (40, true), [], []⟩,
    ⟨some 45, .pick (.t 40) (.t 44) (.c .bool false), none, [], []⟩,
    ⟨some 46, .move (.t 45), none, [], []⟩,
    ⟨some 47, .fieldAddr (.d tWorld) 3 (.t 1), some (46, true), [], []⟩,
    ⟨some 48, .load (.d (.sl tPlace)) (.t 47), some (46, true), [], []⟩,
    ⟨some 49, .len (.t 48), some (46, true), [], []⟩,
    ⟨some 50, .bin .leq (.t 49) (.c (.int .i64) (40 : Int)), some (46, true), [], []⟩,
    ⟨some 51, .pick (.t 46) (.t 50) (.c .bool false), none, [], []⟩,
    ⟨some 2, .move (.t 51), none, [], []⟩]) (innkeepref06_Few.c4)) (innkeepref06_Few.c3)
def innkeepref06_Few.c0 : Cd := .seq (.seq (.reg false [⟨some 4, .fieldAddr (.d tWorld) 0 (.t 1), none, [], []⟩,
    ⟨some 5, .load (.d tDesc) (.t 4), none, [], []⟩,
    ⟨some 3, .newbox 1 tDesc [], none, [], []⟩,
    ⟨none, .store (.d tDesc) (.t 3) (.t 5), none, [], []⟩]) (innkeepref06_Few.c2)) (innkeepref06_Few.c1)
def innkeepref06_Few.fn : Fn := ⟨1, [.tmp 2], .seq (.reg false [⟨some 1, .box 0 (.t 0), none, [], []⟩,
    ⟨some 2, .move (.c .bool false), none, [], []⟩]) (innkeepref06_Few.c0)⟩
def innkeepref06_in.c2 : Cd := .tidy [5, 6, 7, 8, 9, 10, 11] [] [] none
def innkeepref06_in.c1 : Cd := .ret
def innkeepref06_in.c0 : Cd := .seq (.seq (.reg false [⟨some 5, .move (.t 0), none, [], []⟩,
    ⟨some 6, .bin .geq (.t 5) (.c (.int .i64) (0 : Int)), none, [], []⟩,
    ⟨some 7, .move (.t 6), none, [], []⟩,
    ⟨some 8, .move (.t 0), some (7, true), [], []⟩,
    ⟨some 9, .move (.t 1), some (7, true), [], []⟩,
    ⟨some 10, .bin .lss (.t 8) (.t 9), some (7, true), [], []⟩,
    ⟨some 11, .pick (.t 7) (.t 10) (.c .bool false), none, [], []⟩,
    ⟨some 4, .move (.t 11), none, [], []⟩]) (innkeepref06_in.c2)) (innkeepref06_in.c1)
def innkeepref06_in.fn : Fn := ⟨2, [.tmp 4], .seq (.reg false [⟨some 4, .move (.c .bool false), none, [], []⟩]) (innkeepref06_in.c0)⟩
def innkeepref01_Is.c2 : Cd := .tidy [3, 4, 5, 6, 7, 8] [] [] none
def innkeepref01_Is.c1 : Cd := .ret
def innkeepref01_Is.c0 : Cd := .seq (.seq (.reg false [⟨some 3, .move (.t 0), none, [], []⟩,
    ⟨some 4, .bin .leq (.c (.int .i64) (0 : Int)) (.t 3), none, [], []⟩,
    ⟨some 5, .move (.t 4), none, [], []⟩,
    ⟨some 6, .move (.t 0), some (5, true), [], []⟩,
    ⟨some 7, .bin .leq (.t 6) (.c (.int .i64) (1073741824 : Int)), some (5, true), [], []⟩,
    ⟨some 8, .pick (.t 5) (.t 7) (.c .bool false), none, [], []⟩,
    ⟨some 2, .move (.t 8), none, [], []⟩]) (innkeepref01_Is.c2)) (innkeepref01_Is.c1)
def innkeepref01_Is.fn : Fn := ⟨1, [.tmp 2], .seq (.reg false [⟨some 2, .move (.c .bool false), none, [], []⟩]) (innkeepref01_Is.c0)⟩
def innkeepref06_May.c2 : Cd := .tidy [10, 11, 12] [] [] none
def innkeepref06_May.c5 : Cd := .tidy [13, 14, 15, 16, 17, 18, 19, 20, 21, 22, 23, 24, 25, 26, 27, 28, 29, 30, 31, 32, 33, 34, 35, 36, 37, 38, 39, 40, 41, 42, 43, 44, 45, 46, 47, 48, 49, 50, 51, 52, 53] [] [] none
def innkeepref06_May.c7 : Cd := .ret
def innkeepref06_May.c6 : Cd := .seq (.reg false [⟨some 2, .move (.c .bool false), none, [], []⟩]) (innkeepref06_May.c7)
def innkeepref06_May.c8 : Cd := .skip
def innkeepref06_May.c4 : Cd := .cond (.t 54) (.seq (.tidy [54] [] [] none) (innkeepref06_May.c6)) (.seq (.tidy [54] [] [] none) (innkeepref06_May.c8))
def innkeepref06_May.c11 : Cd := .tidy [55, 56, 57, 58, 59, 60, 61, 62, 63, 64, 65, 66, 67, 68, 69] [] [] none
def innkeepref06_May.c13 : Cd := .ret
def innkeepref06_May.c12 : Cd := .seq (.reg false [⟨some 2, .move (.c .bool false), none, [], []⟩]) (innkeepref06_May.c13)
def innkeepref06_May.c14 : Cd := .skip
def innkeepref06_May.c10 : Cd := .cond (.t 70) (.seq (.tidy [70] [] [] none) (innkeepref06_May.c12)) (.seq (.tidy [70] [] [] none) (innkeepref06_May.c14))
def innkeepref06_May.c21 : Cd := .tidy [71, 72] [] [] none
def innkeepref06_May.c22 : Cd := .skip
def innkeepref06_May.c63 : Cd := .exit 0
def innkeepref06_May.c20 : Cd := .cond (.t 73) (.seq (.tidy [73] [] [] none) (innkeepref06_May.c22)) (.seq (.tidy [73] [] [] none) (innkeepref06_May.c63))
def innkeepref06_May.c30 : Cd := .tidy [76] [] [] none
def innkeepref06_May.c31 : Cd := .skip
def innkeepref06_May.c39 : Cd := .exit 2
def innkeepref06_May.c29 : Cd := .cond (.t 77) (.seq (.tidy [77] [] [] none) (innkeepref06_May.c31)) (.seq (.tidy [77] [] [] none) (innkeepref06_May.c39))
def innkeepref06_May.c34 : Cd := .tidy [80, 81, 82, 83, 84, 85, 86, 87, 88, 89, 90, 91, 92, 93, 94, 95, 96, 97, 98] [] [] none
def innkeepref06_May.c36 : Cd := .ret
def innkeepref06_May.c35 : Cd := .seq (.reg false [⟨some 2, .move (.c .bool false), none, [], []⟩]) (innkeepref06_May.c36)
def innkeepref06_May.c37 : Cd := .skip
def innkeepref06_May.c33 : Cd := .cond (.t 99) (.seq (.tidy [99] [] [] none) (innkeepref06_May.c35)) (.seq (.tidy [99] [] [] none) (innkeepref06_May.c37))
def innkeepref06_May.c38 : Cd := .tidy [78, 79] [] [] none
def innkeepref06_May.c32 : Cd := .seq (.reg false [⟨some 78, .move (.t 5), none, [], []⟩,
    ⟨some 79, .bin .add (.t 78) (.c (.int .i64) (1 : Int)), none, [], []⟩,
    ⟨some 5, .move (.t 79), none, [], []⟩]) (innkeepref06_May.c38)
def innkeepref06_May.c28 : Cd := .seq (.block 3 (.seq (.seq (.reg false [⟨some 80, .fieldAddr (.d tDesc) 0 (.t 1), none, [], []⟩,
    ⟨some 81, .load (.d (.sl (.arr 4 (.int .i64)))) (.t 80), none, [], []⟩,
    ⟨some 82, .move (.t 4), none, [], []⟩,
    ⟨some 83, .move (.t 5), none, [], []⟩,
    ⟨some 84, .index (.sl (.arr 4 (.int .i64))) (.t 81) (.t 82), none, [], []⟩,
    ⟨some 85, .index (.arr 4 (.int .i64)) (.t 84) (.t 83), none, [], []⟩,
    ⟨some 86, .load (.d (.int .i64)) (.t 85), none, [], []⟩,
    ⟨some 87, .bin .neq (.t 86) (.c (.int .i64) ((-1) : Int)), none, [], []⟩,
    ⟨some 88, .move (.t 87), none, [], []⟩,
    ⟨some 89, .fieldAddr (.d tDesc) 0 (.t 1), some (88, true), [], []⟩,
    ⟨some 90, .load (.d (.sl (.arr 4 (.int .i64)))) (.t 89), some (88, true), [], []⟩,
    ⟨some 91, .move (.t 4), some (88, true), [], []⟩,
    ⟨some 92, .move (.t 5), some (88, true), [], []⟩,
    ⟨some 93, .index (.sl (.arr 4 (.int .i64))) (.t 90) (.t 91), some (88, true), [], []⟩,
    ⟨some 94, .index (.arr 4 (.int .i64)) (.t 93) (.t 92), some (88, true), [], []⟩,
    ⟨some 95, .load (.d (.int .i64)) (.t 94), some (88, true), [], []⟩,
    ⟨some 96, .move (.t 3), some (88, true), [], []⟩,
    ⟨some 97, .call (.f 31) [(.t 95), (.t 96)] [.d .bool] [] false, some (88, true), [], []⟩,
    ⟨some 98, .not (.t 97), some (88, true), [], []⟩,
    ⟨some 99, .pick (.t 88) (.t 98) (.c .bool false), none, [], []⟩]) (innkeepref06_May.c34)) (innkeepref06_May.c33))) (innkeepref06_May.c32)
def innkeepref06_May.c27 : Cd := .tidy [] [] [] (some 1)
def innkeepref06_May.c26 : Cd := .seq (.seq (.seq (.seq (.reg false [⟨some 76, .move (.t 5), none, [], []⟩,
    ⟨some 77, .bin .lss (.t 76) (.c (.int .i64) (4 : Int)), none, [], []⟩]) (innkeepref06_May.c30)) (innkeepref06_May.c29)) (innkeepref06_May.c28)) (innkeepref06_May.c27)
def innkeepref06_May.c25 : Cd := .block 2 (.loop (innkeepref06_May.c26))
def innkeepref06_May.c47 : Cd := .tidy [100, 101, 102, 103] [] [] none
def innkeepref06_May.c48 : Cd := .skip
def innkeepref06_May.c56 : Cd := .exit 4
def innkeepref06_May.c46 : Cd := .cond (.t 104) (.seq (.tidy [104] [] [] none) (innkeepref06_May.c48)) (.seq (.tidy [104] [] [] none) (innkeepref06_May.c56))
def innkeepref06_May.c51 : Cd := .tidy [107, 108, 109, 110, 111, 112] [] [] none
def innkeepref06_May.c53 : Cd := .tidy [114, 115] [] [] none
def innkeepref06_May.c52 : Cd := .seq (.reg false [⟨some 114, .move (.t 6), none, [], []⟩,
    ⟨some 115, .bin .add (.t 114) (.c (.int .i64) (1 : Int)), none, [], []⟩,
    ⟨some 6, .move (.t 115), none, [], []⟩]) (innkeepref06_May.c53)
def innkeepref06_May.c55 : Cd := .skip
def innkeepref06_May.c50 : Cd := .cond (.t 113) (.seq (.tidy [113] [] [] none) (innkeepref06_May.c52)) (.seq (.tidy [113] [] [] none) (innkeepref06_May.c55))
def innkeepref06_May.c54 : Cd := .tidy [105, 106] [] [] none
def innkeepref06_May.c49 : Cd := .seq (.reg false [⟨some 105, .move (.t 7), none, [], []⟩,
    ⟨some 106, .bin .add (.t 105) (.c (.int .i64) (1 : Int)), none, [], []⟩,
    ⟨some 7, .move (.t 106), none, [], []⟩]) (innkeepref06_May.c54)
def innkeepref06_May.c45 : Cd := .seq (.block 5 (.seq (.seq (.reg false [⟨some 107, .fieldAddr (.d tDesc) 3 (.t 1), none, [], []⟩,
    ⟨some 108, .load (.d (.sl (.int .i64))) (.t 107), none, [], []⟩,
    ⟨some 109, .move (.t 7), none, [], []⟩,
    ⟨some 110, .index (.sl (.int .i64)) (.t 108) (.t 109), none, [], []⟩,
    ⟨some 111, .load (.d (.int .i64)) (.t 110), none, [], []⟩,
    ⟨some 112, .move (.t 4), none, [], []⟩,
    ⟨some 113, .bin .eql (.t 111) (.t 112), none, [], []⟩]) (innkeepref06_May.c51)) (innkeepref06_May.c50))) (innkeepref06_May.c49)
def innkeepref06_May.c44 : Cd := .tidy [] [] [] (some 1)
def innkeepref06_May.c43 : Cd := .seq (.seq (.seq (.seq (.reg false [⟨some 100, .move (.t 7), none, [], []⟩,
    ⟨some 101, .fieldAddr (.d tDesc) 3 (.t 1), none, [], []⟩,
    ⟨some 102, .load (.d (.sl (.int .i64))) (.t 101), none, [], []⟩,
    ⟨some 103, .len (.t 102), none, [], []⟩,
    ⟨some 104, .bin .lss (.t 100) (.t 103), none, [], []⟩]) (innkeepref06_May.c47)) (innkeepref06_May.c46)) (innkeepref06_May.c45)) (innkeepref06_May.c44)
def innkeepref06_May.c42 : Cd := .block 4 (.loop (innkeepref06_May.c43))
def innkeepref06_May.c58 : Cd := .tidy [116, 117, 118] [] [] none
def innkeepref06_May.c60 : Cd := .ret
def innkeepref06_May.c59 : Cd := .seq (.reg false [⟨some 2, .move (.c .bool false), none, [], []⟩]) (innkeepref06_May.c60)
def innkeepref06_May.c61 : Cd := .skip
def innkeepref06_May.c57 : Cd := .cond (.t 119) (.seq (.tidy [119] [] [] none) (innkeepref06_May.c59)) (.seq (.tidy [119] [] [] none) (innkeepref06_May.c61))
def innkeepref06_May.c41 : Cd := .seq (.seq (.reg false [⟨some 116, .move (.t 6), none, [], []⟩,
    ⟨some 117, .fieldAddr (.d tDesc) 5 (.t 1), none, [], []⟩,
    ⟨some 118, .load (.d (.int .i64)) (.t 117), none, [], []⟩,
    ⟨some 119, .bin .gtr (.t 116) (.t 118), none, [], []⟩]) (innkeepref06_May.c58)) (innkeepref06_May.c57)
def innkeepref06_May.c40 : Cd := .seq (.seq (.reg false [⟨some 7, .move (.c (.int .i64) (0 : Int)), none, [], []⟩]) (innkeepref06_May.c42)) (innkeepref06_May.c41)
def innkeepref06_May.c24 : Cd := .seq (.reg false [⟨some 6, .move (.c (.int .i64) (0 : Int)), none, [], []⟩]) (innkeepref06_May.c40)
def innkeepref06_May.c62 : Cd := .tidy [74, 75] [] [] none
def innkeepref06_May.c23 : Cd := .seq (.reg false [⟨some 74, .move (.t 4), none, [], []⟩,
    ⟨some 75, .bin .add (.t 74) (.c (.int .i64) (1 : Int)), none, [], []⟩,
    ⟨some 4, .move (.t 75), none, [], []⟩]) (innkeepref06_May.c62)
def innkeepref06_May.c19 : Cd := .seq (.block 1 (.seq (.seq (.reg false [⟨some 5, .move (.c (.int .i64) (0 : Int)), none, [], []⟩]) (innkeepref06_May.c25)) (innkeepref06_May.c24))) (innkeepref06_May.c23)
def innkeepref06_May.c18 : Cd := .tidy [5, 6, 7] [] [] (some 1)
def innkeepref06_May.c17 : Cd := .seq (.seq (.seq (.seq (.reg false [⟨some 71, .move (.t 4), none, [], []⟩,
    ⟨some 72, .move (.t 3), none, [], []⟩,
    ⟨some 73, .bin .lss (.t 71) (.t 72), none, [], []⟩]) (innkeepref06_May.c21)) (innkeepref06_May.c20)) (innkeepref06_May.c19)) (innkeepref06_May.c18)
def innkeepref06_May.c16 : Cd := .block 0 (.loop (innkeepref06_May.c17))
def innkeepref06_May.c70 : Cd := .tidy [120, 121, 122, 123] [] [] none
def innkeepref06_May.c71 : Cd := .skip
def innkeepref06_May.c79 : Cd := .exit 6
def innkeepref06_May.c69 : Cd := .cond (.t 124) (.seq (.tidy [124] [] [] none) (innkeepref06_May.c71)) (.seq (.tidy [124] [] [] none) (innkeepref06_May.c79))
def innkeepref06_May.c74 : Cd := .tidy [127, 128, 129, 130, 131, 132, 133, 134, 135, 136, 137, 138, 139, 140, 141, 142] [] [] none
def innkeepref06_May.c76 : Cd := .ret
def innkeepref06_May.c75 : Cd := .seq (.reg false [⟨some 2, .move (.c .bool false), none, [], []⟩]) (innkeepref06_May.c76)
def innkeepref06_May.c77 : Cd := .skip
def innkeepref06_May.c73 : Cd := .cond (.t 143) (.seq (.tidy [143] [] [] none) (innkeepref06_May.c75)) (.seq (.tidy [143] [] [] none) (innkeepref06_May.c77))
def innkeepref06_May.c78 : Cd := .tidy [125, 126] [] [] none
def innkeepref06_May.c72 : Cd := .seq (.reg false [⟨some 125, .move (.t 8), none, [], []⟩,
    ⟨some 126, .bin .add (.t 125) (.c (.int .i64) (1 : Int)), none, [], []⟩,
    ⟨some 8, .move (.t 126), none, [], []⟩]) (innkeepref06_May.c78)
def innkeepref06_May.c68 : Cd := .seq (.block 7 (.seq (.seq (.reg false [⟨some 127, .fieldAddr (.d tDesc) 1 (.t 1), none, [], []⟩,
    ⟨some 128, .load (.d (.sl (.int .i64))) (.t 127), none, [], []⟩,
    ⟨some 129, .move (.t 8), none, [], []⟩,
    ⟨some 130, .index (.sl (.int .i64)) (.t 128) (.t 129), none, [], []⟩,
    ⟨some 131, .load (.d (.int .i64)) (.t 130), none, [], []⟩,
    ⟨some 132, .move (.t 3), none, [], []⟩,
    ⟨some 133, .call (.f 31) [(.t 131), (.t 132)] [.d .bool] [] false, none, [], []⟩,
    ⟨some 134, .not (.t 133), none, [], []⟩,
    ⟨some 135, .move (.t 134), none, [], []⟩,
    ⟨some 136, .fieldAddr (.d tDesc) 2 (.t 1), some (135, false), [], []⟩,
    ⟨some 137, .load (.d (.sl (.int .i64))) (.t 136), some (135, false), [], []⟩,
    ⟨some 138, .move (.t 8), some (135, false), [], []⟩,
    ⟨some 139, .index (.sl (.int .i64)) (.t 137) (.t 138), some (135, false), [], []⟩,
    ⟨some 140, .load (.d (.int .i64)) (.t 139), some (135, false), [], []⟩,
    ⟨some 141, .call (.f 32) [(.t 140)] [.d .bool] [] false, some (135, false), [], []⟩,
    ⟨some 142, .not (.t 141), some (135, false), [], []⟩,
    ⟨some 143, .pick (.t 135) (.c .bool true) (.t 142), none, [], []⟩]) (innkeepref06_May.c74)) (innkeepref06_May.c73))) (innkeepref06_May.c72)
def innkeepref06_May.c67 : Cd := .tidy [] [] [] (some 1)
def innkeepref06_May.c66 : Cd := .seq (.seq (.seq (.seq (.reg false [⟨some 120, .move (.t 8), none, [], []⟩,
    ⟨some 121, .fieldAddr (.d tDesc) 1 (.t 1), none, [], []⟩,
    ⟨some 122, .load (.d (.sl (.int .i64))) (.t 121), none, [], []⟩,
    ⟨some 123, .len (.t 122), none, [], []⟩,
    ⟨some 124, .bin .lss (.t 120) (.t 123), none, [], []⟩]) (innkeepref06_May.c70)) (innkeepref06_May.c69)) (innkeepref06_May.c68)) (innkeepref06_May.c67)
def innkeepref06_May.c65 : Cd := .block 6 (.loop (innkeepref06_May.c66))
def innkeepref06_May.c86 : Cd := .tidy [144, 145, 146, 147] [] [] none
def innkeepref06_May.c87 : Cd := .skip
def innkeepref06_May.c95 : Cd := .exit 8
def innkeepref06_May.c85 : Cd := .cond (.t 148) (.seq (.tidy [148] [] [] none) (innkeepref06_May.c87)) (.seq (.tidy [148] [] [] none) (innkeepref06_May.c95))
def innkeepref06_May.c90 : Cd := .tidy [151, 152, 153, 154, 155, 156, 157] [] [] none
def innkeepref06_May.c92 : Cd := .ret
def innkeepref06_May.c91 : Cd := .seq (.reg false [⟨some 2, .move (.c .bool false), none, [], []⟩]) (innkeepref06_May.c92)
def innkeepref06_May.c93 : Cd := .skip
def innkeepref06_May.c89 : Cd := .cond (.t 158) (.seq (.tidy [158] [] [] none) (innkeepref06_May.c91)) (.seq (.tidy [158] [] [] none) (innkeepref06_May.c93))
def innkeepref06_May.c94 : Cd := .tidy [149, 150] [] [] none
def innkeepref06_May.c88 : Cd := .seq (.reg false [⟨some 149, .move (.t 9), none, [], []⟩,
    ⟨some 150, .bin .add (.t 149) (.c (.int .i64) (1 : Int)), none, [], []⟩,
    ⟨some 9, .move (.t 150), none, [], []⟩]) (innkeepref06_May.c94)
def innkeepref06_May.c84 : Cd := .seq (.block 9 (.seq (.seq (.reg false [⟨some 151, .fieldAddr (.d tDesc) 3 (.t 1), none, [], []⟩,
    ⟨some 152, .load (.d (.sl (.int .i64))) (.t 151), none, [], []⟩,
    ⟨some 153, .move (.t 9), none, [], []⟩,
    ⟨some 154, .index (.sl (.int .i64)) (.t 152) (.t 153), none, [], []⟩,
    ⟨some 155, .load (.d (.int .i64)) (.t 154), none, [], []⟩,
    ⟨some 156, .move (.t 3), none, [], []⟩,
    ⟨some 157, .call (.f 31) [(.t 155), (.t 156)] [.d .bool] [] false, none, [], []⟩,
    ⟨some 158, .not (.t 157), none, [], []⟩]) (innkeepref06_May.c90)) (innkeepref06_May.c89))) (innkeepref06_May.c88)
def innkeepref06_May.c83 : Cd := .tidy [] [] [] (some 1)
def innkeepref06_May.c82 : Cd := .seq (.seq (.seq (.seq (.reg false [⟨some 144, .move (.t 9), none, [], []⟩,
    ⟨some 145, .fieldAddr (.d tDesc) 3 (.t 1), none, [], []⟩,
    ⟨some 146, .load (.d (.sl (.int .i64))) (.t 145), none, [], []⟩,
    ⟨some 147, .len (.t 146), none, [], []⟩,
    ⟨some 148, .bin .lss (.t 144) (.t 147), none, [], []⟩]) (innkeepref06_May.c86)) (innkeepref06_May.c85)) (innkeepref06_May.c84)) (innkeepref06_May.c83)
def innkeepref06_May.c81 : Cd := .block 8 (.loop (innkeepref06_May.c82))
def innkeepref06_May.c96 : Cd := .ret
def innkeepref06_May.c80 : Cd := .seq (.reg false [⟨some 2, .move (.c .bool true), none, [], []⟩]) (innkeepref06_May.c96)
def innkeepref06_May.c64 : Cd := .seq (.seq (.reg false [⟨some 9, .move (.c (.int .i64) (0 : Int)), none, [], []⟩]) (innkeepref06_May.c81)) (innkeepref06_May.c80)
def innkeepref06_May.c15 : Cd := .seq (.seq (.reg false [⟨some 8, .move (.c (.int .i64) (0 : Int)), none, [], []⟩]) (innkeepref06_May.c65)) (innkeepref06_May.c64)
def innkeepref06_May.c9 : Cd := .seq (.seq (.reg false [⟨some 4, .move (.c (.int .i64) (0 : Int)), none, [], []⟩]) (innkeepref06_May.c16)) (innkeepref06_May.c15)
def innkeepref06_May.c3 : Cd := .seq (.seq (.seq (.reg false [⟨some 55, .fieldAddr (.d tDesc) 5 (.t 1), none, [], []⟩,
    ⟨some 56, .load (.d (.int .i64)) (.t 55), none, [], []⟩,
    ⟨some 57, .call (.f 31) [(.t 56), (.c (.int .i64) (65 : Int))] [.d .bool] [] false, none, [], []⟩,
    ⟨some 58, .not (.t 57), none, [], []⟩,
    ⟨some 59, .move (.t 58), none, [], []⟩,
    ⟨some 60, .fieldAddr (.d tDesc) 6 (.t 1), some (59, false), [], []⟩,
    ⟨some 61, .load (.d (.int .i64)) (.t 60), some (59, false), [], []⟩,
    ⟨some 62, .call (.f 31) [(.t 61), (.c (.int .i64) (65 : Int))] [.d .bool] [] false, some (59, false), [], []⟩,
    ⟨some 63, .not (.t 62), some (59, false), [], []⟩,
    ⟨some 64, .pick (.t 59) (.c .bool true) (.t 63), none, [], []⟩,
    ⟨some 65, .move (.t 64), none, [], []⟩,
    ⟨some 66, .fieldAddr (.d tDesc) 7 (.t 1), some (65, false), [], []⟩,
    ⟨some 67, .load (.d (.int .i64)) (.t 66), some (65, false), [], []⟩,
    ⟨some 68, .call (.f 31) [(.t 67), (.c (.int .i64) (65 : Int))] [.d .bool] [] false, some (65, false), [], []⟩,
    ⟨some 69, .not (.t 68), some (65, false), [], []⟩,
    ⟨some 70, .pick (.t 65) (.c .bool true) (.t 69), none, [], []⟩]) (innkeepref06_May.c11)) (innkeepref06_May.c10)) (innkeepref06_May.c9)
def innkeepref06_May.c1 : Cd := .seq (.seq (.seq (.reg false [⟨some 13, .move (.t 3), none, [], []⟩,
    ⟨some 14, .bin .lss (.t 13) (.c (.int .i64) (1 : Int)), none, [], []⟩,
    ⟨some 15, .move (.t 14), none, [], []⟩,
    ⟨some 16, .move (.t 3), some (15, false), [], []⟩,
    ⟨some 17, .bin .gtr (.t 16) (.c (.int .i64) (8 : Int)), some (15, false), [], []⟩,
    ⟨some 18, .pick (.t 15) (.c .bool true) (.t 17), none, [], []⟩,
    ⟨some 19, .move (.t 18), none, [], []⟩,
    ⟨some 20, .fieldAddr (.d tDesc) 1 (.t 1), some (19, false), [], []⟩,
    ⟨some 21, .load (.d (.sl (.int .i64))) (.t 20), some (19, false), [], []⟩,
    ⟨some 22, .len (.t 21), some (19, false), [], []⟩,
    ⟨some 23, .bin .lss (.t 22) (.c (.int .i64) (1 : Int)), some (19, false), [], []⟩,
    ⟨some 24, .pick (.t 19) (.c .bool true) (.t 23), none, [], []⟩,
    ⟨some 25, .move (.t 24), none, [], []⟩,
    ⟨some 26, .fieldAddr (.d tDesc) 1 (.t 1), some (25, false), [], []⟩,
    ⟨some 27, .load (.d (.sl (.int .i64))) (.t 26), some (25, false), [], []⟩,
    ⟨some 28, .len (.t 27), some (25, false), [], []⟩,
    ⟨some 29, .bin .gtr (.t 28) (.c (.int .i64) (6 : Int)), some (25, false), [], []⟩,
    ⟨some 30, .pick (.t 25) (.c .bool true) (.t 29), none, [], []⟩,
    ⟨some 31, .move (.t 30), none, [], []⟩,
    ⟨some 32, .fieldAddr (.d tDesc) 2 (.t 1), some (31, false), [], []⟩,
    ⟨some 33, .load (.d (.sl (.int .i64))) (.t 32), some (31, false), [], []⟩,
    ⟨some 34, .len (.t 33), some (31, false), [], []⟩,
    ⟨some 35, .fieldAddr (.d tDesc) 1 (.t 1), some (31, false), [], []⟩,
    ⟨some 36, .load (.d (.sl (.int .i64))) (.t 35), some (31, false), [], []⟩,
    ⟨some 37, .len (.t 36), some (31, false), [], []⟩,
    ⟨some 38, .bin .neq (.t 34) (.t 37), some (31, false), [], []⟩,
    ⟨some 39, .pick (.t 31) (.c .bool true) (.t 38), none, [], []⟩,
    ⟨some 40, .move (.t 39), none, [], []⟩,
    ⟨some 41, .fieldAddr (.d tDesc) 3 (.t 1), some (40, false), [], []⟩,
    ⟨some 42, .load (.d (.sl (.int .i64))) (.t 41), some (40, false), [], []⟩,
    ⟨some 43, .len (.t 42), some (40, false), [], []⟩,
    ⟨some 44, .bin .gtr (.t 43) (.c (.int .i64) (16 : Int)), some (40, false), [], []⟩,
    ⟨some 45, .pick (.t 40) (.c .bool true) (.t 44), none, [], []⟩,
    ⟨some 46, .move (.t 45), none, [], []⟩,
    ⟨some 47, .fieldAddr (.d tDesc) 4 (.t 1), some (46, false), [], []⟩,
    ⟨some 48, .load (.d (.sl .bool)) (.t 47), some (46, false), [], []⟩,
    ⟨some 49, .len (.t 48), some (46, false), [], []⟩,
    ⟨some 50, .fieldAddr (.d tDesc) 3 (.t 1), some (46, false), [], []⟩,
    ⟨some 51, .load (.d (.sl (.int .i64))) (.t 50), some (46, false), [], []⟩,
    ⟨some 52, .len (.t 51), some (46, false), [], []⟩,
    ⟨some 53, .bin .neq (.t 49) (.t 52), some (46, false), [], []⟩,
    ⟨some 54, .pick (.t 46) (.c .bool true) (.t 53), none, [], []⟩]) (innkeepref06_May.c5)) (innkeepref06_May.c4)) (innkeepref06_May.c3)
def innkeepref06_May.c0 : Cd := .seq (.seq (.reg false [⟨some 10, .fieldAddr (.d tDesc) 0 (.t 1), none, [], []⟩,
    ⟨some 11, .load (.d (.sl (.arr 4 (.int .i64)))) (.t 10), none, [], []⟩,
    ⟨some 12, .len (.t 11), none, [], []⟩,
    ⟨some 3, .move (.t 12), none, [], []⟩]) (innkeepref06_May.c2)) (innkeepref06_May.c1)
def innkeepref06_May.fn : Fn := ⟨1, [.tmp 2], .seq (.reg false [⟨some 1, .box 0 (.t 0), none, [], []⟩,
    ⟨some 2, .move (.c .bool false), none, [], []⟩]) (innkeepref06_May.c0)⟩
def innkeepref06_Depth.c7 : Cd := .tidy [6, 7] [] [] none
def innkeepref06_Depth.c8 : Cd := .skip
def innkeepref06_Depth.c18 : Cd := .exit 0
def innkeepref06_Depth.c6 : Cd := .cond (.t 8) (.seq (.tidy [8] [] [] none) (innkeepref06_Depth.c8)) (.seq (.tidy [8] [] [] none) (innkeepref06_Depth.c18))
def innkeepref06_Depth.c10 : Cd := .tidy [9, 10] [] [] none
def innkeepref06_Depth.c13 : Cd := .tidy [11] [] [] none
def innkeepref06_Depth.c15 : Cd := .ret
def innkeepref06_Depth.c14 : Cd := .seq (.reg false [⟨some 4, .move (.c (.int .i64) (99 : Int)), none, [], []⟩]) (innkeepref06_Depth.c15)
def innkeepref06_Depth.c16 : Cd := .skip
def innkeepref06_Depth.c12 : Cd := .cond (.t 12) (.seq (.tidy [12] [] [] none) (innkeepref06_Depth.c14)) (.seq (.tidy [12] [] [] none) (innkeepref06_Depth.c16))
def innkeepref06_Depth.c17 : Cd := .tidy [13, 14, 15, 16, 17, 18] [] [] none
def innkeepref06_Depth.c11 : Cd := .seq (.reg false [⟨some 13, .fieldAddr (.d tWorld) 3 (.t 2), none, [], []⟩,
    ⟨some 14, .load (.d (.sl tPlace)) (.t 13), none, [], []⟩,
    ⟨some 15, .fieldAddr (.d tPlace) 1 (.t 3), none, [], []⟩,
    ⟨some 16, .load (.d (.int .i64)) (.t 15), none, [], []⟩,
    ⟨some 17, .index (.sl tPlace) (.t 14) (.t 16), none, [], []⟩,
    ⟨some 18, .load (.d tPlace) (.t 17), none, [], []⟩,
    ⟨none, .store (.d tPlace) (.t 3) (.t 18), none, [], []⟩]) (innkeepref06_Depth.c17)
def innkeepref06_Depth.c9 : Cd := .seq (.seq (.seq (.reg false [⟨some 11, .move (.t 5), none, [], []⟩,
    ⟨some 12, .bin .gtr (.t 11) (.c (.int .i64) (50 : Int)), none, [], []⟩]) (innkeepref06_Depth.c13)) (innkeepref06_Depth.c12)) (innkeepref06_Depth.c11)
def innkeepref06_Depth.c5 : Cd := .block 1 (.seq (.seq (.reg false [⟨some 9, .move (.t 5), none, [], []⟩,
    ⟨some 10, .bin .add (.t 9) (.c (.int .i64) (1 : Int)), none, [], []⟩,
    ⟨some 5, .move (.t 10), none, [], []⟩]) (innkeepref06_Depth.c10)) (innkeepref06_Depth.c9))
def innkeepref06_Depth.c4 : Cd := .tidy [] [] [] (some 2)
def innkeepref06_Depth.c3 : Cd := .seq (.seq (.seq (.seq (.reg false [⟨some 6, .fieldAddr (.d tPlace) 0 (.t 3), none, [], []⟩,
    ⟨some 7, .load (.d (.int .i64)) (.t 6), none, [], []⟩,
    ⟨some 8, .bin .eql (.t 7) (.c (.int .i64) (2 : Int)), none, [], []⟩]) (innkeepref06_Depth.c7)) (innkeepref06_Depth.c6)) (innkeepref06_Depth.c5)) (innkeepref06_Depth.c4)
def innkeepref06_Depth.c20 : Cd := .tidy [19] [] [] none
def innkeepref06_Depth.c19 : Cd := .ret
def innkeepref06_Depth.c2 : Cd := .seq (.seq (.reg false [⟨some 19, .move (.t 5), none, [], []⟩,
    ⟨some 4, .move (.t 19), none, [], []⟩]) (innkeepref06_Depth.c20)) (innkeepref06_Depth.c19)
def innkeepref06_Depth.c1 : Cd := .seq (.block 0 (.loop (innkeepref06_Depth.c3))) (innkeepref06_Depth.c2)
def innkeepref06_Depth.c0 : Cd := .seq (.reg false [⟨some 5, .move (.c (.int .i64) (0 : Int)), none, [], []⟩]) (innkeepref06_Depth.c1)
def innkeepref06_Depth.fn : Fn := ⟨2, [.tmp 4], .seq (.reg false [⟨some 2, .box 0 (.t 0), none, [], []⟩,
    ⟨some 3, .box 1 (.t 1), none, [], []⟩,
    ⟨some 4, .move (.c (.int .i64) (0 : Int)), none, [], []⟩]) (innkeepref06_Depth.c0)⟩
def innkeepref06_Many.c8 : Cd := .tidy [7, 8, 9, 10] [] [] none
def innkeepref06_Many.c9 : Cd := .skip
def innkeepref06_Many.c17 : Cd := .exit 0
def innkeepref06_Many.c7 : Cd := .cond (.t 11) (.seq (.tidy [11] [] [] none) (innkeepref06_Many.c9)) (.seq (.tidy [11] [] [] none) (innkeepref06_Many.c17))
def innkeepref06_Many.c12 : Cd := .tidy [14, 15, 16, 17, 18, 19] [] [] none
def innkeepref06_Many.c14 : Cd := .tidy [21, 22] [] [] none
def innkeepref06_Many.c13 : Cd := .seq (.reg false [⟨some 21, .move (.t 5), none, [], []⟩,
    ⟨some 22, .bin .add (.t 21) (.c (.int .i64) (1 : Int)), none, [], []⟩,
    ⟨some 5, .move (.t 22), none, [], []⟩]) (innkeepref06_Many.c14)
def innkeepref06_Many.c16 : Cd := .skip
def innkeepref06_Many.c11 : Cd := .cond (.t 20) (.seq (.tidy [20] [] [] none) (innkeepref06_Many.c13)) (.seq (.tidy [20] [] [] none) (innkeepref06_Many.c16))
def innkeepref06_Many.c15 : Cd := .tidy [12, 13] [] [] none
def innkeepref06_Many.c10 : Cd := .seq (.reg false [⟨some 12, .move (.t 6), none, [], []⟩,
    ⟨some 13, .bin .add (.t 12) (.c (.int .i64) (1 : Int)), none, [], []⟩,
    ⟨some 6, .move (.t 13), none, [], []⟩]) (innkeepref06_Many.c15)
def innkeepref06_Many.c6 : Cd := .seq (.block 1 (.seq (.seq (.reg true [⟨some 14, .fieldAddr (.d tWorld) 3 (.t 2), none, [0], []⟩,
    ⟨some 15, .load (.d (.sl tPlace)) (.t 14), none, [0], []⟩,
    ⟨some 16, .move (.t 6), none, [], []⟩,
    ⟨some 17, .index (.sl tPlace) (.t 15) (.t 16), none, [], []⟩,
    ⟨some 18, .load (.d tPlace) (.t 17), none, [], []⟩,
    ⟨some 19, .load (.d tPlace) (.t 3), none, [1], []⟩,
    ⟨some 20, .eqs tPlace false (.t 18) (.t 19), none, [], []⟩]) (innkeepref06_Many.c12)) (innkeepref06_Many.c11))) (innkeepref06_Many.c10)
def innkeepref06_Many.c5 : Cd := .tidy [] [] [] (some 2)
def innkeepref06_Many.c4 : Cd := .seq (.seq (.seq (.seq (.reg false [⟨some 7, .move (.t 6), none, [], []⟩,
    ⟨some 8, .fieldAddr (.d tWorld) 3 (.t 2), none, [], []⟩,
    ⟨some 9, .load (.d (.sl tPlace)) (.t 8), none, [], []⟩,
    ⟨some 10, .len (.t 9), none, [], []⟩,
    ⟨some 11, .bin .lss (.t 7) (.t 10), none, [], []⟩]) (innkeepref06_Many.c8)) (innkeepref06_Many.c7)) (innkeepref06_Many.c6)) (innkeepref06_Many.c5)
def innkeepref06_Many.c3 : Cd := .block 0 (.loop (innkeepref06_Many.c4))
def innkeepref06_Many.c19 : Cd := .tidy [23] [] [] none
def innkeepref06_Many.c18 : Cd := .ret
def innkeepref06_Many.c2 : Cd := .seq (.seq (.reg false [⟨some 23, .move (.t 5), none, [], []⟩,
    ⟨some 4, .move (.t 23), none, [], []⟩]) (innkeepref06_Many.c19)) (innkeepref06_Many.c18)
def innkeepref06_Many.c1 : Cd := .seq (.seq (.reg false [⟨some 6, .move (.c (.int .i64) (0 : Int)), none, [], []⟩]) (innkeepref06_Many.c3)) (innkeepref06_Many.c2)
def innkeepref06_Many.c0 : Cd := .seq (.reg false [⟨some 5, .move (.c (.int .i64) (0 : Int)), none, [], []⟩]) (innkeepref06_Many.c1)
def innkeepref06_Many.fn : Fn := ⟨2, [.tmp 4], .seq (.reg false [⟨some 2, .box 0 (.t 0), none, [], []⟩,
    ⟨some 3, .box 1 (.t 1), none, [], []⟩,
    ⟨some 4, .move (.c (.int .i64) (0 : Int)), none, [], []⟩]) (innkeepref06_Many.c0)⟩
def innkeepref06_Cap.c2 : Cd := .tidy [5, 6, 7, 8, 9, 10, 11, 12, 13, 14, 15, 16, 17, 18] [] [] none
def innkeepref06_Cap.c1 : Cd := .ret
def innkeepref06_Cap.c0 : Cd := .seq (.seq (.reg false [⟨some 5, .fieldAddr (.d tWorld) 0 (.t 2), none, [], []⟩,
    ⟨some 6, .fieldAddr (.d tDesc) 5 (.t 5), none, [], []⟩,
    ⟨some 7, .load (.d (.int .i64)) (.t 6), none, [], []⟩,
    ⟨some 8, .fieldAddr (.d tWorld) 0 (.t 2), none, [], []⟩,
    ⟨some 9, .fieldAddr (.d tDesc) 6 (.t 8), none, [], []⟩,
    ⟨some 10, .load (.d (.int .i64)) (.t 9), none, [], []⟩,
    ⟨some 11, .fieldAddr (.d tWorld) 0 (.t 2), none, [], []⟩,
    ⟨some 12, .fieldAddr (.d tDesc) 7 (.t 11), none, [], []⟩,
    ⟨some 13, .load (.d (.int .i64)) (.t 12), none, [], []⟩,
    ⟨some 14, .slice 2 (.int .i64) [(.t 7), (.t 10), (.t 13)], none, [], []⟩,
    ⟨some 15, .fieldAddr (.d tPlace) 0 (.t 3), none, [], []⟩,
    ⟨some 16, .load (.d (.int .i64)) (.t 15), none, [], []⟩,
    ⟨some 17, .index (.sl (.int .i64)) (.t 14) (.t 16), none, [], []⟩,
    ⟨some 18, .load (.d (.int .i64)) (.t 17), none, [], []⟩,
    ⟨some 4, .move (.t 18), none, [], []⟩]) (innkeepref06_Cap.c2)) (innkeepref06_Cap.c1)
def innkeepref06_Cap.fn : Fn := ⟨2, [.tmp 4], .seq (.reg false [⟨some 2, .box 0 (.t 0), none, [], []⟩,
    ⟨some 3, .box 1 (.t 1), none, [], []⟩,
    ⟨some 4, .move (.c (.int .i64) (0 : Int)), none, [], []⟩]) (innkeepref06_Cap.c0)⟩
def innkeepref06_Right.c2 : Cd := .tidy [9, 10] [] [] none
def innkeepref06_Right.c5 : Cd := .tidy [11, 12, 13, 14, 15, 16, 17, 18, 19, 20, 21, 22, 23, 24, 25, 26, 27, 28, 29, 30, 31, 32, 33, 34, 35, 36, 37, 38, 39] [] [] none
def innkeepref06_Right.c7 : Cd := .ret
def innkeepref06_Right.c6 : Cd := .seq (.reg false [⟨some 2, .move (.c .bool false), none, [], []⟩]) (innkeepref06_Right.c7)
def innkeepref06_Right.c8 : Cd := .skip
def innkeepref06_Right.c4 : Cd := .cond (.t 40) (.seq (.tidy [40] [] [] none) (innkeepref06_Right.c6)) (.seq (.tidy [40] [] [] none) (innkeepref06_Right.c8))
def innkeepref06_Right.c15 : Cd := .tidy [41, 42, 43, 44] [] [] none
def innkeepref06_Right.c16 : Cd := .skip
def innkeepref06_Right.c24 : Cd := .exit 0
def innkeepref06_Right.c14 : Cd := .cond (.t 45) (.seq (.tidy [45] [] [] none) (innkeepref06_Right.c16)) (.seq (.tidy [45] [] [] none) (innkeepref06_Right.c24))
def innkeepref06_Right.c19 : Cd := .tidy [48, 49, 50, 51, 52, 53, 54, 55, 56, 57, 58, 59, 60, 61, 62, 63, 64, 65] [] [] none
def innkeepref06_Right.c21 : Cd := .ret
def innkeepref06_Right.c20 : Cd := .seq (.reg false [⟨some 2, .move (.c .bool false), none, [], []⟩]) (innkeepref06_Right.c21)
def innkeepref06_Right.c22 : Cd := .skip
def innkeepref06_Right.c18 : Cd := .cond (.t 66) (.seq (.tidy [66] [] [] none) (innkeepref06_Right.c20)) (.seq (.tidy [66] [] [] none) (innkeepref06_Right.c22))
def innkeepref06_Right.c23 : Cd := .tidy [46, 47] [] [] none
def innkeepref06_Right.c17 : Cd := .seq (.reg false [⟨some 46, .move (.t 4), none, [], []⟩,
    ⟨some 47, .bin .add (.t 46) (.c (.int .i64) (1 : Int)), none, [], []⟩,
    ⟨some 4, .move (.t 47), none, [], []⟩]) (innkeepref06_Right.c23)
def innkeepref06_Right.c13 : Cd := .seq (.block 1 (.seq (.seq (.reg true [⟨some 48, .fieldAddr (.d tWorld) 1 (.t 1), none, [0], []⟩,
    ⟨some 49, .load (.d (.sl (.int .i64))) (.t 48), none, [0], []⟩,
    ⟨some 50, .move (.t 4), none, [], []⟩,
    ⟨some 51, .index (.sl (.int .i64)) (.t 49) (.t 50), none, [], []⟩,
    ⟨some 52, .load (.d (.int .i64)) (.t 51), none, [], []⟩,
    ⟨some 53, .fieldAddr (.d tDesc) 0 (.t 3), none, [1], []⟩,
    ⟨some 54, .load (.d (.sl (.arr 4 (.int .i64)))) (.t 53), none, [1], []⟩,
    ⟨some 55, .len (.t 54), none, [], []⟩,
    ⟨some 56, .call (.f 31) [(.t 52), (.t 55)] [.d .bool] [] false, none, [], []⟩,
    ⟨some 57, .not (.t 56), none, [], []⟩,
    ⟨some 58, .move (.t 57), none, [], []⟩,
    ⟨some 59, .fieldAddr (.d tWorld) 2 (.t 1), some (58, false), [0], []⟩,
    ⟨some 60, .load (.d (.sl (.int .i64))) (.t 59), some (58, false), [0], []⟩,
    ⟨some 61, .move (.t 4), some (58, false), [], []⟩,
    ⟨some 62, .index (.sl (.int .i64)) (.t 60) (.t 61), some (58, false), [], []⟩,
    ⟨some 63, .load (.d (.int .i64)) (.t 62), some (58, false), [], []⟩,
    ⟨some 64, .call (.f 32) [(.t 63)] [.d .bool] [] false, some (58, false), [], []⟩,
    ⟨some 65, .not (.t 64), some (58, false), [], []⟩,
    ⟨some 66, .pick (.t 58) (.c .bool true) (.t 65), none, [], []⟩]) (innkeepref06_Right.c19)) (innkeepref06_Right.c18))) (innkeepref06_Right.c17)
def innkeepref06_Right.c12 : Cd := .tidy [] [] [] (some 2)
def innkeepref06_Right.c11 : Cd := .seq (.seq (.seq (.seq (.reg false [⟨some 41, .move (.t 4), none, [], []⟩,
    ⟨some 42, .fieldAddr (.d tWorld) 1 (.t 1), none, [], []⟩,
    ⟨some 43, .load (.d (.sl (.int .i64))) (.t 42), none, [], []⟩,
    ⟨some 44, .len (.t 43), none, [], []⟩,
    ⟨some 45, .bin .lss (.t 41) (.t 44), none, [], []⟩]) (innkeepref06_Right.c15)) (innkeepref06_Right.c14)) (innkeepref06_Right.c13)) (innkeepref06_Right.c12)
def innkeepref06_Right.c10 : Cd := .block 0 (.loop (innkeepref06_Right.c11))
def innkeepref06_Right.c31 : Cd := .tidy [67, 68, 69, 70] [] [] none
def innkeepref06_Right.c32 : Cd := .skip
def innkeepref06_Right.c44 : Cd := .exit 2
def innkeepref06_Right.c30 : Cd := .cond (.t 71) (.seq (.tidy [71] [] [] none) (innkeepref06_Right.c32)) (.seq (.tidy [71] [] [] none) (innkeepref06_Right.c44))
def innkeepref06_Right.c35 : Cd := .tidy [74, 75, 76, 77, 78] [] [] none
def innkeepref06_Right.c37 : Cd := .tidy [79, 80, 81, 82, 83, 84, 85, 86, 87, 88, 89, 90, 91, 92, 93, 94, 95, 96, 97, 98, 99, 100, 101, 102, 103, 104, 105, 106, 107, 108, 109, 110, 111, 112, 113, 114, 115, 116, 117, 118, 119, 120, 121, 122, 123] [] [] none
def innkeepref06_Right.c39 : Cd := .tidy [124] [] [] none
def innkeepref06_Right.c43 : Cd := .ret
def innkeepref06_Right.c42 : Cd := .seq (.reg false [⟨some 2, .move (.c .bool false), none, [], []⟩]) (innkeepref06_Right.c43)
def innkeepref06_Right.c40 : Cd := .skip
def innkeepref06_Right.c38 : Cd := .cond (.t 125) (.seq (.tidy [125] [] [] none) (innkeepref06_Right.c42)) (.seq (.tidy [125] [] [] none) (innkeepref06_Right.c40))
def innkeepref06_Right.c36 : Cd := .seq (.seq (.reg false [⟨some 124, .move (.t 7), none, [], []⟩,
    ⟨some 125, .not (.t 124), none, [], []⟩]) (innkeepref06_Right.c39)) (innkeepref06_Right.c38)
def innkeepref06_Right.c34 : Cd := .seq (.seq (.reg false [⟨some 79, .fieldAddr (.d tPlace) 0 (.t 6), none, [], []⟩,
    ⟨some 80, .load (.d (.int .i64)) (.t 79), none, [], []⟩,
    ⟨some 81, .bin .eql (.t 80) (.c (.int .i64) (0 : Int)), none, [], []⟩,
    ⟨some 82, .move (.t 81), none, [], []⟩,
    ⟨some 83, .fieldAddr (.d tPlace) 1 (.t 6), some (82, true), [], []⟩,
    ⟨some 84, .load (.d (.int .i64)) (.t 83), some (82, true), [], []⟩,
    ⟨some 85, .fieldAddr (.d tDesc) 0 (.t 3), some (82, true), [], []⟩,
    ⟨some 86, .load (.d (.sl (.arr 4 (.int .i64)))) (.t 85), some (82, true), [], []⟩,
    ⟨some 87, .len (.t 86), some (82, true), [], []⟩,
    ⟨some 88, .call (.f 31) [(.t 84), (.t 87)] [.d .bool] [] false, some (82, true), [], []⟩,
    ⟨some 89, .pick (.t 82) (.t 88) (.c .bool false), none, [], []⟩,
    ⟨some 90, .move (.t 89), none, [], []⟩,
    ⟨some 91, .fieldAddr (.d tPlace) 0 (.t 6), some (90, false), [], []⟩,
    ⟨some 92, .load (.d (.int .i64)) (.t 91), some (90, false), [], []⟩,
    ⟨some 93, .bin .eql (.t 92) (.c (.int .i64) (1 : Int)), some (90, false), [], []⟩,
    ⟨some 94, .move (.t 93), some (90, false), [], []⟩,
    ⟨some 95, .fieldAddr (.d tPlace) 1 (.t 6), some (94, true), [], []⟩,
    ⟨some 96, .load (.d (.int .i64)) (.t 95), some (94, true), [], []⟩,
    ⟨some 97, .fieldAddr (.d tDesc) 1 (.t 3), some (94, true), [], []⟩,
    ⟨some 98, .load (.d (.sl (.int .i64))) (.t 97), some (94, true), [], []⟩,
    ⟨some 99, .len (.t 98), some (94, true), [], []⟩,
    ⟨some 100, .call (.f 31) [(.t 96), (.t 99)] [.d .bool] [] false, some (94, true), [], []⟩,
    ⟨some 101, .pick (.t 94) (.t 100) (.c .bool false), some (90, false), [], []⟩,
    ⟨some 102, .pick (.t 90) (.c .bool true) (.t 101), none, [], []⟩,
    ⟨some 103, .move (.t 102), none, [], []⟩,
    ⟨some 104, .fieldAddr (.d tPlace) 0 (.t 6), some (103, false), [], []⟩,
    ⟨some 105, .load (.d (.int .i64)) (.t 104), some (103, false), [], []⟩,
    ⟨some 106, .bin .eql (.t 105) (.c (.int .i64) (2 : Int)), some (103, false), [], []⟩,
    ⟨some 107, .move (.t 106), some (103, false), [], []⟩,
    ⟨some 108, .fieldAddr (.d tPlace) 1 (.t 6), some (107, true), [], []⟩,
    ⟨some 109, .load (.d (.int .i64)) (.t 108), some (107, true), [], []⟩,
    ⟨some 110, .fieldAddr (.d tDesc) 3 (.t 3), some (107, true), [], []⟩,
    ⟨some 111, .load (.d (.sl (.int .i64))) (.t 110), some (107, true), [], []⟩,
    ⟨some 112, .len (.t 111), some (107, true), [], []⟩,
    ⟨some 113, .call (.f 31) [(.t 109), (.t 112)] [.d .bool] [] false, some (107, true), [], []⟩,
    ⟨some 114, .pick (.t 107) (.t 113) (.c .bool false), some (103, false), [], []⟩,
    ⟨some 115, .move (.t 114), some (103, false), [], []⟩,
    ⟨some 116, .fieldAddr (.d tDesc) 4 (.t 3), some (115, true), [], []⟩,
    ⟨some 117, .load (.d (.sl .bool)) (.t 116), some (115, true), [], []⟩,
    ⟨some 118, .fieldAddr (.d tPlace) 1 (.t 6), some (115, true), [], []⟩,
    ⟨some 119, .load (.d (.int .i64)) (.t 118), some (115, true), [], []⟩,
    ⟨some 120, .index (.sl .bool) (.t 117) (.t 119), some (115, true), [], []⟩,
    ⟨some 121, .load (.d .bool) (.t 120), some (115, true), [], []⟩,
    ⟨some 122, .pick (.t 115) (.t 121) (.c .bool false), some (103, false), [], []⟩,
    ⟨some 123, .pick (.t 103) (.c .bool true) (.t 122), none, [], []⟩,
    ⟨some 7, .move (.t 123), none, [], []⟩]) (innkeepref06_Right.c37)) (innkeepref06_Right.c36)
def innkeepref06_Right.c41 : Cd := .tidy [72, 73] [] [] none
def innkeepref06_Right.c33 : Cd := .seq (.reg false [⟨some 72, .move (.t 5), none, [], []⟩,
    ⟨some 73, .bin .add (.t 72) (.c (.int .i64) (1 : Int)), none, [], []⟩,
    ⟨some 5, .move (.t 73), none, [], []⟩]) (innkeepref06_Right.c41)
def innkeepref06_Right.c29 : Cd := .seq (.block 3 (.seq (.seq (.reg false [⟨some 74, .fieldAddr (.d tWorld) 3 (.t 1), none, [], []⟩,
    ⟨some 75, .load (.d (.sl tPlace)) (.t 74), none, [], []⟩,
    ⟨some 76, .move (.t 5), none, [], []⟩,
    ⟨some 77, .index (.sl tPlace) (.t 75) (.t 76), none, [], []⟩,
    ⟨some 78, .load (.d tPlace) (.t 77), none, [], []⟩,
    ⟨some 6, .newbox 2 tPlace [], none, [], []⟩,
    ⟨none, .store (.d tPlace) (.t 6) (.t 78), none, [], []⟩]) (innkeepref06_Right.c35)) (innkeepref06_Right.c34))) (innkeepref06_Right.c33)
def innkeepref06_Right.c28 : Cd := .tidy [6, 7] [] [] (some 2)
def innkeepref06_Right.c27 : Cd := .seq (.seq (.seq (.seq (.reg false [⟨some 67, .move (.t 5), none, [], []⟩,
    ⟨some 68, .fieldAddr (.d tWorld) 3 (.t 1), none, [], []⟩,
    ⟨some 69, .load (.d (.sl tPlace)) (.t 68), none, [], []⟩,
    ⟨some 70, .len (.t 69), none, [], []⟩,
    ⟨some 71, .bin .lss (.t 67) (.t 70), none, [], []⟩]) (innkeepref06_Right.c31)) (innkeepref06_Right.c30)) (innkeepref06_Right.c29)) (innkeepref06_Right.c28)
def innkeepref06_Right.c26 : Cd := .block 2 (.loop (innkeepref06_Right.c27))
def innkeepref06_Right.c51 : Cd := .tidy [126, 127, 128, 129] [] [] none
def innkeepref06_Right.c52 : Cd := .skip
def innkeepref06_Right.c60 : Cd := .exit 4
def innkeepref06_Right.c50 : Cd := .cond (.t 130) (.seq (.tidy [130] [] [] none) (innkeepref06_Right.c52)) (.seq (.tidy [130] [] [] none) (innkeepref06_Right.c60))
def innkeepref06_Right.c55 : Cd := .tidy [133, 134, 135, 136, 137, 138, 139, 140, 141, 142, 143, 144, 145, 146, 147, 148, 149, 150, 151, 152, 153, 154, 155, 156] [] [] none
def innkeepref06_Right.c57 : Cd := .ret
def innkeepref06_Right.c56 : Cd := .seq (.reg false [⟨some 2, .move (.c .bool false), none, [], []⟩]) (innkeepref06_Right.c57)
def innkeepref06_Right.c58 : Cd := .skip
def innkeepref06_Right.c54 : Cd := .cond (.t 157) (.seq (.tidy [157] [] [] none) (innkeepref06_Right.c56)) (.seq (.tidy [157] [] [] none) (innkeepref06_Right.c58))
def innkeepref06_Right.c59 : Cd := .tidy [131, 132] [] [] none
def innkeepref06_Right.c53 : Cd := .seq (.reg false [⟨some 131, .move (.t 8), none, [], []⟩,
    ⟨some 132, .bin .add (.t 131) (.c (.int .i64) (1 : Int)), none, [], []⟩,
    ⟨some 8, .move (.t 132), none, [], []⟩]) (innkeepref06_Right.c59)
def innkeepref06_Right.c49 : Cd := .seq (.block 5 (.seq (.seq (.reg true [⟨some 133, .load (.d tWorld) (.t 1), none, [0], []⟩,
    ⟨some 134, .fieldAddr (.d tWorld) 3 (.t 1), none, [0], []⟩,
    ⟨some 135, .load (.d (.sl tPlace)) (.t 134), none, [0], []⟩,
    ⟨some 136, .move (.t 8), none, [], []⟩,
    ⟨some 137, .index (.sl tPlace) (.t 135) (.t 136), none, [], []⟩,
    ⟨some 138, .load (.d tPlace) (.t 137), none, [], []⟩,
    ⟨some 139, .call (.f 37) [(.t 133), (.t 138)] [.d (.int .i64)] [] false, none, [], []⟩,
    ⟨some 140, .bin .gtr (.t 139) (.c (.int .i64) (4 : Int)), none, [], []⟩,
    ⟨some 141, .move (.t 140), none, [], []⟩,
    ⟨some 142, .load (.d tWorld) (.t 1), some (141, false), [0], []⟩,
    ⟨some 143, .fieldAddr (.d tWorld) 3 (.t 1), some (141, false), [0], []⟩,
    ⟨some 144, .load (.d (.sl tPlace)) (.t 143), some (141, false), [0], []⟩,
    ⟨some 145, .move (.t 8), some (141, false), [], []⟩,
    ⟨some 146, .index (.sl tPlace) (.t 144) (.t 145), some (141, false), [], []⟩,
    ⟨some 147, .load (.d tPlace) (.t 146), some (141, false), [], []⟩,
    ⟨some 148, .call (.f 19) [(.t 142), (.t 147)] [.d (.int .i64)] [] false, some (141, false), [], []⟩,
    ⟨some 149, .load (.d tWorld) (.t 1), some (141, false), [0], []⟩,
    ⟨some 150, .fieldAddr (.d tWorld) 3 (.t 1), some (141, false), [0], []⟩,
    ⟨some 151, .load (.d (.sl tPlace)) (.t 150), some (141, false), [0], []⟩,
    ⟨some 152, .move (.t 8), some (141, false), [], []⟩,
    ⟨some 153, .index (.sl tPlace) (.t 151) (.t 152), some (141, false), [], []⟩,
    ⟨some 154, .load (.d tPlace) (.t 153), some (141, false), [], []⟩,
    ⟨some 155, .call (.f 38) [(.t 149), (.t 154)] [.d (.int .i64)] [] false, some (141, false), [], []⟩,
    ⟨some 156, .bin .gtr (.t 148) (.t 155), some (141, false), [], []⟩,
    ⟨some 157, .pick (.t 141) (.c .bool true) (.t 156), none, [], []⟩]) (innkeepref06_Right.c55)) (innkeepref06_Right.c54))) (innkeepref06_Right.c53)
def innkeepref06_Right.c48 : Cd := .tidy [] [] [] (some 2)
def innkeepref06_Right.c47 : Cd := .seq (.seq (.seq (.seq (.reg false [⟨some 126, .move (.t 8), none, [], []⟩,
    ⟨some 127, .fieldAddr (.d tWorld) 3 (.t 1), none, [], []⟩,
    ⟨some 128, .load (.d (.sl tPlace)) (.t 127), none, [], []⟩,
    ⟨some 129, .len (.t 128), none, [], []⟩,
    ⟨some 130, .bin .lss (.t 126) (.t 129), none, [], []⟩]) (innkeepref06_Right.c51)) (innkeepref06_Right.c50)) (innkeepref06_Right.c49)) (innkeepref06_Right.c48)
def innkeepref06_Right.c46 : Cd := .block 4 (.loop (innkeepref06_Right.c47))
def innkeepref06_Right.c61 : Cd := .ret
def innkeepref06_Right.c45 : Cd := .seq (.reg false [⟨some 2, .move (.c .bool true), none, [], []⟩]) (innkeepref06_Right.c61)
def innkeepref06_Right.c25 : Cd := .seq (.seq (.reg false [⟨some 8, .move (.c (.int .i64) (0 : Int)), none, [], []⟩]) (innkeepref06_Right.c46)) (innkeepref06_Right.c45)
def innkeepref06_Right.c9 : Cd := .seq (.seq (.reg false [⟨some 5, .move (.c (.int .i64) (0 : Int)), none, [], []⟩]) (innkeepref06_Right.c26)) (innkeepref06_Right.c25)
def innkeepref06_Right.c3 : Cd := .seq (.seq (.reg false [⟨some 4, .move (.c (.int .i64) (0 : Int)), none, [], []⟩]) (innkeepref06_Right.c10)) (innkeepref06_Right.c9)
def innkeepref06_Right.c1 : Cd := .seq (.seq (.seq (.reg false [⟨some 11, .load (.d tDesc) (.t 3), none, [], []⟩,
    ⟨some 12, .call (.f 12) [(.t 11)] [.d .bool] [] false, none, [], []⟩,
    ⟨some 13, .not (.t 12), none, [], []⟩,
    ⟨some 14, .move (.t 13), none, [], []⟩,
    ⟨some 15, .fieldAddr (.d tWorld) 1 (.t 1), some (14, false), [], []⟩,
    ⟨some 16, .load (.d (.sl (.int .i64))) (.t 15), some (14, false), [], []⟩,
    ⟨some 17, .len (.t 16), some (14, false), [], []⟩,
    ⟨some 18, .fieldAddr (.d tDesc) 1 (.t 3), some (14, false), [], []⟩,
    ⟨some 19, .load (.d (.sl (.int .i64))) (.t 18), some (14, false), [], []⟩,
    ⟨some 20, .len (.t 19), some (14, false), [], []⟩,
    ⟨some 21, .bin .neq (.t 17) (.t 20), some (14, false), [], []⟩,
    ⟨some 22, .pick (.t 14) (.c .bool true) (.t 21), none, [], []⟩,
    ⟨some 23, .move (.t 22), none, [], []⟩,
    ⟨some 24, .fieldAddr (.d tWorld) 2 (.t 1), some (23, false), [], []⟩,
    ⟨some 25, .load (.d (.sl (.int .i64))) (.t 24), some (23, false), [], []⟩,
    ⟨some 26, .len (.t 25), some (23, false), [], []⟩,
    ⟨some 27, .fieldAddr (.d tDesc) 1 (.t 3), some (23, false), [], []⟩,
    ⟨some 28, .load (.d (.sl (.int .i64))) (.t 27), some (23, false), [], []⟩,
    ⟨some 29, .len (.t 28), some (23, false), [], []⟩,
    ⟨some 30, .bin .neq (.t 26) (.t 29), some (23, false), [], []⟩,
    ⟨some 31, .pick (.t 23) (.c .bool true) (.t 30), none, [], []⟩,
    ⟨some 32, .move (.t 31), none, [], []⟩,
    ⟨some 33, .fieldAddr (.d tWorld) 3 (.t 1), some (32, false), [], []⟩,
    ⟨some 34, .load (.d (.sl tPlace)) (.t 33), some (32, false), [], []⟩,
    ⟨some 35, .len (.t 34), some (32, false), [], []⟩,
    ⟨some 36, .fieldAddr (.d tDesc) 3 (.t 3), some (32, false), [], []⟩,
    ⟨some 37, .load (.d (.sl (.int .i64))) (.t 36), some (32, false), [], []⟩,
    ⟨some 38, .len (.t 37), some (32, false), [], []⟩,
    ⟨some 39, .bin .neq (.t 35) (.t 38), some (32, false), [], []⟩,
    ⟨some 40, .pick (.t 32) (.c .bool true) (.t 39), none, [], []⟩]) (innkeepref06_Right.c5)) (innkeepref06_Right.c4)) (innkeepref06_Right.c3)
def innkeepref06_Right.c0 : Cd := .seq (.seq (.reg false [⟨some 9, .fieldAddr (.d tWorld) 0 (.t 1), none, [], []⟩,
    ⟨some 10, .load (.d tDesc) (.t 9), none, [], []⟩,
    ⟨some 3, .newbox 1 tDesc [], none, [], []⟩,
    ⟨none, .store (.d tDesc) (.t 3) (.t 10), none, [], []⟩]) (innkeepref06_Right.c2)) (innkeepref06_Right.c1)
def innkeepref06_Right.fn : Fn := ⟨1, [.tmp 2], .seq (.reg false [⟨some 1, .box 0 (.t 0), none, [], []⟩,
    ⟨some 2, .move (.c .bool false), none, [], []⟩]) (innkeepref06_Right.c0)⟩
def innkeepref03_Ints.c3 : Cd := .tidy [6, 7, 8, 9] [] [] none
def innkeepref03_Ints.c5 : Cd := .ret
def innkeepref03_Ints.c4 : Cd := .seq (.reg false [⟨some 4, .move (.c .bool false), none, [], []⟩]) (innkeepref03_Ints.c5)
def innkeepref03_Ints.c6 : Cd := .skip
def innkeepref03_Ints.c2 : Cd := .cond (.t 10) (.seq (.tidy [10] [] [] none) (innkeepref03_Ints.c4)) (.seq (.tidy [10] [] [] none) (innkeepref03_Ints.c6))
def innkeepref03_Ints.c13 : Cd := .tidy [11, 12, 13] [] [] none
def innkeepref03_Ints.c14 : Cd := .skip
def innkeepref03_Ints.c22 : Cd := .exit 0
def innkeepref03_Ints.c12 : Cd := .cond (.t 14) (.seq (.tidy [14] [] [] none) (innkeepref03_Ints.c14)) (.seq (.tidy [14] [] [] none) (innkeepref03_Ints.c22))
def innkeepref03_Ints.c17 : Cd := .tidy [17, 18, 19, 20, 21, 22, 23, 24] [] [] none
def innkeepref03_Ints.c19 : Cd := .ret
def innkeepref03_Ints.c18 : Cd := .seq (.reg false [⟨some 4, .move (.c .bool false), none, [], []⟩]) (innkeepref03_Ints.c19)
def innkeepref03_Ints.c20 : Cd := .skip
def innkeepref03_Ints.c16 : Cd := .cond (.t 25) (.seq (.tidy [25] [] [] none) (innkeepref03_Ints.c18)) (.seq (.tidy [25] [] [] none) (innkeepref03_Ints.c20))
def innkeepref03_Ints.c21 : Cd := .tidy [15, 16] [] [] none
def innkeepref03_Ints.c15 : Cd := .seq (.reg false [⟨some 15, .move (.t 5), none, [], []⟩,
    ⟨some 16, .bin .add (.t 15) (.c (.int .i64) (1 : Int)), none, [], []⟩,
    ⟨some 5, .move (.t 16), none, [], []⟩]) (innkeepref03_Ints.c21)
def innkeepref03_Ints.c11 : Cd := .seq (.block 1 (.seq (.seq (.reg true [⟨some 17, .move (.t 0), none, [], []⟩,
    ⟨some 18, .move (.t 5), none, [], []⟩,
    ⟨some 19, .index (.sl (.int .i64)) (.t 17) (.t 18), none, [], []⟩,
    ⟨some 20, .load (.d (.int .i64)) (.t 19), none, [], []⟩,
    ⟨some 21, .move (.t 1), none, [], []⟩,
    ⟨some 22, .move (.t 5), none, [], []⟩,
    ⟨some 23, .index (.sl (.int .i64)) (.t 21) (.t 22), none, [], []⟩,
    ⟨some 24, .load (.d (.int .i64)) (.t 23), none, [], []⟩,
    ⟨some 25, .bin .neq (.t 20) (.t 24), none, [], []⟩]) (innkeepref03_Ints.c17)) (innkeepref03_Ints.c16))) (innkeepref03_Ints.c15)
def innkeepref03_Ints.c10 : Cd := .tidy [] [] [] (some 0)
def innkeepref03_Ints.c9 : Cd := .seq (.seq (.seq (.seq (.reg false [⟨some 11, .move (.t 5), none, [], []⟩,
    ⟨some 12, .move (.t 0), none, [], []⟩,
    ⟨some 13, .len (.t 12), none, [], []⟩,
    ⟨some 14, .bin .lss (.t 11) (.t 13), none, [], []⟩]) (innkeepref03_Ints.c13)) (innkeepref03_Ints.c12)) (innkeepref03_Ints.c11)) (innkeepref03_Ints.c10)
def innkeepref03_Ints.c8 : Cd := .block 0 (.loop (innkeepref03_Ints.c9))
def innkeepref03_Ints.c23 : Cd := .ret
def innkeepref03_Ints.c7 : Cd := .seq (.reg false [⟨some 4, .move (.c .bool true), none, [], []⟩]) (innkeepref03_Ints.c23)
def innkeepref03_Ints.c1 : Cd := .seq (.seq (.reg false [⟨some 5, .move (.c (.int .i64) (0 : Int)), none, [], []⟩]) (innkeepref03_Ints.c8)) (innkeepref03_Ints.c7)
def innkeepref03_Ints.c0 : Cd := .seq (.seq (.seq (.reg false [⟨some 6, .move (.t 0), none, [], []⟩,
    ⟨some 7, .len (.t 6), none, [], []⟩,
    ⟨some 8, .move (.t 1), none, [], []⟩,
    ⟨some 9, .len (.t 8), none, [], []⟩,
    ⟨some 10, .bin .neq (.t 7) (.t 9), none, [], []⟩]) (innkeepref03_Ints.c3)) (innkeepref03_Ints.c2)) (innkeepref03_Ints.c1)
def innkeepref03_Ints.fn : Fn := ⟨2, [.tmp 4], .seq (.reg false [⟨some 4, .move (.c .bool false), none, [], []⟩]) (innkeepref03_Ints.c0)⟩
def innkeepref06_Places.c3 : Cd := .tidy [6, 7, 8, 9] [] [] none
def innkeepref06_Places.c5 : Cd := .ret
def innkeepref06_Places.c4 : Cd := .seq (.reg false [⟨some 4, .move (.c .bool false), none, [], []⟩]) (innkeepref06_Places.c5)
def innkeepref06_Places.c6 : Cd := .skip
def innkeepref06_Places.c2 : Cd := .cond (.t 10) (.seq (.tidy [10] [] [] none) (innkeepref06_Places.c4)) (.seq (.tidy [10] [] [] none) (innkeepref06_Places.c6))
def innkeepref06_Places.c13 : Cd := .tidy [11, 12, 13] [] [] none
def innkeepref06_Places.c14 : Cd := .skip
def innkeepref06_Places.c22 : Cd := .exit 0
def innkeepref06_Places.c12 : Cd := .cond (.t 14) (.seq (.tidy [14] [] [] none) (innkeepref06_Places.c14)) (.seq (.tidy [14] [] [] none) (innkeepref06_Places.c22))
def innkeepref06_Places.c17 : Cd := .tidy [17, 18, 19, 20, 21, 22, 23, 24] [] [] none
def innkeepref06_Places.c19 : Cd := .ret
def innkeepref06_Places.c18 : Cd := .seq (.reg false [⟨some 4, .move (.c .bool false), none, [], []⟩]) (innkeepref06_Places.c19)
def innkeepref06_Places.c20 : Cd := .skip
def innkeepref06_Places.c16 : Cd := .cond (.t 25) (.seq (.tidy [25] [] [] none) (innkeepref06_Places.c18)) (.seq (.tidy [25] [] [] none) (innkeepref06_Places.c20))
def innkeepref06_Places.c21 : Cd := .tidy [15, 16] [] [] none
def innkeepref06_Places.c15 : Cd := .seq (.reg false [⟨some 15, .move (.t 5), none, [], []⟩,
    ⟨some 16, .bin .add (.t 15) (.c (.int .i64) (1 : Int)), none, [], []⟩,
    ⟨some 5, .move (.t 16), none, [], []⟩]) (innkeepref06_Places.c21)
def innkeepref06_Places.c11 : Cd := .seq (.block 1 (.seq (.seq (.reg true [⟨some 17, .move (.t 0), none, [], []⟩,
    ⟨some 18, .move (.t 5), none, [], []⟩,
    ⟨some 19, .index (.sl tPlace) (.t 17) (.t 18), none, [], []⟩,
    ⟨some 20, .load (.d tPlace) (.t 19), none, [], []⟩,
    ⟨some 21, .move (.t 1), none, [], []⟩,
    ⟨some 22, .move (.t 5), none, [], []⟩,
    ⟨some 23, .index (.sl tPlace) (.t 21) (.t 22), none, [], []⟩,
    ⟨some 24, .load (.d tPlace) (.t 23), none, [], []⟩,
    ⟨some 25, .eqs tPlace true (.t 20) (.t 24), none, [], []⟩]) (innkeepref06_Places.c17)) (innkeepref06_Places.c16))) (innkeepref06_Places.c15)
def innkeepref06_Places.c10 : Cd := .tidy [] [] [] (some 0)
def innkeepref06_Places.c9 : Cd := .seq (.seq (.seq (.seq (.reg false [⟨some 11, .move (.t 5), none, [], []⟩,
    ⟨some 12, .move (.t 0), none, [], []⟩,
    ⟨some 13, .len (.t 12), none, [], []⟩,
    ⟨some 14, .bin .lss (.t 11) (.t 13), none, [], []⟩]) (innkeepref06_Places.c13)) (innkeepref06_Places.c12)) (innkeepref06_Places.c11)) (innkeepref06_Places.c10)
def innkeepref06_Places.c8 : Cd := .block 0 (.loop (innkeepref06_Places.c9))
def innkeepref06_Places.c23 : Cd := .ret
def innkeepref06_Places.c7 : Cd := .seq (.reg false [⟨some 4, .move (.c .bool true), none, [], []⟩]) (innkeepref06_Places.c23)
def innkeepref06_Places.c1 : Cd := .seq (.seq (.reg false [⟨some 5, .move (.c (.int .i64) (0 : Int)), none, [], []⟩]) (innkeepref06_Places.c8)) (innkeepref06_Places.c7)
def innkeepref06_Places.c0 : Cd := .seq (.seq (.seq (.reg false [⟨some 6, .move (.t 0), none, [], []⟩,
    ⟨some 7, .len (.t 6), none, [], []⟩,
    ⟨some 8, .move (.t 1), none, [], []⟩,
    ⟨some 9, .len (.t 8), none, [], []⟩,
    ⟨some 10, .bin .neq (.t 7) (.t 9), none, [], []⟩]) (innkeepref06_Places.c3)) (innkeepref06_Places.c2)) (innkeepref06_Places.c1)
def innkeepref06_Places.fn : Fn := ⟨2, [.tmp 4], .seq (.reg false [⟨some 4, .move (.c .bool false), none, [], []⟩]) (innkeepref06_Places.c0)⟩
def innkeepref06_Same.c2 : Cd := .tidy [9, 10] [] [] none
def innkeepref06_Same.c4 : Cd := .tidy [11, 12] [] [] none
def innkeepref06_Same.c7 : Cd := .tidy [13, 14, 15, 16, 17, 18, 19, 20, 21, 22, 23, 24, 25, 26, 27, 28, 29, 30, 31, 32, 33, 34, 35, 36, 37, 38, 39, 40, 41, 42, 43, 44, 45, 46, 47, 48] [] [] none
def innkeepref06_Same.c9 : Cd := .ret
def innkeepref06_Same.c8 : Cd := .seq (.reg false [⟨some 4, .move (.c .bool false), none, [], []⟩]) (innkeepref06_Same.c9)
def innkeepref06_Same.c10 : Cd := .skip
def innkeepref06_Same.c6 : Cd := .cond (.t 49) (.seq (.tidy [49] [] [] none) (innkeepref06_Same.c8)) (.seq (.tidy [49] [] [] none) (innkeepref06_Same.c10))
def innkeepref06_Same.c17 : Cd := .tidy [50, 51, 52, 53] [] [] none
def innkeepref06_Same.c18 : Cd := .skip
def innkeepref06_Same.c26 : Cd := .exit 0
def innkeepref06_Same.c16 : Cd := .cond (.t 54) (.seq (.tidy [54] [] [] none) (innkeepref06_Same.c18)) (.seq (.tidy [54] [] [] none) (innkeepref06_Same.c26))
def innkeepref06_Same.c21 : Cd := .tidy [57, 58, 59, 60, 61, 62, 63, 64, 65, 66] [] [] none
def innkeepref06_Same.c23 : Cd := .ret
def innkeepref06_Same.c22 : Cd := .seq (.reg false [⟨some 4, .move (.c .bool false), none, [], []⟩]) (innkeepref06_Same.c23)
def innkeepref06_Same.c24 : Cd := .skip
def innkeepref06_Same.c20 : Cd := .cond (.t 67) (.seq (.tidy [67] [] [] none) (innkeepref06_Same.c22)) (.seq (.tidy [67] [] [] none) (innkeepref06_Same.c24))
def innkeepref06_Same.c25 : Cd := .tidy [55, 56] [] [] none
def innkeepref06_Same.c19 : Cd := .seq (.reg false [⟨some 55, .move (.t 7), none, [], []⟩,
    ⟨some 56, .bin .add (.t 55) (.c (.int .i64) (1 : Int)), none, [], []⟩,
    ⟨some 7, .move (.t 56), none, [], []⟩]) (innkeepref06_Same.c25)
def innkeepref06_Same.c15 : Cd := .seq (.block 1 (.seq (.seq (.reg true [⟨some 57, .fieldAddr (.d tDesc) 0 (.t 5), none, [2], []⟩,
    ⟨some 58, .load (.d (.sl (.arr 4 (.int .i64)))) (.t 57), none, [2], []⟩,
    ⟨some 59, .move (.t 7), none, [], []⟩,
    ⟨some 60, .index (.sl (.arr 4 (.int .i64))) (.t 58) (.t 59), none, [], []⟩,
    ⟨some 61, .load (.d (.arr 4 (.int .i64))) (.t 60), none, [], []⟩,
    ⟨some 62, .fieldAddr (.d tDesc) 0 (.t 6), none, [3], []⟩,
    ⟨some 63, .load (.d (.sl (.arr 4 (.int .i64)))) (.t 62), none, [3], []⟩,
    ⟨some 64, .move (.t 7), none, [], []⟩,
    ⟨some 65, .index (.sl (.arr 4 (.int .i64))) (.t 63) (.t 64), none, [], []⟩,
    ⟨some 66, .load (.d (.arr 4 (.int .i64))) (.t 65), none, [], []⟩,
    ⟨some 67, .eqs (.arr 4 (.int .i64)) true (.t 61) (.t 66), none, [], []⟩]) (innkeepref06_Same.c21)) (innkeepref06_Same.c20))) (innkeepref06_Same.c19)
def innkeepref06_Same.c14 : Cd := .tidy [] [] [] (some 4)
def innkeepref06_Same.c13 : Cd := .seq (.seq (.seq (.seq (.reg false [⟨some 50, .move (.t 7), none, [], []⟩,
    ⟨some 51, .fieldAddr (.d tDesc) 0 (.t 5), none, [], []⟩,
    ⟨some 52, .load (.d (.sl (.arr 4 (.int .i64)))) (.t 51), none, [], []⟩,
    ⟨some 53, .len (.t 52), none, [], []⟩,
    ⟨some 54, .bin .lss (.t 50) (.t 53), none, [], []⟩]) (innkeepref06_Same.c17)) (innkeepref06_Same.c16)) (innkeepref06_Same.c15)) (innkeepref06_Same.c14)
def innkeepref06_Same.c12 : Cd := .block 0 (.loop (innkeepref06_Same.c13))
def innkeepref06_Same.c33 : Cd := .tidy [68, 69, 70, 71] [] [] none
def innkeepref06_Same.c34 : Cd := .skip
def innkeepref06_Same.c42 : Cd := .exit 2
def innkeepref06_Same.c32 : Cd := .cond (.t 72) (.seq (.tidy [72] [] [] none) (innkeepref06_Same.c34)) (.seq (.tidy [72] [] [] none) (innkeepref06_Same.c42))
def innkeepref06_Same.c37 : Cd := .tidy [75, 76, 77, 78, 79, 80, 81, 82, 83, 84] [] [] none
def innkeepref06_Same.c39 : Cd := .ret
def innkeepref06_Same.c38 : Cd := .seq (.reg false [⟨some 4, .move (.c .bool false), none, [], []⟩]) (innkeepref06_Same.c39)
def innkeepref06_Same.c40 : Cd := .skip
def innkeepref06_Same.c36 : Cd := .cond (.t 85) (.seq (.tidy [85] [] [] none) (innkeepref06_Same.c38)) (.seq (.tidy [85] [] [] none) (innkeepref06_Same.c40))
def innkeepref06_Same.c41 : Cd := .tidy [73, 74] [] [] none
def innkeepref06_Same.c35 : Cd := .seq (.reg false [⟨some 73, .move (.t 8), none, [], []⟩,
    ⟨some 74, .bin .add (.t 73) (.c (.int .i64) (1 : Int)), none, [], []⟩,
    ⟨some 8, .move (.t 74), none, [], []⟩]) (innkeepref06_Same.c41)
def innkeepref06_Same.c31 : Cd := .seq (.block 3 (.seq (.seq (.reg true [⟨some 75, .fieldAddr (.d tDesc) 4 (.t 5), none, [2], []⟩,
    ⟨some 76, .load (.d (.sl .bool)) (.t 75), none, [2], []⟩,
    ⟨some 77, .move (.t 8), none, [], []⟩,
    ⟨some 78, .index (.sl .bool) (.t 76) (.t 77), none, [], []⟩,
    ⟨some 79, .load (.d .bool) (.t 78), none, [], []⟩,
    ⟨some 80, .fieldAddr (.d tDesc) 4 (.t 6), none, [3], []⟩,
    ⟨some 81, .load (.d (.sl .bool)) (.t 80), none, [3], []⟩,
    ⟨some 82, .move (.t 8), none, [], []⟩,
    ⟨some 83, .index (.sl .bool) (.t 81) (.t 82), none, [], []⟩,
    ⟨some 84, .load (.d .bool) (.t 83), none, [], []⟩,
    ⟨some 85, .eqs .bool true (.t 79) (.t 84), none, [], []⟩]) (innkeepref06_Same.c37)) (innkeepref06_Same.c36))) (innkeepref06_Same.c35)
def innkeepref06_Same.c30 : Cd := .tidy [] [] [] (some 4)
def innkeepref06_Same.c29 : Cd := .seq (.seq (.seq (.seq (.reg false [⟨some 68, .move (.t 8), none, [], []⟩,
    ⟨some 69, .fieldAddr (.d tDesc) 4 (.t 5), none, [], []⟩,
    ⟨some 70, .load (.d (.sl .bool)) (.t 69), none, [], []⟩,
    ⟨some 71, .len (.t 70), none, [], []⟩,
    ⟨some 72, .bin .lss (.t 68) (.t 71), none, [], []⟩]) (innkeepref06_Same.c33)) (innkeepref06_Same.c32)) (innkeepref06_Same.c31)) (innkeepref06_Same.c30)
def innkeepref06_Same.c28 : Cd := .block 2 (.loop (innkeepref06_Same.c29))
def innkeepref06_Same.c44 : Cd := .tidy [86, 87, 88, 89, 90, 91, 92, 93, 94, 95, 96, 97, 98, 99, 100, 101, 102, 103, 104, 105, 106, 107, 108, 109, 110, 111, 112, 113, 114, 115, 116, 117, 118, 119, 120, 121, 122, 123, 124, 125] [] [] none
def innkeepref06_Same.c43 : Cd := .ret
def innkeepref06_Same.c27 : Cd := .seq (.seq (.reg false [⟨some 86, .fieldAddr (.d tDesc) 1 (.t 5), none, [], []⟩,
    ⟨some 87, .load (.d (.sl (.int .i64))) (.t 86), none, [], []⟩,
    ⟨some 88, .fieldAddr (.d tDesc) 1 (.t 6), none, [], []⟩,
    ⟨some 89, .load (.d (.sl (.int .i64))) (.t 88), none, [], []⟩,
    ⟨some 90, .call (.f 42) [(.t 87), (.t 89)] [.d .bool] [] false, none, [], []⟩,
    ⟨some 91, .move (.t 90), none, [], []⟩,
    ⟨some 92, .fieldAddr (.d tDesc) 2 (.t 5), some (91, true), [], []⟩,
    ⟨some 93, .load (.d (.sl (.int .i64))) (.t 92), some (91, true), [], []⟩,
    ⟨some 94, .fieldAddr (.d tDesc) 2 (.t 6), some (91, true), [], []⟩,
    ⟨some 95, .load (.d (.sl (.int .i64))) (.t 94), some (91, true), [], []⟩,
    ⟨some 96, .call (.f 42) [(.t 93), (.t 95)] [.d .bool] [] false, some (91, true), [], []⟩,
    ⟨some 97, .pick (.t 91) (.t 96) (.c .bool false), none, [], []⟩,
    ⟨some 98, .move (.t 97), none, [], []⟩,
    ⟨some 99, .fieldAddr (.d tDesc) 3 (.t 5), some (98, true), [], []⟩,
    ⟨some 100, .load (.d (.sl (.int .i64))) (.t 99), some (98, true), [], []⟩,
    ⟨some 101, .fieldAddr (.d tDesc) 3 (.t 6), some (98, true), [], []⟩,
    ⟨some 102, .load (.d (.sl (.int .i64))) (.t 101), some (98, true), [], []⟩,
    ⟨some 103, .call (.f 42) [(.t 100), (.t 102)] [.d .bool] [] false, some (98, true), [], []⟩,
    ⟨some 104, .pick (.t 98) (.t 103) (.c .bool false), none, [], []⟩,
    ⟨some 105, .move (.t 104), none, [], []⟩,
    ⟨some 106, .fieldAddr (.d tWorld) 1 (.t 2), some (105, true), [], []⟩,
    ⟨some 107, .load (.d (.sl (.int .i64))) (.t 106), some (105, true), [], []⟩,
    ⟨some 108, .fieldAddr (.d tWorld) 1 (.t 3), some (105, true), [], []⟩,
    ⟨some 109, .load (.d (.sl (.int .i64))) (.t 108), some (105, true), [], []⟩,
    ⟨some 110, .call (.f 42) [(.t 107), (.t 109)] [.d .bool] [] false, some (105, true), [], []⟩,
    ⟨some 111, .pick (.t 105) (.t 110) (.c .bool false), none, [], []⟩,
    ⟨some 112, .move (.t 111), none, [], []⟩,
    ⟨some 113, .fieldAddr (.d tWorld) 2 (.t 2), some (112, true), [], []⟩,
    ⟨some 114, .load (.d (.sl (.int .i64))) (.t 113), some (112, true), [], []⟩,
    ⟨some 115, .fieldAddr (.d tWorld) 2 (.t 3), some (112, true), [], []⟩,
    ⟨some 116, .load (.d (.sl (.int .i64))) (.t 115), some (112, true), [], []⟩,
    ⟨some 117, .call (.f 42) [(.t 114), (.t 116)] [.d .bool] [] false, some (112, true), [], []⟩,
    ⟨some 118, .pick (.t 112) (.t 117) (.c .bool false), none, [], []⟩,
    ⟨some 119, .move (.t 118), none, [], []⟩,
    ⟨some 120, .fieldAddr (.d tWorld) 3 (.t 2), some (119, true), [], []⟩,
    ⟨some 121, .load (.d (.sl tPlace)) (.t 120), some (119, true), [], []⟩,
    ⟨some 122, .fieldAddr (.d tWorld) 3 (.t 3), some (119, true), [], []⟩,
    ⟨some 123, .load (.d (.sl tPlace)) (.t 122), some (119, true), [], []⟩,
    ⟨some 124, .call (.f 43) [(.t 121), (.t 123)] [.d .bool] [] false, some (119, true), [], []⟩,
    ⟨some 125, .pick (.t 119) (.t 124) (.c .bool false), none, [], []⟩,
    ⟨some 4, .move (.t 125), none, [], []⟩]) (innkeepref06_Same.c44)) (innkeepref06_Same.c43)
def innkeepref06_Same.c11 : Cd := .seq (.seq (.reg false [⟨some 8, .move (.c (.int .i64) (0 : Int)), none, [], []⟩]) (innkeepref06_Same.c28)) (innkeepref06_Same.c27)
def innkeepref06_Same.c5 : Cd := .seq (.seq (.reg false [⟨some 7, .move (.c (.int .i64) (0 : Int)), none, [], []⟩]) (innkeepref06_Same.c12)) (innkeepref06_Same.c11)
def innkeepref06_Same.c3 : Cd := .seq (.seq (.seq (.reg false [⟨some 13, .fieldAddr (.d tDesc) 5 (.t 5), none, [], []⟩,
    ⟨some 14, .load (.d (.int .i64)) (.t 13), none, [], []⟩,
    ⟨some 15, .fieldAddr (.d tDesc) 5 (.t 6), none, [], []⟩,
    ⟨some 16, .load (.d (.int .i64)) (.t 15), none, [], []⟩,
    ⟨some 17, .bin .neq (.t 14) (.t 16), none, [], []⟩,
    ⟨some 18, .move (.t 17), none, [], []⟩,
    ⟨some 19, .fieldAddr (.d tDesc) 6 (.t 5), some (18, false), [], []⟩,
    ⟨some 20, .load (.d (.int .i64)) (.t 19), some (18, false), [], []⟩,
    ⟨some 21, .fieldAddr (.d tDesc) 6 (.t 6), some (18, false), [], []⟩,
    ⟨some 22, .load (.d (.int .i64)) (.t 21), some (18, false), [], []⟩,
    ⟨some 23, .bin .neq (.t 20) (.t 22), some (18, false), [], []⟩,
    ⟨some 24, .pick (.t 18) (.c .bool true) (.t 23), none, [], []⟩,
    ⟨some 25, .move (.t 24), none, [], []⟩,
    ⟨some 26, .fieldAddr (.d tDesc) 7 (.t 5), some (25, false), [], []⟩,
    ⟨some 27, .load (.d (.int .i64)) (.t 26), some (25, false), [], []⟩,
    ⟨some 28, .fieldAddr (.d tDesc) 7 (.t 6), some (25, false), [], []⟩,
    ⟨some 29, .load (.d (.int .i64)) (.t 28), some (25, false), [], []⟩,
    ⟨some 30, .bin .neq (.t 27) (.t 29), some (25, false), [], []⟩,
    ⟨some 31, .pick (.t 25) (.c .bool true) (.t 30), none, [], []⟩,
    ⟨some 32, .move (.t 31), none, [], []⟩,
    ⟨some 33, .fieldAddr (.d tDesc) 0 (.t 5), some (32, false), [], []⟩,
    ⟨some 34, .load (.d (.sl (.arr 4 (.int .i64)))) (.t 33), some (32, false), [], []⟩,
    ⟨some 35, .len (.t 34), some (32, false), [], []⟩,
    ⟨some 36, .fieldAddr (.d tDesc) 0 (.t 6), some (32, false), [], []⟩,
    ⟨some 37, .load (.d (.sl (.arr 4 (.int .i64)))) (.t 36), some (32, false), [], []⟩,
    ⟨some 38, .len (.t 37), some (32, false), [], []⟩,
    ⟨some 39, .bin .neq (.t 35) (.t 38), some (32, false), [], []⟩,
    ⟨some 40, .pick (.t 32) (.c .bool true) (.t 39), none, [], []⟩,
    ⟨some 41, .move (.t 40), none, [], []⟩,
    ⟨some 42, .fieldAddr (.d tDesc) 4 (.t 5), some (41, false), [], []⟩,
    ⟨some 43, .load (.d (.sl .bool)) (.t 42), some (41, false), [], []⟩,
    ⟨some 44, .len (.t 43), some (41, false), [], []⟩,
    ⟨some 45, .fieldAddr (.d tDesc) 4 (.t 6), some (41, false), [], []⟩,
    ⟨some 46, .load (.d (.sl .bool)) (.t 45), some (41, false), [], []⟩,
    ⟨some 47, .len (.t 46), some (41, false), [], []⟩,
    ⟨some 48, .bin .neq (.t 44) (.t 47), some (41, false), [], []⟩,
    ⟨some 49, .pick (.t 41) (.c .bool true) (.t 48), none, [], []⟩]) (innkeepref06_Same.c7)) (innkeepref06_Same.c6)) (innkeepref06_Same.c5)
def innkeepref06_Same.c1 : Cd := .seq (.seq (.reg false [⟨some 11, .fieldAddr (.d tWorld) 0 (.t 3), none, [], []⟩,
    ⟨some 12, .load (.d tDesc) (.t 11), none, [], []⟩,
    ⟨some 6, .newbox 3 tDesc [], none, [], []⟩,
    ⟨none, .store (.d tDesc) (.t 6) (.t 12), none, [], []⟩]) (innkeepref06_Same.c4)) (innkeepref06_Same.c3)
def innkeepref06_Same.c0 : Cd := .seq (.seq (.reg false [⟨some 9, .fieldAddr (.d tWorld) 0 (.t 2), none, [], []⟩,
    ⟨some 10, .load (.d tDesc) (.t 9), none, [], []⟩,
    ⟨some 5, .newbox 2 tDesc [], none, [], []⟩,
    ⟨none, .store (.d tDesc) (.t 5) (.t 10), none, [], []⟩]) (innkeepref06_Same.c2)) (innkeepref06_Same.c1)
def innkeepref06_Same.fn : Fn := ⟨2, [.tmp 4], .seq (.reg false [⟨some 2, .box 0 (.t 0), none, [], []⟩,
    ⟨some 3, .box 1 (.t 1), none, [], []⟩,
    ⟨some 4, .move (.c .bool false), none, [], []⟩]) (innkeepref06_Same.c0)⟩
def innkeepref06_New.c2 : Cd := .tidy [5, 6] [] [] none
def innkeepref06_New.c4 : Cd := .tidy [7, 8, 9, 10, 11, 12] [] [] none
def innkeepref06_New.c6 : Cd := .tidy [13, 14, 15, 16, 17, 18] [] [] none
def innkeepref06_New.c13 : Cd := .tidy [19, 20, 21, 22] [] [] none
def innkeepref06_New.c14 : Cd := .skip
def innkeepref06_New.c18 : Cd := .exit 0
def innkeepref06_New.c12 : Cd := .cond (.t 23) (.seq (.tidy [23] [] [] none) (innkeepref06_New.c14)) (.seq (.tidy [23] [] [] none) (innkeepref06_New.c18))
def innkeepref06_New.c16 : Cd := .tidy [26, 27, 28, 29, 30, 31, 32, 33, 34, 35, 36] [] [] none
def innkeepref06_New.c17 : Cd := .tidy [24, 25] [] [] none
def innkeepref06_New.c15 : Cd := .seq (.reg false [⟨some 24, .move (.t 4), none, [], []⟩,
    ⟨some 25, .bin .add (.t 24) (.c (.int .i64) (1 : Int)), none, [], []⟩,
    ⟨some 4, .move (.t 25), none, [], []⟩]) (innkeepref06_New.c17)
def innkeepref06_New.c11 : Cd := .seq (.block 1 (.seq (.reg true [⟨some 26, .fieldAddr (.d tWorld) 3 (.t 3), none, [2], []⟩,
    ⟨some 27, .load (.d (.sl tPlace)) (.t 26), none, [2], []⟩,
    ⟨some 28, .fieldAddr (.d tDesc) 3 (.t 1), none, [0], []⟩,
    ⟨some 29, .load (.d (.sl (.int .i64))) (.t 28), none, [0], []⟩,
    ⟨some 30, .move (.t 4), none, [], []⟩,
    ⟨some 31, .index (.sl (.int .i64)) (.t 29) (.t 30), none, [], []⟩,
    ⟨some 32, .load (.d (.int .i64)) (.t 31), none, [], []⟩,
    ⟨some 33, .build tPlace [(1, (.t 32))] [], none, [], []⟩,
    ⟨some 34, .slice 5 tPlace [(.t 33)], none, [], [5]⟩,
    ⟨some 35, .append 6 tPlace (.t 27) (.t 34), none, [5], [6, 9]⟩,
    ⟨some 36, .fieldAddr (.d tWorld) 3 (.t 3), none, [2], []⟩,
    ⟨none, .store (.d (.sl tPlace)) (.t 36) (.t 35), none, [], [2]⟩]) (innkeepref06_New.c16))) (innkeepref06_New.c15)
def innkeepref06_New.c10 : Cd := .tidy [] [(6, 9)] [5] (some 10)
def innkeepref06_New.c9 : Cd := .seq (.seq (.seq (.seq (.reg false [⟨some 19, .move (.t 4), none, [], []⟩,
    ⟨some 20, .fieldAddr (.d tDesc) 3 (.t 1), none, [], []⟩,
    ⟨some 21, .load (.d (.sl (.int .i64))) (.t 20), none, [], []⟩,
    ⟨some 22, .len (.t 21), none, [], []⟩,
    ⟨some 23, .bin .lss (.t 19) (.t 22), none, [], []⟩]) (innkeepref06_New.c13)) (innkeepref06_New.c12)) (innkeepref06_New.c11)) (innkeepref06_New.c10)
def innkeepref06_New.c8 : Cd := .block 0 (.loop (innkeepref06_New.c9))
def innkeepref06_New.c20 : Cd := .tidy [37] [] [] none
def innkeepref06_New.c19 : Cd := .ret
def innkeepref06_New.c7 : Cd := .seq (.seq (.reg false [⟨some 37, .load (.d tWorld) (.t 3), none, [], []⟩,
    ⟨none, .store (.d tWorld) (.t 2) (.t 37), none, [], []⟩]) (innkeepref06_New.c20)) (innkeepref06_New.c19)
def innkeepref06_New.c5 : Cd := .seq (.seq (.reg false [⟨some 4, .move (.c (.int .i64) (0 : Int)), none, [], []⟩]) (innkeepref06_New.c8)) (innkeepref06_New.c7)
def innkeepref06_New.c3 : Cd := .seq (.seq (.reg false [⟨some 13, .fieldAddr (.d tWorld) 2 (.t 3), none, [], []⟩,
    ⟨some 14, .load (.d (.sl (.int .i64))) (.t 13), none, [], []⟩,
    ⟨some 15, .fieldAddr (.d tDesc) 2 (.t 1), none, [], []⟩,
    ⟨some 16, .load (.d (.sl (.int .i64))) (.t 15), none, [], []⟩,
    ⟨some 17, .append 4 (.int .i64) (.t 14) (.t 16), none, [], []⟩,
    ⟨some 18, .fieldAddr (.d tWorld) 2 (.t 3), none, [], []⟩,
    ⟨none, .store (.d (.sl (.int .i64))) (.t 18) (.t 17), none, [], []⟩]) (innkeepref06_New.c6)) (innkeepref06_New.c5)
def innkeepref06_New.c1 : Cd := .seq (.seq (.reg false [⟨some 7, .fieldAddr (.d tWorld) 1 (.t 3), none, [], []⟩,
    ⟨some 8, .load (.d (.sl (.int .i64))) (.t 7), none, [], []⟩,
    ⟨some 9, .fieldAddr (.d tDesc) 1 (.t 1), none, [], []⟩,
    ⟨some 10, .load (.d (.sl (.int .i64))) (.t 9), none, [], []⟩,
    ⟨some 11, .append 3 (.int .i64) (.t 8) (.t 10), none, [], []⟩,
    ⟨some 12, .fieldAddr (.d tWorld) 1 (.t 3), none, [], []⟩,
    ⟨none, .store (.d (.sl (.int .i64))) (.t 12) (.t 11), none, [], []⟩]) (innkeepref06_New.c4)) (innkeepref06_New.c3)
def innkeepref06_New.c0 : Cd := .seq (.seq (.reg false [⟨some 5, .load (.d tDesc) (.t 1), none, [], []⟩,
    ⟨some 6, .build tWorld [(0, (.t 5))] [([1], 7), ([2], 8), ([3], 9)], none, [], []⟩,
    ⟨some 3, .newbox 2 tWorld [], none, [], []⟩,
    ⟨none, .store (.d tWorld) (.t 3) (.t 6), none, [], []⟩]) (innkeepref06_New.c2)) (innkeepref06_New.c1)
def innkeepref06_New.fn : Fn := ⟨1, [.cell 2 (.d tWorld)], .seq (.reg false [⟨some 1, .box 0 (.t 0), none, [], []⟩,
    ⟨some 2, .newbox 1 tWorld [], none, [], []⟩]) (innkeepref06_New.c0)⟩
def innkeeplaw06_DescMakes.c3 : Cd := .tidy [9, 10, 11, 12, 13, 14, 15, 16, 17, 18, 19, 20, 21, 22, 23, 24, 25] [] [] none
def innkeeplaw06_DescMakes.c6 : Cd := .tidy [27] [] [] none
def innkeeplaw06_DescMakes.c5 : Cd := .ret
def innkeeplaw06_DescMakes.c4 : Cd := .seq (.seq (.reg false [⟨some 27, .call (.f 8) [] [.d .bool] [] false, none, [], []⟩,
    ⟨some 6, .move (.t 27), none, [], []⟩]) (innkeeplaw06_DescMakes.c6)) (innkeeplaw06_DescMakes.c5)
def innkeeplaw06_DescMakes.c7 : Cd := .skip
def innkeeplaw06_DescMakes.c2 : Cd := .cond (.t 26) (.seq (.tidy [26] [] [] none) (innkeeplaw06_DescMakes.c4)) (.seq (.tidy [26] [] [] none) (innkeeplaw06_DescMakes.c7))
def innkeeplaw06_DescMakes.c9 : Cd := .tidy [28, 29, 30, 31, 32] [] [] none
def innkeeplaw06_DescMakes.c12 : Cd := .tidy [33, 34, 35, 36, 37, 38, 39, 40, 41, 42, 43, 44, 45, 46, 47, 48, 49, 50, 51, 52, 53, 54, 55, 56, 57, 58, 59] [] [] none
def innkeeplaw06_DescMakes.c14 : Cd := .ret
def innkeeplaw06_DescMakes.c13 : Cd := .seq (.reg false [⟨some 6, .move (.c .bool false), none, [], []⟩]) (innkeeplaw06_DescMakes.c14)
def innkeeplaw06_DescMakes.c15 : Cd := .skip
def innkeeplaw06_DescMakes.c11 : Cd := .cond (.t 60) (.seq (.tidy [60] [] [] none) (innkeeplaw06_DescMakes.c13)) (.seq (.tidy [60] [] [] none) (innkeeplaw06_DescMakes.c15))
def innkeeplaw06_DescMakes.c18 : Cd := .tidy [61, 62] [] [] none
def innkeeplaw06_DescMakes.c21 : Cd := .tidy [64, 65, 66, 67, 68, 69, 70] [] [] none
def innkeeplaw06_DescMakes.c20 : Cd := .ret
def innkeeplaw06_DescMakes.c19 : Cd := .seq (.seq (.reg false [⟨some 64, .move (.t 8), none, [], []⟩,
    ⟨some 65, .bin .eql (.t 64) (.c (.int .i64) (1 : Int)), none, [], []⟩,
    ⟨some 66, .move (.t 65), none, [], []⟩,
    ⟨some 67, .load (.d tWorld) (.t 7), some (66, true), [], []⟩,
    ⟨some 68, .build tWorld [] [], some (66, true), [], []⟩,
    ⟨some 69, .call (.f 16) [(.t 67), (.t 68)] [.d .bool] [] false, some (66, true), [], []⟩,
    ⟨some 70, .pick (.t 66) (.t 69) (.c .bool false), none, [], []⟩,
    ⟨some 6, .move (.t 70), none, [], []⟩]) (innkeeplaw06_DescMakes.c21)) (innkeeplaw06_DescMakes.c20)
def innkeeplaw06_DescMakes.c22 : Cd := .skip
def innkeeplaw06_DescMakes.c17 : Cd := .cond (.t 63) (.seq (.tidy [63] [] [] none) (innkeeplaw06_DescMakes.c19)) (.seq (.tidy [63] [] [] none) (innkeeplaw06_DescMakes.c22))
def innkeeplaw06_DescMakes.c24 : Cd := .tidy [71, 72, 73, 74, 75, 76, 77, 78] [] [] none
def innkeeplaw06_DescMakes.c23 : Cd := .ret
def innkeeplaw06_DescMakes.c16 : Cd := .seq (.seq (.reg true [⟨some 71, .move (.t 8), none, [], []⟩,
    ⟨some 72, .bin .eql (.t 71) (.c (.int .i64) (0 : Int)), none, [], []⟩,
    ⟨some 73, .move (.t 72), none, [], []⟩,
    ⟨some 74, .load (.d tWorld) (.t 7), some (73, true), [3], []⟩,
    ⟨some 75, .load (.d tDesc) (.t 3), some (73, true), [0], []⟩,
    ⟨some 76, .call (.f 18) [(.t 75)] [.d tWorld] [] false, some (73, true), [], []⟩,
    ⟨some 77, .call (.f 16) [(.t 74), (.t 76)] [.d .bool] [] false, some (73, true), [], []⟩,
    ⟨some 78, .pick (.t 73) (.t 77) (.c .bool false), none, [], []⟩,
    ⟨some 6, .move (.t 78), none, [], []⟩]) (innkeeplaw06_DescMakes.c24)) (innkeeplaw06_DescMakes.c23)
def innkeeplaw06_DescMakes.c10 : Cd := .seq (.seq (.seq (.reg false [⟨some 61, .load (.d tDesc) (.t 3), none, [], []⟩,
    ⟨some 62, .call (.f 12) [(.t 61)] [.d .bool] [] false, none, [], []⟩,
    ⟨some 63, .not (.t 62), none, [], []⟩]) (innkeeplaw06_DescMakes.c18)) (innkeeplaw06_DescMakes.c17)) (innkeeplaw06_DescMakes.c16)
def innkeeplaw06_DescMakes.c8 : Cd := .seq (.seq (.seq (.reg true [⟨some 33, .load (.d tDesc) (.t 3), none, [0], []⟩,
    ⟨some 34, .call (.f 11) [(.t 33)] [.d .bool] [] false, none, [], []⟩,
    ⟨some 35, .load (.d tDesc) (.t 3), none, [0], []⟩,
    ⟨some 36, .call (.f 12) [(.t 35)] [.d .bool] [] false, none, [], []⟩,
    ⟨some 37, .eqs .bool true (.t 34) (.t 36), none, [], []⟩,
    ⟨some 38, .move (.t 37), none, [], []⟩,
    ⟨some 39, .load (.d tWorld) (.t 4), some (38, false), [1], []⟩,
    ⟨some 40, .call (.f 13) [(.t 39)] [.d .bool] [] false, some (38, false), [], []⟩,
    ⟨some 41, .load (.d tWorld) (.t 4), some (38, false), [1], []⟩,
    ⟨some 42, .call (.f 14) [(.t 41)] [.d .bool] [] false, some (38, false), [], []⟩,
    ⟨some 43, .eqs .bool true (.t 40) (.t 42), some (38, false), [], []⟩,
    ⟨some 44, .pick (.t 38) (.c .bool true) (.t 43), none, [], []⟩,
    ⟨some 45, .move (.t 44), none, [], []⟩,
    ⟨some 46, .load (.d tWorld) (.t 4), some (45, false), [1], []⟩,
    ⟨some 47, .load (.d tWorld) (.t 5), some (45, false), [2], []⟩,
    ⟨some 48, .call (.f 15) [(.t 46), (.t 47)] [.d .bool] [] false, some (45, false), [], []⟩,
    ⟨some 49, .load (.d tWorld) (.t 4), some (45, false), [1], []⟩,
    ⟨some 50, .load (.d tWorld) (.t 5), some (45, false), [2], []⟩,
    ⟨some 51, .call (.f 16) [(.t 49), (.t 50)] [.d .bool] [] false, some (45, false), [], []⟩,
    ⟨some 52, .eqs .bool true (.t 48) (.t 51), some (45, false), [], []⟩,
    ⟨some 53, .pick (.t 45) (.c .bool true) (.t 52), none, [], []⟩,
    ⟨some 54, .move (.t 53), none, [], []⟩,
    ⟨some 55, .load (.d tWorld) (.t 4), some (54, false), [1], []⟩,
    ⟨some 56, .call (.f 17) [(.t 55)] [.d tWorld] [] false, some (54, false), [], []⟩,
    ⟨some 57, .load (.d tWorld) (.t 4), some (54, false), [1], []⟩,
    ⟨some 58, .call (.f 15) [(.t 56), (.t 57)] [.d .bool] [] false, some (54, false), [], []⟩,
    ⟨some 59, .not (.t 58), some (54, false), [], []⟩,
    ⟨some 60, .pick (.t 54) (.c .bool true) (.t 59), none, [], []⟩]) (innkeeplaw06_DescMakes.c12)) (innkeeplaw06_DescMakes.c11)) (innkeeplaw06_DescMakes.c10)
def innkeeplaw06_DescMakes.c1 : Cd := .seq (.seq (.reg false [⟨some 29, .load (.d tDesc) (.t 3), none, [], []⟩,
    ⟨some 30, .call (.f 10) [(.t 29)] [.d tWorld, .d (.int .i64)] [] false, none, [], []⟩,
    ⟨some 28, .move (.t 30), none, [], []⟩,
    ⟨some 31, .extract (.t 28) 0, none, [], []⟩,
    ⟨some 32, .extract (.t 28) 1, none, [], []⟩,
    ⟨some 7, .newbox 3 tWorld [], none, [], []⟩,
    ⟨none, .store (.d tWorld) (.t 7) (.t 31), none, [], []⟩,
    ⟨some 8, .move (.t 32), none, [], []⟩]) (innkeeplaw06_DescMakes.c9)) (innkeeplaw06_DescMakes.c8)
def innkeeplaw06_DescMakes.c0 : Cd := .seq (.seq (.seq (.reg false [⟨some 9, .call (.f 8) [] [.d .bool] [] false, none, [], []⟩,
    ⟨some 10, .not (.t 9), none, [], []⟩,
    ⟨some 11, .move (.t 10), none, [], []⟩,
    ⟨some 12, .load (.d tDesc) (.t 3), some (11, false), [], []⟩,
    ⟨some 13, .build tWorld [(0, (.t 12))] [], some (11, false), [], []⟩,
    ⟨some 14, .call (.f 9) [(.t 13)] [.d .bool] [] false, some (11, false), [], []⟩,
    ⟨some 15, .not (.t 14), some (11, false), [], []⟩,
    ⟨some 16, .pick (.t 11) (.c .bool true) (.t 15), none, [], []⟩,
    ⟨some 17, .move (.t 16), none, [], []⟩,
    ⟨some 18, .load (.d tWorld) (.t 4), some (17, false), [], []⟩,
    ⟨some 19, .call (.f 9) [(.t 18)] [.d .bool] [] false, some (17, false), [], []⟩,
    ⟨some 20, .not (.t 19), some (17, false), [], []⟩,
    ⟨some 21, .pick (.t 17) (.c .bool true) (.t 20), none, [], []⟩,
    ⟨some 22, .move (.t 21), none, [], []⟩,
    ⟨some 23, .load (.d tWorld) (.t 5), some (22, false), [], []⟩,
    ⟨some 24, .call (.f 9) [(.t 23)] [.d .bool] [] false, some (22, false), [], []⟩,
    ⟨some 25, .not (.t 24), some (22, false), [], []⟩,
    ⟨some 26, .pick (.t 22) (.c .bool true) (.t 25), none, [], []⟩]) (innkeeplaw06_DescMakes.c3)) (innkeeplaw06_DescMakes.c2)) (innkeeplaw06_DescMakes.c1)
def innkeeplaw06_DescMakes.fn : Fn := ⟨3, [.tmp 6], .seq (.reg false [⟨some 3, .box 0 (.t 0), none, [], []⟩,
    ⟨some 4, .box 1 (.t 1), none, [], []⟩,
    ⟨some 5, .box 2 (.t 2), none, [], []⟩,
    ⟨some 6, .move (.c .bool false), none, [], []⟩]) (innkeeplaw06_DescMakes.c0)⟩
def innkeeplaw06_DescRight.c3 : Cd := .tidy [14, 15, 16, 17, 18, 19, 20, 21, 22, 23, 24] [] [] none
def innkeeplaw06_DescRight.c6 : Cd := .tidy [26] [] [] none
def innkeeplaw06_DescRight.c5 : Cd := .ret
def innkeeplaw06_DescRight.c4 : Cd := .seq (.seq (.reg false [⟨some 26, .call (.f 8) [] [.d .bool] [] false, none, [], []⟩,
    ⟨some 4, .move (.t 26), none, [], []⟩]) (innkeeplaw06_DescRight.c6)) (innkeeplaw06_DescRight.c5)
def innkeeplaw06_DescRight.c7 : Cd := .skip
def innkeeplaw06_DescRight.c2 : Cd := .cond (.t 25) (.seq (.tidy [25] [] [] none) (innkeeplaw06_DescRight.c4)) (.seq (.tidy [25] [] [] none) (innkeeplaw06_DescRight.c7))
def innkeeplaw06_DescRight.c9 : Cd := .tidy [27, 28, 29, 30, 31, 32] [] [] none
def innkeeplaw06_DescRight.c12 : Cd := .tidy [33, 34, 35, 36, 37, 38, 39, 40, 41, 42, 43, 44, 45, 46, 47] [] [] none
def innkeeplaw06_DescRight.c14 : Cd := .ret
def innkeeplaw06_DescRight.c13 : Cd := .seq (.reg false [⟨some 4, .move (.c .bool false), none, [], []⟩]) (innkeeplaw06_DescRight.c14)
def innkeeplaw06_DescRight.c15 : Cd := .skip
def innkeeplaw06_DescRight.c11 : Cd := .cond (.t 48) (.seq (.tidy [48] [] [] none) (innkeeplaw06_DescRight.c13)) (.seq (.tidy [48] [] [] none) (innkeeplaw06_DescRight.c15))
def innkeeplaw06_DescRight.c22 : Cd := .tidy [49, 50, 51, 52] [] [] none
def innkeeplaw06_DescRight.c23 : Cd := .skip
def innkeeplaw06_DescRight.c31 : Cd := .exit 0
def innkeeplaw06_DescRight.c21 : Cd := .cond (.t 53) (.seq (.tidy [53] [] [] none) (innkeeplaw06_DescRight.c23)) (.seq (.tidy [53] [] [] none) (innkeeplaw06_DescRight.c31))
def innkeeplaw06_DescRight.c26 : Cd := .tidy [56, 57, 58, 59, 60, 61] [] [] none
def innkeeplaw06_DescRight.c28 : Cd := .ret
def innkeeplaw06_DescRight.c27 : Cd := .seq (.reg false [⟨some 4, .move (.c .bool false), none, [], []⟩]) (innkeeplaw06_DescRight.c28)
def innkeeplaw06_DescRight.c29 : Cd := .skip
def innkeeplaw06_DescRight.c25 : Cd := .cond (.t 62) (.seq (.tidy [62] [] [] none) (innkeeplaw06_DescRight.c27)) (.seq (.tidy [62] [] [] none) (innkeeplaw06_DescRight.c29))
def innkeeplaw06_DescRight.c30 : Cd := .tidy [54, 55] [] [] none
def innkeeplaw06_DescRight.c24 : Cd := .seq (.reg false [⟨some 54, .move (.t 7), none, [], []⟩,
    ⟨some 55, .bin .add (.t 54) (.c (.int .i64) (1 : Int)), none, [], []⟩,
    ⟨some 7, .move (.t 55), none, [], []⟩]) (innkeeplaw06_DescRight.c30)
def innkeeplaw06_DescRight.c20 : Cd := .seq (.block 1 (.seq (.seq (.reg false [⟨some 56, .fieldAddr (.d tWorld) 3 (.t 5), none, [], []⟩,
    ⟨some 57, .load (.d (.sl tPlace)) (.t 56), none, [], []⟩,
    ⟨some 58, .move (.t 7), none, [], []⟩,
    ⟨some 59, .index (.sl tPlace) (.t 57) (.t 58), none, [], []⟩,
    ⟨some 60, .fieldAddr (.d tPlace) 0 (.t 59), none, [], []⟩,
    ⟨some 61, .load (.d (.int .i64)) (.t 60), none, [], []⟩,
    ⟨some 62, .bin .neq (.t 61) (.c (.int .i64) (0 : Int)), none, [], []⟩]) (innkeeplaw06_DescRight.c26)) (innkeeplaw06_DescRight.c25))) (innkeeplaw06_DescRight.c24)
def innkeeplaw06_DescRight.c19 : Cd := .tidy [] [] [] (some 2)
def innkeeplaw06_DescRight.c18 : Cd := .seq (.seq (.seq (.seq (.reg false [⟨some 49, .move (.t 7), none, [], []⟩,
    ⟨some 50, .fieldAddr (.d tWorld) 3 (.t 5), none, [], []⟩,
    ⟨some 51, .load (.d (.sl tPlace)) (.t 50), none, [], []⟩,
    ⟨some 52, .len (.t 51), none, [], []⟩,
    ⟨some 53, .bin .lss (.t 49) (.t 52), none, [], []⟩]) (innkeeplaw06_DescRight.c22)) (innkeeplaw06_DescRight.c21)) (innkeeplaw06_DescRight.c20)) (innkeeplaw06_DescRight.c19)
def innkeeplaw06_DescRight.c17 : Cd := .block 0 (.loop (innkeeplaw06_DescRight.c18))
def innkeeplaw06_DescRight.c33 : Cd := .tidy [63, 64] [] [] none
def innkeeplaw06_DescRight.c35 : Cd := .tidy [65, 66, 67, 68, 69, 70, 71, 72, 73, 74, 75, 76, 77] [] [] none
def innkeeplaw06_DescRight.c37 : Cd := .tidy [78, 79] [] [] none
def innkeeplaw06_DescRight.c39 : Cd := .tidy [80, 81, 82, 83, 84, 85, 86, 87, 88] [] [] none
def innkeeplaw06_DescRight.c42 : Cd := .tidy [89, 90, 91, 92, 93] [] [] none
def innkeeplaw06_DescRight.c44 : Cd := .ret
def innkeeplaw06_DescRight.c43 : Cd := .seq (.reg false [⟨some 4, .move (.c .bool false), none, [], []⟩]) (innkeeplaw06_DescRight.c44)
def innkeeplaw06_DescRight.c45 : Cd := .skip
def innkeeplaw06_DescRight.c41 : Cd := .cond (.t 94) (.seq (.tidy [94] [] [] none) (innkeeplaw06_DescRight.c43)) (.seq (.tidy [94] [] [] none) (innkeeplaw06_DescRight.c45))
def innkeeplaw06_DescRight.c48 : Cd := .tidy [95, 96, 97] [] [] none
def innkeeplaw06_DescRight.c50 : Cd := .ret
def innkeeplaw06_DescRight.c49 : Cd := .seq (.reg false [⟨some 4, .move (.c .bool true), none, [], []⟩]) (innkeeplaw06_DescRight.c50)
def innkeeplaw06_DescRight.c51 : Cd := .skip
def innkeeplaw06_DescRight.c47 : Cd := .cond (.t 98) (.seq (.tidy [98] [] [] none) (innkeeplaw06_DescRight.c49)) (.seq (.tidy [98] [] [] none) (innkeeplaw06_DescRight.c51))
def innkeeplaw06_DescRight.c53 : Cd := .tidy [99, 100, 101, 102, 103, 104] [] [] none
def innkeeplaw06_DescRight.c55 : Cd := .tidy [105, 106] [] [] none
def innkeeplaw06_DescRight.c57 : Cd := .tidy [107, 108, 109, 110, 111, 112] [] [] none
def innkeeplaw06_DescRight.c59 : Cd := .tidy [113, 114] [] [] none
def innkeeplaw06_DescRight.c61 : Cd := .tidy [115, 116, 117, 118, 119] [] [] none
def innkeeplaw06_DescRight.c64 : Cd := .tidy [120, 121] [] [] none
def innkeeplaw06_DescRight.c66 : Cd := .tidy [123, 124, 125, 126, 127, 128] [] [] none
def innkeeplaw06_DescRight.c65 : Cd := .seq (.reg false [⟨some 123, .load (.d tWorld) (.t 2), none, [], []⟩,
    ⟨some 124, .load (.d tPlace) (.t 13), none, [], []⟩,
    ⟨some 125, .call (.f 19) [(.t 123), (.t 124)] [.d (.int .i64)] [] false, none, [], []⟩,
    ⟨some 126, .bin .sub (.t 125) (.c (.int .i64) (1 : Int)), none, [], []⟩,
    ⟨some 127, .fieldAddr (.d tWorld) 0 (.t 12), none, [], []⟩,
    ⟨some 128, .fieldAddr (.d tDesc) 6 (.t 127), none, [], []⟩,
    ⟨none, .store (.d (.int .i64)) (.t 128) (.t 126), none, [], []⟩]) (innkeeplaw06_DescRight.c66)
def innkeeplaw06_DescRight.c81 : Cd := .skip
def innkeeplaw06_DescRight.c63 : Cd := .cond (.t 122) (.seq (.tidy [122] [] [] none) (innkeeplaw06_DescRight.c65)) (.seq (.tidy [122] [] [] none) (innkeeplaw06_DescRight.c81))
def innkeeplaw06_DescRight.c69 : Cd := .tidy [129, 130] [] [] none
def innkeeplaw06_DescRight.c71 : Cd := .tidy [132, 133, 134, 135, 136, 137] [] [] none
def innkeeplaw06_DescRight.c70 : Cd := .seq (.reg false [⟨some 132, .load (.d tWorld) (.t 2), none, [], []⟩,
    ⟨some 133, .load (.d tPlace) (.t 13), none, [], []⟩,
    ⟨some 134, .call (.f 19) [(.t 132), (.t 133)] [.d (.int .i64)] [] false, none, [], []⟩,
    ⟨some 135, .bin .sub (.t 134) (.c (.int .i64) (1 : Int)), none, [], []⟩,
    ⟨some 136, .fieldAddr (.d tWorld) 0 (.t 12), none, [], []⟩,
    ⟨some 137, .fieldAddr (.d tDesc) 7 (.t 136), none, [], []⟩,
    ⟨none, .store (.d (.int .i64)) (.t 137) (.t 135), none, [], []⟩]) (innkeeplaw06_DescRight.c71)
def innkeeplaw06_DescRight.c80 : Cd := .skip
def innkeeplaw06_DescRight.c68 : Cd := .cond (.t 131) (.seq (.tidy [131] [] [] none) (innkeeplaw06_DescRight.c70)) (.seq (.tidy [131] [] [] none) (innkeeplaw06_DescRight.c80))
def innkeeplaw06_DescRight.c74 : Cd := .tidy [138, 139] [] [] none
def innkeeplaw06_DescRight.c76 : Cd := .tidy [141, 142, 143, 144, 145, 146] [] [] none
def innkeeplaw06_DescRight.c75 : Cd := .seq (.reg false [⟨some 141, .load (.d tWorld) (.t 2), none, [], []⟩,
    ⟨some 142, .load (.d tPlace) (.t 13), none, [], []⟩,
    ⟨some 143, .call (.f 19) [(.t 141), (.t 142)] [.d (.int .i64)] [] false, none, [], []⟩,
    ⟨some 144, .bin .sub (.t 143) (.c (.int .i64) (1 : Int)), none, [], []⟩,
    ⟨some 145, .fieldAddr (.d tWorld) 0 (.t 12), none, [], []⟩,
    ⟨some 146, .fieldAddr (.d tDesc) 5 (.t 145), none, [], []⟩,
    ⟨none, .store (.d (.int .i64)) (.t 146) (.t 144), none, [], []⟩]) (innkeeplaw06_DescRight.c76)
def innkeeplaw06_DescRight.c79 : Cd := .skip
def innkeeplaw06_DescRight.c73 : Cd := .cond (.t 140) (.seq (.tidy [140] [] [] none) (innkeeplaw06_DescRight.c75)) (.seq (.tidy [140] [] [] none) (innkeeplaw06_DescRight.c79))
def innkeeplaw06_DescRight.c78 : Cd := .tidy [147, 148, 149, 150, 151, 152, 153, 154] [] [] none
def innkeeplaw06_DescRight.c77 : Cd := .ret
def innkeeplaw06_DescRight.c72 : Cd := .seq (.seq (.reg false [⟨some 147, .load (.d tWorld) (.t 11), none, [], []⟩,
    ⟨some 148, .call (.f 13) [(.t 147)] [.d .bool] [] false, none, [], []⟩,
    ⟨some 149, .not (.t 148), none, [], []⟩,
    ⟨some 150, .move (.t 149), none, [], []⟩,
    ⟨some 151, .load (.d tWorld) (.t 12), some (150, true), [], []⟩,
    ⟨some 152, .call (.f 13) [(.t 151)] [.d .bool] [] false, some (150, true), [], []⟩,
    ⟨some 153, .not (.t 152), some (150, true), [], []⟩,
    ⟨some 154, .pick (.t 150) (.t 153) (.c .bool false), none, [], []⟩,
    ⟨some 4, .move (.t 154), none, [], []⟩]) (innkeeplaw06_DescRight.c78)) (innkeeplaw06_DescRight.c77)
def innkeeplaw06_DescRight.c67 : Cd := .seq (.seq (.seq (.reg false [⟨some 138, .fieldAddr (.d tPlace) 0 (.t 13), none, [], []⟩,
    ⟨some 139, .load (.d (.int .i64)) (.t 138), none, [], []⟩,
    ⟨some 140, .bin .eql (.t 139) (.c (.int .i64) (0 : Int)), none, [], []⟩]) (innkeeplaw06_DescRight.c74)) (innkeeplaw06_DescRight.c73)) (innkeeplaw06_DescRight.c72)
def innkeeplaw06_DescRight.c62 : Cd := .seq (.seq (.seq (.reg false [⟨some 129, .fieldAddr (.d tPlace) 0 (.t 13), none, [], []⟩,
    ⟨some 130, .load (.d (.int .i64)) (.t 129), none, [], []⟩,
    ⟨some 131, .bin .eql (.t 130) (.c (.int .i64) (2 : Int)), none, [], []⟩]) (innkeeplaw06_DescRight.c69)) (innkeeplaw06_DescRight.c68)) (innkeeplaw06_DescRight.c67)
def innkeeplaw06_DescRight.c60 : Cd := .seq (.seq (.seq (.reg false [⟨some 120, .fieldAddr (.d tPlace) 0 (.t 13), none, [], []⟩,
    ⟨some 121, .load (.d (.int .i64)) (.t 120), none, [], []⟩,
    ⟨some 122, .bin .eql (.t 121) (.c (.int .i64) (1 : Int)), none, [], []⟩]) (innkeeplaw06_DescRight.c64)) (innkeeplaw06_DescRight.c63)) (innkeeplaw06_DescRight.c62)
def innkeeplaw06_DescRight.c58 : Cd := .seq (.seq (.reg false [⟨some 115, .fieldAddr (.d tWorld) 3 (.t 12), none, [], []⟩,
    ⟨some 116, .load (.d (.sl tPlace)) (.t 115), none, [], []⟩,
    ⟨some 117, .move (.t 10), none, [], []⟩,
    ⟨some 118, .index (.sl tPlace) (.t 116) (.t 117), none, [], []⟩,
    ⟨some 119, .load (.d tPlace) (.t 118), none, [], []⟩,
    ⟨some 13, .newbox 6 tPlace [], none, [], []⟩,
    ⟨none, .store (.d tPlace) (.t 13) (.t 119), none, [], []⟩]) (innkeeplaw06_DescRight.c61)) (innkeeplaw06_DescRight.c60)
def innkeeplaw06_DescRight.c56 : Cd := .seq (.seq (.reg false [⟨some 113, .load (.d tWorld) (.t 2), none, [], []⟩,
    ⟨some 114, .call (.f 17) [(.t 113)] [.d tWorld] [] false, none, [], []⟩,
    ⟨some 12, .newbox 5 tWorld [], none, [], []⟩,
    ⟨none, .store (.d tWorld) (.t 12) (.t 114), none, [], []⟩]) (innkeeplaw06_DescRight.c59)) (innkeeplaw06_DescRight.c58)
def innkeeplaw06_DescRight.c54 : Cd := .seq (.seq (.reg false [⟨some 107, .fieldAddr (.d tWorld) 3 (.t 11), none, [], []⟩,
    ⟨some 108, .load (.d (.sl tPlace)) (.t 107), none, [], []⟩,
    ⟨some 109, .move (.t 10), none, [], []⟩,
    ⟨some 110, .move (.t 10), none, [], []⟩,
    ⟨some 111, .build tPlace [(0, (.c (.int .i64) (2 : Int))), (1, (.t 110))] [], none, [], []⟩,
    ⟨some 112, .index (.sl tPlace) (.t 108) (.t 109), none, [], []⟩,
    ⟨none, .store (.d tPlace) (.t 112) (.t 111), none, [], []⟩]) (innkeeplaw06_DescRight.c57)) (innkeeplaw06_DescRight.c56)
def innkeeplaw06_DescRight.c52 : Cd := .seq (.seq (.reg false [⟨some 105, .load (.d tWorld) (.t 2), none, [], []⟩,
    ⟨some 106, .call (.f 17) [(.t 105)] [.d tWorld] [((0, [3]), 9)] false, none, [], []⟩,
    ⟨some 11, .newbox 4 tWorld [], none, [], []⟩,
    ⟨none, .store (.d tWorld) (.t 11) (.t 106), none, [], []⟩]) (innkeeplaw06_DescRight.c55)) (innkeeplaw06_DescRight.c54)
def innkeeplaw06_DescRight.c46 : Cd := .seq (.seq (.reg false [⟨some 99, .move (.t 1), none, [], []⟩,
    ⟨some 100, .conv .i64 (.t 99), none, [], []⟩,
    ⟨some 101, .fieldAddr (.d tWorld) 3 (.t 2), none, [], []⟩,
    ⟨some 102, .load (.d (.sl tPlace)) (.t 101), none, [], []⟩,
    ⟨some 103, .len (.t 102), none, [], []⟩,
    ⟨some 104, .bin .rem (.t 100) (.t 103), none, [], []⟩,
    ⟨some 10, .move (.t 104), none, [], []⟩]) (innkeeplaw06_DescRight.c53)) (innkeeplaw06_DescRight.c52)
def innkeeplaw06_DescRight.c40 : Cd := .seq (.seq (.seq (.reg false [⟨some 95, .fieldAddr (.d tWorld) 3 (.t 2), none, [], []⟩,
    ⟨some 96, .load (.d (.sl tPlace)) (.t 95), none, [], []⟩,
    ⟨some 97, .len (.t 96), none, [], []⟩,
    ⟨some 98, .bin .eql (.t 97) (.c (.int .i64) (0 : Int)), none, [], []⟩]) (innkeeplaw06_DescRight.c48)) (innkeeplaw06_DescRight.c47)) (innkeeplaw06_DescRight.c46)
def innkeeplaw06_DescRight.c38 : Cd := .seq (.seq (.seq (.reg false [⟨some 89, .load (.d tWorld) (.t 8), none, [], []⟩,
    ⟨some 90, .call (.f 13) [(.t 89)] [.d .bool] [] false, none, [], []⟩,
    ⟨some 91, .move (.t 90), none, [], []⟩,
    ⟨some 92, .load (.d tWorld) (.t 9), some (91, false), [], []⟩,
    ⟨some 93, .call (.f 13) [(.t 92)] [.d .bool] [] false, some (91, false), [], []⟩,
    ⟨some 94, .pick (.t 91) (.c .bool true) (.t 93), none, [], []⟩]) (innkeeplaw06_DescRight.c42)) (innkeeplaw06_DescRight.c41)) (innkeeplaw06_DescRight.c40)
def innkeeplaw06_DescRight.c36 : Cd := .seq (.seq (.reg true [⟨some 80, .fieldAddr (.d tWorld) 2 (.t 9), none, [3], []⟩,
    ⟨some 81, .load (.d (.sl (.int .i64))) (.t 80), none, [3], []⟩,
    ⟨some 82, .move (.t 1), none, [], []⟩,
    ⟨some 83, .conv .i64 (.t 82), none, [], []⟩,
    ⟨some 84, .fieldAddr (.d tWorld) 2 (.t 9), none, [3], []⟩,
    ⟨some 85, .load (.d (.sl (.int .i64))) (.t 84), none, [3], []⟩,
    ⟨some 86, .len (.t 85), none, [8], []⟩,
    ⟨some 87, .bin .rem (.t 83) (.t 86), none, [], []⟩,
    ⟨some 88, .index (.sl (.int .i64)) (.t 81) (.t 87), none, [8], []⟩,
    ⟨none, .store (.d (.int .i64)) (.t 88) (.c (.int .i64) ((-1) : Int)), none, [], [8]⟩]) (innkeeplaw06_DescRight.c39)) (innkeeplaw06_DescRight.c38)
def innkeeplaw06_DescRight.c34 : Cd := .seq (.seq (.reg false [⟨some 78, .load (.d tWorld) (.t 2), none, [], []⟩,
    ⟨some 79, .call (.f 17) [(.t 78)] [.d tWorld] [((0, [2]), 8)] false, none, [], []⟩,
    ⟨some 9, .newbox 3 tWorld [], none, [], []⟩,
    ⟨none, .store (.d tWorld) (.t 9) (.t 79), none, [], []⟩]) (innkeeplaw06_DescRight.c37)) (innkeeplaw06_DescRight.c36)
def innkeeplaw06_DescRight.c32 : Cd := .seq (.seq (.reg true [⟨some 65, .fieldAddr (.d tWorld) 1 (.t 8), none, [2], []⟩,
    ⟨some 66, .load (.d (.sl (.int .i64))) (.t 65), none, [2], []⟩,
    ⟨some 67, .move (.t 1), none, [], []⟩,
    ⟨some 68, .conv .i64 (.t 67), none, [], []⟩,
    ⟨some 69, .fieldAddr (.d tWorld) 1 (.t 8), none, [2], []⟩,
    ⟨some 70, .load (.d (.sl (.int .i64))) (.t 69), none, [2], []⟩,
    ⟨some 71, .len (.t 70), none, [7], []⟩,
    ⟨some 72, .bin .rem (.t 68) (.t 71), none, [], []⟩,
    ⟨some 73, .fieldAddr (.d tWorld) 0 (.t 2), none, [0], []⟩,
    ⟨some 74, .fieldAddr (.d tDesc) 0 (.t 73), none, [0], []⟩,
    ⟨some 75, .load (.d (.sl (.arr 4 (.int .i64)))) (.t 74), none, [0], []⟩,
    ⟨some 76, .len (.t 75), none, [], []⟩,
    ⟨some 77, .index (.sl (.int .i64)) (.t 66) (.t 72), none, [7], []⟩,
    ⟨none, .store (.d (.int .i64)) (.t 77) (.t 76), none, [], [7]⟩]) (innkeeplaw06_DescRight.c35)) (innkeeplaw06_DescRight.c34)
def innkeeplaw06_DescRight.c16 : Cd := .seq (.seq (.reg false [⟨some 63, .load (.d tWorld) (.t 2), none, [], []⟩,
    ⟨some 64, .call (.f 17) [(.t 63)] [.d tWorld] [((0, [1]), 7)] false, none, [], []⟩,
    ⟨some 8, .newbox 2 tWorld [], none, [], []⟩,
    ⟨none, .store (.d tWorld) (.t 8) (.t 64), none, [], []⟩]) (innkeeplaw06_DescRight.c33)) (innkeeplaw06_DescRight.c32)
def innkeeplaw06_DescRight.c10 : Cd := .seq (.seq (.reg false [⟨some 7, .move (.c (.int .i64) (0 : Int)), none, [], []⟩]) (innkeeplaw06_DescRight.c17)) (innkeeplaw06_DescRight.c16)
def innkeeplaw06_DescRight.c8 : Cd := .seq (.seq (.seq (.reg false [⟨some 33, .move (.t 6), none, [], []⟩,
    ⟨some 34, .bin .neq (.t 33) (.c (.int .i64) (0 : Int)), none, [], []⟩,
    ⟨some 35, .move (.t 34), none, [], []⟩,
    ⟨some 36, .load (.d tWorld) (.t 5), some (35, false), [], []⟩,
    ⟨some 37, .call (.f 13) [(.t 36)] [.d .bool] [] false, some (35, false), [], []⟩,
    ⟨some 38, .not (.t 37), some (35, false), [], []⟩,
    ⟨some 39, .pick (.t 35) (.c .bool true) (.t 38), none, [], []⟩,
    ⟨some 40, .move (.t 39), none, [], []⟩,
    ⟨some 41, .fieldAddr (.d tWorld) 3 (.t 5), some (40, false), [], []⟩,
    ⟨some 42, .load (.d (.sl tPlace)) (.t 41), some (40, false), [], []⟩,
    ⟨some 43, .len (.t 42), some (40, false), [], []⟩,
    ⟨some 44, .fieldAddr (.d tWorld) 3 (.t 2), some (40, false), [], []⟩,
    ⟨some 45, .load (.d (.sl tPlace)) (.t 44), some (40, false), [], []⟩,
    ⟨some 46, .len (.t 45), some (40, false), [], []⟩,
    ⟨some 47, .bin .neq (.t 43) (.t 46), some (40, false), [], []⟩,
    ⟨some 48, .pick (.t 40) (.c .bool true) (.t 47), none, [], []⟩]) (innkeeplaw06_DescRight.c12)) (innkeeplaw06_DescRight.c11)) (innkeeplaw06_DescRight.c10)
def innkeeplaw06_DescRight.c1 : Cd := .seq (.seq (.reg false [⟨some 28, .fieldAddr (.d tWorld) 0 (.t 2), none, [], []⟩,
    ⟨some 29, .load (.d tDesc) (.t 28), none, [], []⟩,
    ⟨some 30, .call (.f 10) [(.t 29)] [.d tWorld, .d (.int .i64)] [] false, none, [], []⟩,
    ⟨some 27, .move (.t 30), none, [], []⟩,
    ⟨some 31, .extract (.t 27) 0, none, [], []⟩,
    ⟨some 32, .extract (.t 27) 1, none, [], []⟩,
    ⟨some 5, .newbox 1 tWorld [], none, [], []⟩,
    ⟨none, .store (.d tWorld) (.t 5) (.t 31), none, [], []⟩,
    ⟨some 6, .move (.t 32), none, [], []⟩]) (innkeeplaw06_DescRight.c9)) (innkeeplaw06_DescRight.c8)
def innkeeplaw06_DescRight.c0 : Cd := .seq (.seq (.seq (.reg false [⟨some 14, .call (.f 8) [] [.d .bool] [] false, none, [], []⟩,
    ⟨some 15, .not (.t 14), none, [], []⟩,
    ⟨some 16, .move (.t 15), none, [], []⟩,
    ⟨some 17, .load (.d tWorld) (.t 2), some (16, false), [], []⟩,
    ⟨some 18, .call (.f 9) [(.t 17)] [.d .bool] [] false, some (16, false), [], []⟩,
    ⟨some 19, .not (.t 18), some (16, false), [], []⟩,
    ⟨some 20, .pick (.t 16) (.c .bool true) (.t 19), none, [], []⟩,
    ⟨some 21, .move (.t 20), none, [], []⟩,
    ⟨some 22, .load (.d tWorld) (.t 2), some (21, false), [], []⟩,
    ⟨some 23, .call (.f 14) [(.t 22)] [.d .bool] [] false, some (21, false), [], []⟩,
    ⟨some 24, .not (.t 23), some (21, false), [], []⟩,
    ⟨some 25, .pick (.t 21) (.c .bool true) (.t 24), none, [], []⟩]) (innkeeplaw06_DescRight.c3)) (innkeeplaw06_DescRight.c2)) (innkeeplaw06_DescRight.c1)
def innkeeplaw06_DescRight.fn : Fn := ⟨2, [.tmp 4], .seq (.reg false [⟨some 2, .box 0 (.t 0), none, [], []⟩,
    ⟨some 4, .move (.c .bool false), none, [], []⟩]) (innkeeplaw06_DescRight.c0)⟩
def innkeepref06_Copied.c2 : Cd := .tidy [3, 4, 5, 6, 7] [] [] none
def innkeepref06_Copied.c4 : Cd := .tidy [8, 9, 10, 11, 12] [] [] none
def innkeepref06_Copied.c6 : Cd := .tidy [13, 14, 15, 16, 17] [] [] none
def innkeepref06_Copied.c8 : Cd := .tidy [18] [] [] none
def innkeepref06_Copied.c7 : Cd := .ret
def innkeepref06_Copied.c5 : Cd := .seq (.seq (.reg false [⟨some 18, .load (.d tWorld) (.t 1), none, [], []⟩,
    ⟨none, .store (.d tWorld) (.t 2) (.t 18), none, [], []⟩]) (innkeepref06_Copied.c8)) (innkeepref06_Copied.c7)
def innkeepref06_Copied.c3 : Cd := .seq (.seq (.reg false [⟨some 13, .slice 6 tPlace [], none, [], []⟩,
    ⟨some 14, .fieldAddr (.d tWorld) 3 (.t 1), none, [], []⟩,
    ⟨some 15, .load (.d (.sl tPlace)) (.t 14), none, [], []⟩,
    ⟨some 16, .append 7 tPlace (.t 13) (.t 15), none, [], []⟩,
    ⟨some 17, .fieldAddr (.d tWorld) 3 (.t 1), none, [], []⟩,
    ⟨none, .store (.d (.sl tPlace)) (.t 17) (.t 16), none, [], []⟩]) (innkeepref06_Copied.c6)) (innkeepref06_Copied.c5)
def innkeepref06_Copied.c1 : Cd := .seq (.seq (.reg false [⟨some 8, .slice 4 (.int .i64) [], none, [], []⟩,
    ⟨some 9, .fieldAddr (.d tWorld) 2 (.t 1), none, [], []⟩,
    ⟨some 10, .load (.d (.sl (.int .i64))) (.t 9), none, [], []⟩,
    ⟨some 11, .append 5 (.int .i64) (.t 8) (.t 10), none, [], []⟩,
    ⟨some 12, .fieldAddr (.d tWorld) 2 (.t 1), none, [], []⟩,
    ⟨none, .store (.d (.sl (.int .i64))) (.t 12) (.t 11), none, [], []⟩]) (innkeepref06_Copied.c4)) (innkeepref06_Copied.c3)
def innkeepref06_Copied.c0 : Cd := .seq (.seq (.reg false [⟨some 3, .slice 2 (.int .i64) [], none, [], []⟩,
    ⟨some 4, .fieldAddr (.d tWorld) 1 (.t 1), none, [], []⟩,
    ⟨some 5, .load (.d (.sl (.int .i64))) (.t 4), none, [], []⟩,
    ⟨some 6, .append 3 (.int .i64) (.t 3) (.t 5), none, [], []⟩,
    ⟨some 7, .fieldAddr (.d tWorld) 1 (.t 1), none, [], []⟩,
    ⟨none, .store (.d (.sl (.int .i64))) (.t 7) (.t 6), none, [], []⟩]) (innkeepref06_Copied.c2)) (innkeepref06_Copied.c1)
def innkeepref06_Copied.fn : Fn := ⟨1, [.cell 2 (.d tWorld)], .seq (.reg false [⟨some 1, .box 0 (.t 0), none, [], []⟩,
    ⟨some 2, .newbox 1 tWorld [], none, [], []⟩]) (innkeepref06_Copied.c0)⟩
def innkeeplaw06_DescKeeps.c3 : Cd := .tidy [9, 10, 11, 12, 13, 14, 15, 16, 17, 18, 19] [] [] none
def innkeeplaw06_DescKeeps.c6 : Cd := .tidy [21] [] [] none
def innkeeplaw06_DescKeeps.c5 : Cd := .ret
def innkeeplaw06_DescKeeps.c4 : Cd := .seq (.seq (.reg false [⟨some 21, .call (.f 8) [] [.d .bool] [] false, none, [], []⟩,
    ⟨some 2, .move (.t 21), none, [], []⟩]) (innkeeplaw06_DescKeeps.c6)) (innkeeplaw06_DescKeeps.c5)
def innkeeplaw06_DescKeeps.c7 : Cd := .skip
def innkeeplaw06_DescKeeps.c2 : Cd := .cond (.t 20) (.seq (.tidy [20] [] [] none) (innkeeplaw06_DescKeeps.c4)) (.seq (.tidy [20] [] [] none) (innkeeplaw06_DescKeeps.c7))
def innkeeplaw06_DescKeeps.c9 : Cd := .tidy [22, 23] [] [] none
def innkeeplaw06_DescKeeps.c11 : Cd := .tidy [24, 25] [] [] none
def innkeeplaw06_DescKeeps.c13 : Cd := .tidy [26, 27, 28, 29, 30, 31] [] [] none
def innkeeplaw06_DescKeeps.c15 : Cd := .tidy [32, 33] [] [] none
def innkeeplaw06_DescKeeps.c18 : Cd := .tidy [34] [] [] none
def innkeeplaw06_DescKeeps.c20 : Cd := .ret
def innkeeplaw06_DescKeeps.c19 : Cd := .seq (.reg false [⟨some 2, .move (.c .bool false), none, [], []⟩]) (innkeeplaw06_DescKeeps.c20)
def innkeeplaw06_DescKeeps.c21 : Cd := .skip
def innkeeplaw06_DescKeeps.c17 : Cd := .cond (.t 35) (.seq (.tidy [35] [] [] none) (innkeeplaw06_DescKeeps.c19)) (.seq (.tidy [35] [] [] none) (innkeeplaw06_DescKeeps.c21))
def innkeeplaw06_DescKeeps.c28 : Cd := .tidy [36, 37, 38, 39, 40, 41, 42, 43, 44, 45, 46] [] [] none
def innkeeplaw06_DescKeeps.c29 : Cd := .skip
def innkeeplaw06_DescKeeps.c35 : Cd := .exit 0
def innkeeplaw06_DescKeeps.c27 : Cd := .cond (.t 47) (.seq (.tidy [47] [] [] none) (innkeeplaw06_DescKeeps.c29)) (.seq (.tidy [47] [] [] none) (innkeeplaw06_DescKeeps.c35))
def innkeeplaw06_DescKeeps.c32 : Cd := .tidy [50, 51, 52, 53, 54] [] [] none
def innkeeplaw06_DescKeeps.c33 : Cd := .tidy [55, 56, 57, 58, 59] [] [] none
def innkeeplaw06_DescKeeps.c31 : Cd := .seq (.reg false [⟨some 55, .fieldAddr (.d tWorld) 3 (.t 5), none, [], []⟩,
    ⟨some 56, .load (.d (.sl tPlace)) (.t 55), none, [], []⟩,
    ⟨some 57, .move (.t 7), none, [], []⟩,
    ⟨some 58, .index (.sl tPlace) (.t 56) (.t 57), none, [], []⟩,
    ⟨some 59, .fieldAddr (.d tPlace) 1 (.t 58), none, [], []⟩,
    ⟨none, .store (.d (.int .i64)) (.t 59) (.c (.int .i64) (77 : Int)), none, [], []⟩]) (innkeeplaw06_DescKeeps.c33)
def innkeeplaw06_DescKeeps.c34 : Cd := .tidy [48, 49] [] [] none
def innkeeplaw06_DescKeeps.c30 : Cd := .seq (.reg false [⟨some 48, .move (.t 7), none, [], []⟩,
    ⟨some 49, .bin .add (.t 48) (.c (.int .i64) (1 : Int)), none, [], []⟩,
    ⟨some 7, .move (.t 49), none, [], []⟩]) (innkeeplaw06_DescKeeps.c34)
def innkeeplaw06_DescKeeps.c26 : Cd := .seq (.block 1 (.seq (.seq (.reg false [⟨some 50, .fieldAddr (.d tWorld) 3 (.t 4), none, [], []⟩,
    ⟨some 51, .load (.d (.sl tPlace)) (.t 50), none, [], []⟩,
    ⟨some 52, .move (.t 7), none, [], []⟩,
    ⟨some 53, .index (.sl tPlace) (.t 51) (.t 52), none, [], []⟩,
    ⟨some 54, .fieldAddr (.d tPlace) 1 (.t 53), none, [], []⟩,
    ⟨none, .store (.d (.int .i64)) (.t 54) (.c (.int .i64) (77 : Int)), none, [], []⟩]) (innkeeplaw06_DescKeeps.c32)) (innkeeplaw06_DescKeeps.c31))) (innkeeplaw06_DescKeeps.c30)
def innkeeplaw06_DescKeeps.c25 : Cd := .tidy [] [] [] (some 10)
def innkeeplaw06_DescKeeps.c24 : Cd := .seq (.seq (.seq (.seq (.reg false [⟨some 36, .move (.t 7), none, [], []⟩,
    ⟨some 37, .fieldAddr (.d tWorld) 3 (.t 4), none, [], []⟩,
    ⟨some 38, .load (.d (.sl tPlace)) (.t 37), none, [], []⟩,
    ⟨some 39, .len (.t 38), none, [], []⟩,
    ⟨some 40, .bin .lss (.t 36) (.t 39), none, [], []⟩,
    ⟨some 41, .move (.t 40), none, [], []⟩,
    ⟨some 42, .move (.t 7), some (41, true), [], []⟩,
    ⟨some 43, .fieldAddr (.d tWorld) 3 (.t 5), some (41, true), [], []⟩,
    ⟨some 44, .load (.d (.sl tPlace)) (.t 43), some (41, true), [], []⟩,
    ⟨some 45, .len (.t 44), some (41, true), [], []⟩,
    ⟨some 46, .bin .lss (.t 42) (.t 45), some (41, true), [], []⟩,
    ⟨some 47, .pick (.t 41) (.t 46) (.c .bool false), none, [], []⟩]) (innkeeplaw06_DescKeeps.c28)) (innkeeplaw06_DescKeeps.c27)) (innkeeplaw06_DescKeeps.c26)) (innkeeplaw06_DescKeeps.c25)
def innkeeplaw06_DescKeeps.c23 : Cd := .block 0 (.loop (innkeeplaw06_DescKeeps.c24))
def innkeeplaw06_DescKeeps.c42 : Cd := .tidy [60, 61, 62, 63, 64, 65, 66, 67, 68, 69, 70] [] [] none
def innkeeplaw06_DescKeeps.c43 : Cd := .skip
def innkeeplaw06_DescKeeps.c53 : Cd := .exit 2
def innkeeplaw06_DescKeeps.c41 : Cd := .cond (.t 71) (.seq (.tidy [71] [] [] none) (innkeeplaw06_DescKeeps.c43)) (.seq (.tidy [71] [] [] none) (innkeeplaw06_DescKeeps.c53))
def innkeeplaw06_DescKeeps.c46 : Cd := .tidy [74, 75, 76, 77] [] [] none
def innkeeplaw06_DescKeeps.c48 : Cd := .tidy [78, 79, 80, 81] [] [] none
def innkeeplaw06_DescKeeps.c50 : Cd := .tidy [82, 83, 84, 85] [] [] none
def innkeeplaw06_DescKeeps.c51 : Cd := .tidy [86, 87, 88, 89] [] [] none
def innkeeplaw06_DescKeeps.c49 : Cd := .seq (.reg false [⟨some 86, .fieldAddr (.d tWorld) 2 (.t 5), none, [], []⟩,
    ⟨some 87, .load (.d (.sl (.int .i64))) (.t 86), none, [], []⟩,
    ⟨some 88, .move (.t 8), none, [], []⟩,
    ⟨some 89, .index (.sl (.int .i64)) (.t 87) (.t 88), none, [], []⟩,
    ⟨none, .store (.d (.int .i64)) (.t 89) (.c (.int .i64) (77 : Int)), none, [], []⟩]) (innkeeplaw06_DescKeeps.c51)
def innkeeplaw06_DescKeeps.c47 : Cd := .seq (.seq (.reg false [⟨some 82, .fieldAddr (.d tWorld) 1 (.t 5), none, [], []⟩,
    ⟨some 83, .load (.d (.sl (.int .i64))) (.t 82), none, [], []⟩,
    ⟨some 84, .move (.t 8), none, [], []⟩,
    ⟨some 85, .index (.sl (.int .i64)) (.t 83) (.t 84), none, [], []⟩,
    ⟨none, .store (.d (.int .i64)) (.t 85) (.c (.int .i64) (77 : Int)), none, [], []⟩]) (innkeeplaw06_DescKeeps.c50)) (innkeeplaw06_DescKeeps.c49)
def innkeeplaw06_DescKeeps.c45 : Cd := .seq (.seq (.reg false [⟨some 78, .fieldAddr (.d tWorld) 2 (.t 4), none, [], []⟩,
    ⟨some 79, .load (.d (.sl (.int .i64))) (.t 78), none, [], []⟩,
    ⟨some 80, .move (.t 8), none, [], []⟩,
    ⟨some 81, .index (.sl (.int .i64)) (.t 79) (.t 80), none, [], []⟩,
    ⟨none, .store (.d (.int .i64)) (.t 81) (.c (.int .i64) (77 : Int)), none, [], []⟩]) (innkeeplaw06_DescKeeps.c48)) (innkeeplaw06_DescKeeps.c47)
def innkeeplaw06_DescKeeps.c52 : Cd := .tidy [72, 73] [] [] none
def innkeeplaw06_DescKeeps.c44 : Cd := .seq (.reg false [⟨some 72, .move (.t 8), none, [], []⟩,
    ⟨some 73, .bin .add (.t 72) (.c (.int .i64) (1 : Int)), none, [], []⟩,
    ⟨some 8, .move (.t 73), none, [], []⟩]) (innkeeplaw06_DescKeeps.c52)
def innkeeplaw06_DescKeeps.c40 : Cd := .seq (.block 3 (.seq (.seq (.reg false [⟨some 74, .fieldAddr (.d tWorld) 1 (.t 4), none, [], []⟩,
    ⟨some 75, .load (.d (.sl (.int .i64))) (.t 74), none, [], []⟩,
    ⟨some 76, .move (.t 8), none, [], []⟩,
    ⟨some 77, .index (.sl (.int .i64)) (.t 75) (.t 76), none, [], []⟩,
    ⟨none, .store (.d (.int .i64)) (.t 77) (.c (.int .i64) (77 : Int)), none, [], []⟩]) (innkeeplaw06_DescKeeps.c46)) (innkeeplaw06_DescKeeps.c45))) (innkeeplaw06_DescKeeps.c44)
def innkeeplaw06_DescKeeps.c39 : Cd := .tidy [] [] [] (some 10)
def innkeeplaw06_DescKeeps.c38 : Cd := .seq (.seq (.seq (.seq (.reg false [⟨some 60, .move (.t 8), none, [], []⟩,
    ⟨some 61, .fieldAddr (.d tWorld) 1 (.t 4), none, [], []⟩,
    ⟨some 62, .load (.d (.sl (.int .i64))) (.t 61), none, [], []⟩,
    ⟨some 63, .len (.t 62), none, [], []⟩,
    ⟨some 64, .bin .lss (.t 60) (.t 63), none, [], []⟩,
    ⟨some 65, .move (.t 64), none, [], []⟩,
    ⟨some 66, .move (.t 8), some (65, true), [], []⟩,
    ⟨some 67, .fieldAddr (.d tWorld) 1 (.t 5), some (65, true), [], []⟩,
    ⟨some 68, .load (.d (.sl (.int .i64))) (.t 67), some (65, true), [], []⟩,
    ⟨some 69, .len (.t 68), some (65, true), [], []⟩,
    ⟨some 70, .bin .lss (.t 66) (.t 69), some (65, true), [], []⟩,
    ⟨some 71, .pick (.t 65) (.t 70) (.c .bool false), none, [], []⟩]) (innkeeplaw06_DescKeeps.c42)) (innkeeplaw06_DescKeeps.c41)) (innkeeplaw06_DescKeeps.c40)) (innkeeplaw06_DescKeeps.c39)
def innkeeplaw06_DescKeeps.c37 : Cd := .block 2 (.loop (innkeeplaw06_DescKeeps.c38))
def innkeeplaw06_DescKeeps.c55 : Cd := .tidy [90, 91, 92, 93, 94, 95, 96, 97] [] [] none
def innkeeplaw06_DescKeeps.c54 : Cd := .ret
def innkeeplaw06_DescKeeps.c36 : Cd := .seq (.seq (.reg false [⟨some 90, .load (.d tWorld) (.t 3), none, [], []⟩,
    ⟨some 91, .load (.d tWorld) (.t 1), none, [], []⟩,
    ⟨some 92, .call (.f 16) [(.t 90), (.t 91)] [.d .bool] [] false, none, [], []⟩,
    ⟨some 93, .move (.t 92), none, [], []⟩,
    ⟨some 94, .fieldAddr (.d tWorld) 0 (.t 3), some (93, true), [], []⟩,
    ⟨some 95, .load (.d tDesc) (.t 94), some (93, true), [], []⟩,
    ⟨some 96, .call (.f 12) [(.t 95)] [.d .bool] [] false, some (93, true), [], []⟩,
    ⟨some 97, .pick (.t 93) (.t 96) (.c .bool false), none, [], []⟩,
    ⟨some 2, .move (.t 97), none, [], []⟩]) (innkeeplaw06_DescKeeps.c55)) (innkeeplaw06_DescKeeps.c54)
def innkeeplaw06_DescKeeps.c22 : Cd := .seq (.seq (.reg false [⟨some 8, .move (.c (.int .i64) (0 : Int)), none, [], []⟩]) (innkeeplaw06_DescKeeps.c37)) (innkeeplaw06_DescKeeps.c36)
def innkeeplaw06_DescKeeps.c16 : Cd := .seq (.seq (.reg false [⟨some 7, .move (.c (.int .i64) (0 : Int)), none, [], []⟩]) (innkeeplaw06_DescKeeps.c23)) (innkeeplaw06_DescKeeps.c22)
def innkeeplaw06_DescKeeps.c14 : Cd := .seq (.seq (.seq (.reg false [⟨some 34, .move (.t 6), none, [], []⟩,
    ⟨some 35, .bin .neq (.t 34) (.c (.int .i64) (0 : Int)), none, [], []⟩]) (innkeeplaw06_DescKeeps.c18)) (innkeeplaw06_DescKeeps.c17)) (innkeeplaw06_DescKeeps.c16)
def innkeeplaw06_DescKeeps.c12 : Cd := .seq (.seq (.reg false [⟨some 32, .load (.d tWorld) (.t 3), none, [], []⟩,
    ⟨some 33, .call (.f 13) [(.t 32)] [.d .bool] [] false, none, [], []⟩]) (innkeeplaw06_DescKeeps.c15)) (innkeeplaw06_DescKeeps.c14)
def innkeeplaw06_DescKeeps.c10 : Cd := .seq (.seq (.reg false [⟨some 27, .fieldAddr (.d tWorld) 0 (.t 3), none, [], []⟩,
    ⟨some 28, .load (.d tDesc) (.t 27), none, [], []⟩,
    ⟨some 29, .call (.f 10) [(.t 28)] [.d tWorld, .d (.int .i64)] [((0, [3]), 5), ((0, [1]), 8), ((0, [2]), 9)] false, none, [], []⟩,
    ⟨some 26, .move (.t 29), none, [], []⟩,
    ⟨some 30, .extract (.t 26) 0, none, [], []⟩,
    ⟨some 31, .extract (.t 26) 1, none, [], []⟩,
    ⟨some 5, .newbox 3 tWorld [], none, [], []⟩,
    ⟨none, .store (.d tWorld) (.t 5) (.t 30), none, [], []⟩,
    ⟨some 6, .move (.t 31), none, [], []⟩]) (innkeeplaw06_DescKeeps.c13)) (innkeeplaw06_DescKeeps.c12)
def innkeeplaw06_DescKeeps.c8 : Cd := .seq (.seq (.reg false [⟨some 24, .load (.d tWorld) (.t 3), none, [], []⟩,
    ⟨some 25, .call (.f 17) [(.t 24)] [.d tWorld] [((0, [3]), 4), ((0, [1]), 6), ((0, [2]), 7)] false, none, [], []⟩,
    ⟨some 4, .newbox 2 tWorld [], none, [], []⟩,
    ⟨none, .store (.d tWorld) (.t 4) (.t 25), none, [], []⟩]) (innkeeplaw06_DescKeeps.c11)) (innkeeplaw06_DescKeeps.c10)
def innkeeplaw06_DescKeeps.c1 : Cd := .seq (.seq (.reg false [⟨some 22, .load (.d tWorld) (.t 1), none, [], []⟩,
    ⟨some 23, .call (.f 20) [(.t 22)] [.d tWorld] [] false, none, [], []⟩,
    ⟨some 3, .newbox 1 tWorld [], none, [], []⟩,
    ⟨none, .store (.d tWorld) (.t 3) (.t 23), none, [], []⟩]) (innkeeplaw06_DescKeeps.c9)) (innkeeplaw06_DescKeeps.c8)
def innkeeplaw06_DescKeeps.c0 : Cd := .seq (.seq (.seq (.reg false [⟨some 9, .call (.f 8) [] [.d .bool] [] false, none, [], []⟩,
    ⟨some 10, .not (.t 9), none, [], []⟩,
    ⟨some 11, .move (.t 10), none, [], []⟩,
    ⟨some 12, .load (.d tWorld) (.t 1), some (11, false), [], []⟩,
    ⟨some 13, .call (.f 9) [(.t 12)] [.d .bool] [] false, some (11, false), [], []⟩,
    ⟨some 14, .not (.t 13), some (11, false), [], []⟩,
    ⟨some 15, .pick (.t 11) (.c .bool true) (.t 14), none, [], []⟩,
    ⟨some 16, .move (.t 15), none, [], []⟩,
    ⟨some 17, .load (.d tWorld) (.t 1), some (16, false), [], []⟩,
    ⟨some 18, .call (.f 14) [(.t 17)] [.d .bool] [] false, some (16, false), [], []⟩,
    ⟨some 19, .not (.t 18), some (16, false), [], []⟩,
    ⟨some 20, .pick (.t 16) (.c .bool true) (.t 19), none, [], []⟩]) (innkeeplaw06_DescKeeps.c3)) (innkeeplaw06_DescKeeps.c2)) (innkeeplaw06_DescKeeps.c1)
def innkeeplaw06_DescKeeps.fn : Fn := ⟨1, [.tmp 2], .seq (.reg false [⟨some 1, .box 0 (.t 0), none, [], []⟩,
    ⟨some 2, .move (.c .bool false), none, [], []⟩]) (innkeeplaw06_DescKeeps.c0)⟩
def innkeeplaw06_DescCaps.c3 : Cd := .tidy [11, 12, 13, 14, 15, 16, 17, 18, 19, 20, 21] [] [] none
def innkeeplaw06_DescCaps.c6 : Cd := .tidy [23] [] [] none
def innkeeplaw06_DescCaps.c5 : Cd := .ret
def innkeeplaw06_DescCaps.c4 : Cd := .seq (.seq (.reg false [⟨some 23, .call (.f 8) [] [.d .bool] [] false, none, [], []⟩,
    ⟨some 8, .move (.t 23), none, [], []⟩]) (innkeeplaw06_DescCaps.c6)) (innkeeplaw06_DescCaps.c5)
def innkeeplaw06_DescCaps.c7 : Cd := .skip
def innkeeplaw06_DescCaps.c2 : Cd := .cond (.t 22) (.seq (.tidy [22] [] [] none) (innkeeplaw06_DescCaps.c4)) (.seq (.tidy [22] [] [] none) (innkeeplaw06_DescCaps.c7))
def innkeeplaw06_DescCaps.c9 : Cd := .tidy [24, 25] [] [] none
def innkeeplaw06_DescCaps.c11 : Cd := .tidy [26, 27, 28, 29, 30, 31, 32, 33, 34, 35] [] [] none
def innkeeplaw06_DescCaps.c13 : Cd := .tidy [36, 37, 38, 39, 40, 41, 42, 43, 44, 45] [] [] none
def innkeeplaw06_DescCaps.c15 : Cd := .tidy [46, 47, 48, 49, 50, 51, 52, 53, 54, 55] [] [] none
def innkeeplaw06_DescCaps.c17 : Cd := .tidy [56, 57] [] [] none
def innkeeplaw06_DescCaps.c19 : Cd := .tidy [58, 59] [] [] none
def innkeeplaw06_DescCaps.c21 : Cd := .tidy [60, 61] [] [] none
def innkeeplaw06_DescCaps.c23 : Cd := .tidy [62] [] [] none
def innkeeplaw06_DescCaps.c25 : Cd := .tidy [63, 64, 65, 66, 67] [] [] none
def innkeeplaw06_DescCaps.c27 : Cd := .tidy [68, 69, 70, 71, 72] [] [] none
def innkeeplaw06_DescCaps.c29 : Cd := .tidy [73, 74, 75, 76, 77] [] [] none
def innkeeplaw06_DescCaps.c31 : Cd := .tidy [78, 79, 80, 81, 82, 83] [] [] none
def innkeeplaw06_DescCaps.c30 : Cd := .ret
def innkeeplaw06_DescCaps.c28 : Cd := .seq (.seq (.reg false [⟨some 78, .load (.d tWorld) (.t 9), none, [], []⟩,
    ⟨some 79, .call (.f 13) [(.t 78)] [.d .bool] [] false, none, [], []⟩,
    ⟨some 80, .move (.t 79), none, [], []⟩,
    ⟨some 81, .load (.d tWorld) (.t 10), some (80, true), [], []⟩,
    ⟨some 82, .call (.f 13) [(.t 81)] [.d .bool] [] false, some (80, true), [], []⟩,
    ⟨some 83, .pick (.t 80) (.t 82) (.c .bool false), none, [], []⟩,
    ⟨some 8, .move (.t 83), none, [], []⟩]) (innkeeplaw06_DescCaps.c31)) (innkeeplaw06_DescCaps.c30)
def innkeeplaw06_DescCaps.c26 : Cd := .seq (.seq (.reg false [⟨some 73, .move (.t 3), none, [], []⟩,
    ⟨some 74, .bin .rem (.t 73) (.c (.int .u8) (65 : Int)), none, [], []⟩,
    ⟨some 75, .conv .i64 (.t 74), none, [], []⟩,
    ⟨some 76, .fieldAddr (.d tWorld) 0 (.t 10), none, [], []⟩,
    ⟨some 77, .fieldAddr (.d tDesc) 7 (.t 76), none, [], []⟩,
    ⟨none, .store (.d (.int .i64)) (.t 77) (.t 75), none, [], []⟩]) (innkeeplaw06_DescCaps.c29)) (innkeeplaw06_DescCaps.c28)
def innkeeplaw06_DescCaps.c24 : Cd := .seq (.seq (.reg false [⟨some 68, .move (.t 2), none, [], []⟩,
    ⟨some 69, .bin .rem (.t 68) (.c (.int .u8) (65 : Int)), none, [], []⟩,
    ⟨some 70, .conv .i64 (.t 69), none, [], []⟩,
    ⟨some 71, .fieldAddr (.d tWorld) 0 (.t 10), none, [], []⟩,
    ⟨some 72, .fieldAddr (.d tDesc) 6 (.t 71), none, [], []⟩,
    ⟨none, .store (.d (.int .i64)) (.t 72) (.t 70), none, [], []⟩]) (innkeeplaw06_DescCaps.c27)) (innkeeplaw06_DescCaps.c26)
def innkeeplaw06_DescCaps.c22 : Cd := .seq (.seq (.reg false [⟨some 63, .move (.t 1), none, [], []⟩,
    ⟨some 64, .bin .rem (.t 63) (.c (.int .u8) (65 : Int)), none, [], []⟩,
    ⟨some 65, .conv .i64 (.t 64), none, [], []⟩,
    ⟨some 66, .fieldAddr (.d tWorld) 0 (.t 10), none, [], []⟩,
    ⟨some 67, .fieldAddr (.d tDesc) 5 (.t 66), none, [], []⟩,
    ⟨none, .store (.d (.int .i64)) (.t 67) (.t 65), none, [], []⟩]) (innkeeplaw06_DescCaps.c25)) (innkeeplaw06_DescCaps.c24)
def innkeeplaw06_DescCaps.c20 : Cd := .seq (.seq (.reg false [⟨some 62, .fieldAddr (.d tWorld) 3 (.t 10), none, [], []⟩,
    ⟨none, .store (.d (.sl tPlace)) (.t 62) (.c (.sl tPlace) ([] : List (den tPlace))), none, [], []⟩]) (innkeeplaw06_DescCaps.c23)) (innkeeplaw06_DescCaps.c22)
def innkeeplaw06_DescCaps.c18 : Cd := .seq (.seq (.reg false [⟨some 60, .fieldAddr (.d tWorld) 0 (.t 10), none, [], []⟩,
    ⟨some 61, .fieldAddr (.d tDesc) 4 (.t 60), none, [], []⟩,
    ⟨none, .store (.d (.sl .bool)) (.t 61) (.c (.sl .bool) ([] : List Bool)), none, [], []⟩]) (innkeeplaw06_DescCaps.c21)) (innkeeplaw06_DescCaps.c20)
def innkeeplaw06_DescCaps.c16 : Cd := .seq (.seq (.reg false [⟨some 58, .fieldAddr (.d tWorld) 0 (.t 10), none, [], []⟩,
    ⟨some 59, .fieldAddr (.d tDesc) 3 (.t 58), none, [], []⟩,
    ⟨none, .store (.d (.sl (.int .i64))) (.t 59) (.c (.sl (.int .i64)) ([] : List Int)), none, [], []⟩]) (innkeeplaw06_DescCaps.c19)) (innkeeplaw06_DescCaps.c18)
def innkeeplaw06_DescCaps.c14 : Cd := .seq (.seq (.reg false [⟨some 56, .load (.d tWorld) (.t 4), none, [], []⟩,
    ⟨some 57, .call (.f 17) [(.t 56)] [.d tWorld] [] false, none, [], []⟩,
    ⟨some 10, .newbox 2 tWorld [], none, [], []⟩,
    ⟨none, .store (.d tWorld) (.t 10) (.t 57), none, [], []⟩]) (innkeeplaw06_DescCaps.c17)) (innkeeplaw06_DescCaps.c16)
def innkeeplaw06_DescCaps.c12 : Cd := .seq (.seq (.reg false [⟨some 46, .fieldAddr (.d tWorld) 0 (.t 4), none, [], []⟩,
    ⟨some 47, .fieldAddr (.d tDesc) 7 (.t 46), none, [], []⟩,
    ⟨some 48, .load (.d (.int .i64)) (.t 47), none, [], []⟩,
    ⟨some 49, .move (.t 3), none, [], []⟩,
    ⟨some 50, .bin .rem (.t 49) (.c (.int .u8) (64 : Int)), none, [], []⟩,
    ⟨some 51, .conv .i64 (.t 50), none, [], []⟩,
    ⟨some 52, .bin .add (.t 48) (.t 51), none, [], []⟩,
    ⟨some 53, .min [(.c (.int .i64) (64 : Int)), (.t 52)], none, [], []⟩,
    ⟨some 54, .fieldAddr (.d tWorld) 0 (.t 9), none, [], []⟩,
    ⟨some 55, .fieldAddr (.d tDesc) 7 (.t 54), none, [], []⟩,
    ⟨none, .store (.d (.int .i64)) (.t 55) (.t 53), none, [], []⟩]) (innkeeplaw06_DescCaps.c15)) (innkeeplaw06_DescCaps.c14)
def innkeeplaw06_DescCaps.c10 : Cd := .seq (.seq (.reg false [⟨some 36, .fieldAddr (.d tWorld) 0 (.t 4), none, [], []⟩,
    ⟨some 37, .fieldAddr (.d tDesc) 6 (.t 36), none, [], []⟩,
    ⟨some 38, .load (.d (.int .i64)) (.t 37), none, [], []⟩,
    ⟨some 39, .move (.t 2), none, [], []⟩,
    ⟨some 40, .bin .rem (.t 39) (.c (.int .u8) (64 : Int)), none, [], []⟩,
    ⟨some 41, .conv .i64 (.t 40), none, [], []⟩,
    ⟨some 42, .bin .add (.t 38) (.t 41), none, [], []⟩,
    ⟨some 43, .min [(.c (.int .i64) (64 : Int)), (.t 42)], none, [], []⟩,
    ⟨some 44, .fieldAddr (.d tWorld) 0 (.t 9), none, [], []⟩,
    ⟨some 45, .fieldAddr (.d tDesc) 6 (.t 44), none, [], []⟩,
    ⟨none, .store (.d (.int .i64)) (.t 45) (.t 43), none, [], []⟩]) (innkeeplaw06_DescCaps.c13)) (innkeeplaw06_DescCaps.c12)
def innkeeplaw06_DescCaps.c8 : Cd := .seq (.seq (.reg false [⟨some 26, .fieldAddr (.d tWorld) 0 (.t 4), none, [], []⟩,
    ⟨some 27, .fieldAddr (.d tDesc) 5 (.t 26), none, [], []⟩,
    ⟨some 28, .load (.d (.int .i64)) (.t 27), none, [], []⟩,
    ⟨some 29, .move (.t 1), none, [], []⟩,
    ⟨some 30, .bin .rem (.t 29) (.c (.int .u8) (64 : Int)), none, [], []⟩,
    ⟨some 31, .conv .i64 (.t 30), none, [], []⟩,
    ⟨some 32, .bin .add (.t 28) (.t 31), none, [], []⟩,
    ⟨some 33, .min [(.c (.int .i64) (64 : Int)), (.t 32)], none, [], []⟩,
    ⟨some 34, .fieldAddr (.d tWorld) 0 (.t 9), none, [], []⟩,
    ⟨some 35, .fieldAddr (.d tDesc) 5 (.t 34), none, [], []⟩,
    ⟨none, .store (.d (.int .i64)) (.t 35) (.t 33), none, [], []⟩]) (innkeeplaw06_DescCaps.c11)) (innkeeplaw06_DescCaps.c10)
def innkeeplaw06_DescCaps.c1 : Cd := .seq (.seq (.reg false [⟨some 24, .load (.d tWorld) (.t 4), none, [], []⟩,
    ⟨some 25, .call (.f 17) [(.t 24)] [.d tWorld] [] false, none, [], []⟩,
    ⟨some 9, .newbox 1 tWorld [], none, [], []⟩,
    ⟨none, .store (.d tWorld) (.t 9) (.t 25), none, [], []⟩]) (innkeeplaw06_DescCaps.c9)) (innkeeplaw06_DescCaps.c8)
def innkeeplaw06_DescCaps.c0 : Cd := .seq (.seq (.seq (.reg false [⟨some 11, .call (.f 8) [] [.d .bool] [] false, none, [], []⟩,
    ⟨some 12, .not (.t 11), none, [], []⟩,
    ⟨some 13, .move (.t 12), none, [], []⟩,
    ⟨some 14, .load (.d tWorld) (.t 4), some (13, false), [], []⟩,
    ⟨some 15, .call (.f 9) [(.t 14)] [.d .bool] [] false, some (13, false), [], []⟩,
    ⟨some 16, .not (.t 15), some (13, false), [], []⟩,
    ⟨some 17, .pick (.t 13) (.c .bool true) (.t 16), none, [], []⟩,
    ⟨some 18, .move (.t 17), none, [], []⟩,
    ⟨some 19, .load (.d tWorld) (.t 4), some (18, false), [], []⟩,
    ⟨some 20, .call (.f 14) [(.t 19)] [.d .bool] [] false, some (18, false), [], []⟩,
    ⟨some 21, .not (.t 20), some (18, false), [], []⟩,
    ⟨some 22, .pick (.t 18) (.c .bool true) (.t 21), none, [], []⟩]) (innkeeplaw06_DescCaps.c3)) (innkeeplaw06_DescCaps.c2)) (innkeeplaw06_DescCaps.c1)
def innkeeplaw06_DescCaps.fn : Fn := ⟨4, [.tmp 8], .seq (.reg false [⟨some 4, .box 0 (.t 0), none, [], []⟩,
    ⟨some 8, .move (.c .bool false), none, [], []⟩]) (innkeeplaw06_DescCaps.c0)⟩
def innkeeplaw06_DescSame.c3 : Cd := .tidy [9, 10, 11, 12, 13, 14, 15, 16, 17, 18, 19] [] [] none
def innkeeplaw06_DescSame.c6 : Cd := .tidy [21] [] [] none
def innkeeplaw06_DescSame.c5 : Cd := .ret
def innkeeplaw06_DescSame.c4 : Cd := .seq (.seq (.reg false [⟨some 21, .call (.f 8) [] [.d .bool] [] false, none, [], []⟩,
    ⟨some 4, .move (.t 21), none, [], []⟩]) (innkeeplaw06_DescSame.c6)) (innkeeplaw06_DescSame.c5)
def innkeeplaw06_DescSame.c7 : Cd := .skip
def innkeeplaw06_DescSame.c2 : Cd := .cond (.t 20) (.seq (.tidy [20] [] [] none) (innkeeplaw06_DescSame.c4)) (.seq (.tidy [20] [] [] none) (innkeeplaw06_DescSame.c7))
def innkeeplaw06_DescSame.c9 : Cd := .tidy [22, 23] [] [] none
def innkeeplaw06_DescSame.c11 : Cd := .tidy [24, 25, 26, 27, 28, 29] [] [] none
def innkeeplaw06_DescSame.c13 : Cd := .tidy [30, 31, 32, 33, 34, 35, 36] [] [] none
def innkeeplaw06_DescSame.c15 : Cd := .tidy [37, 38] [] [] none
def innkeeplaw06_DescSame.c17 : Cd := .tidy [39, 40, 41, 42, 43, 44, 45] [] [] none
def innkeeplaw06_DescSame.c19 : Cd := .tidy [46, 47] [] [] none
def innkeeplaw06_DescSame.c22 : Cd := .tidy [48, 49, 50] [] [] none
def innkeeplaw06_DescSame.c24 : Cd := .tidy [52, 53, 54, 55, 56, 57, 58, 59, 60, 61, 62, 63, 64, 65] [] [] none
def innkeeplaw06_DescSame.c23 : Cd := .seq (.reg true [⟨some 52, .fieldAddr (.d tWorld) 3 (.t 8), none, [3], []⟩,
    ⟨some 53, .load (.d (.sl tPlace)) (.t 52), none, [3], []⟩,
    ⟨some 54, .move (.t 1), none, [], []⟩,
    ⟨some 55, .conv .i64 (.t 54), none, [], []⟩,
    ⟨some 56, .fieldAddr (.d tWorld) 3 (.t 8), none, [3], []⟩,
    ⟨some 57, .load (.d (.sl tPlace)) (.t 56), none, [3], []⟩,
    ⟨some 58, .len (.t 57), none, [6], []⟩,
    ⟨some 59, .bin .rem (.t 55) (.t 58), none, [], []⟩,
    ⟨some 60, .index (.sl tPlace) (.t 53) (.t 59), none, [6], []⟩,
    ⟨some 61, .fieldAddr (.d tPlace) 1 (.t 60), none, [6], []⟩,
    ⟨some 62, .load (.d (.int .i64)) (.t 61), none, [6], []⟩,
    ⟨some 63, .bin .add (.t 62) (.c (.int .i64) (1 : Int)), none, [], []⟩,
    ⟨some 64, .index (.sl tPlace) (.t 53) (.t 59), none, [6], []⟩,
    ⟨some 65, .fieldAddr (.d tPlace) 1 (.t 64), none, [6], []⟩,
    ⟨none, .store (.d (.int .i64)) (.t 65) (.t 63), none, [], [6]⟩]) (innkeeplaw06_DescSame.c24)
def innkeeplaw06_DescSame.c27 : Cd := .skip
def innkeeplaw06_DescSame.c21 : Cd := .cond (.t 51) (.seq (.tidy [51] [] [] none) (innkeeplaw06_DescSame.c23)) (.seq (.tidy [51] [] [] none) (innkeeplaw06_DescSame.c27))
def innkeeplaw06_DescSame.c26 : Cd := .tidy [66, 67, 68, 69, 70, 71, 72, 73, 74, 75, 76, 77, 78, 79, 80, 81, 82, 83, 84, 85, 86, 87, 88, 89, 90, 91, 92, 93, 94, 95, 96, 97, 98, 99, 100, 101, 102, 103] [] [] none
def innkeeplaw06_DescSame.c25 : Cd := .ret
def innkeeplaw06_DescSame.c20 : Cd := .seq (.seq (.reg true [⟨some 66, .load (.d tWorld) (.t 2), none, [0], []⟩,
    ⟨some 67, .load (.d tWorld) (.t 2), none, [0], []⟩,
    ⟨some 68, .call (.f 17) [(.t 67)] [.d tWorld] [] false, none, [], []⟩,
    ⟨some 69, .call (.f 15) [(.t 66), (.t 68)] [.d .bool] [] false, none, [], []⟩,
    ⟨some 70, .move (.t 69), none, [], []⟩,
    ⟨some 71, .load (.d tWorld) (.t 2), some (70, true), [0], []⟩,
    ⟨some 72, .load (.d tWorld) (.t 5), some (70, true), [1], []⟩,
    ⟨some 73, .call (.f 15) [(.t 71), (.t 72)] [.d .bool] [] false, some (70, true), [4], []⟩,
    ⟨some 74, .not (.t 73), some (70, true), [], []⟩,
    ⟨some 75, .pick (.t 70) (.t 74) (.c .bool false), none, [], []⟩,
    ⟨some 76, .move (.t 75), none, [], []⟩,
    ⟨some 77, .load (.d tWorld) (.t 5), some (76, true), [1], []⟩,
    ⟨some 78, .load (.d tWorld) (.t 2), some (76, true), [0], []⟩,
    ⟨some 79, .call (.f 15) [(.t 77), (.t 78)] [.d .bool] [] false, some (76, true), [4], []⟩,
    ⟨some 80, .not (.t 79), some (76, true), [], []⟩,
    ⟨some 81, .pick (.t 76) (.t 80) (.c .bool false), none, [], []⟩,
    ⟨some 82, .move (.t 81), none, [], []⟩,
    ⟨some 83, .load (.d tWorld) (.t 2), some (82, true), [0], []⟩,
    ⟨some 84, .load (.d tWorld) (.t 7), some (82, true), [2], []⟩,
    ⟨some 85, .call (.f 15) [(.t 83), (.t 84)] [.d .bool] [] false, some (82, true), [5], []⟩,
    ⟨some 86, .not (.t 85), some (82, true), [], []⟩,
    ⟨some 87, .pick (.t 82) (.t 86) (.c .bool false), none, [], []⟩,
    ⟨some 88, .move (.t 87), none, [], []⟩,
    ⟨some 89, .load (.d tWorld) (.t 5), some (88, true), [1], []⟩,
    ⟨some 90, .load (.d tWorld) (.t 7), some (88, true), [2], []⟩,
    ⟨some 91, .call (.f 15) [(.t 89), (.t 90)] [.d .bool] [] false, some (88, true), [4, 5], []⟩,
    ⟨some 92, .not (.t 91), some (88, true), [], []⟩,
    ⟨some 93, .pick (.t 88) (.t 92) (.c .bool false), none, [], []⟩,
    ⟨some 94, .move (.t 93), none, [], []⟩,
    ⟨some 95, .load (.d tWorld) (.t 2), some (94, true), [0], []⟩,
    ⟨some 96, .load (.d tWorld) (.t 8), some (94, true), [3], []⟩,
    ⟨some 97, .call (.f 15) [(.t 95), (.t 96)] [.d .bool] [] false, some (94, true), [6], []⟩,
    ⟨some 98, .fieldAddr (.d tWorld) 3 (.t 2), some (94, true), [0], []⟩,
    ⟨some 99, .load (.d (.sl tPlace)) (.t 98), some (94, true), [0], []⟩,
    ⟨some 100, .len (.t 99), some (94, true), [], []⟩,
    ⟨some 101, .bin .eql (.t 100) (.c (.int .i64) (0 : Int)), some (94, true), [], []⟩,
    ⟨some 102, .eqs .bool false (.t 97) (.t 101), some (94, true), [], []⟩,
    ⟨some 103, .pick (.t 94) (.t 102) (.c .bool false), none, [], []⟩,
    ⟨some 4, .move (.t 103), none, [], []⟩]) (innkeeplaw06_DescSame.c26)) (innkeeplaw06_DescSame.c25)
def innkeeplaw06_DescSame.c18 : Cd := .seq (.seq (.seq (.reg false [⟨some 48, .fieldAddr (.d tWorld) 3 (.t 8), none, [], []⟩,
    ⟨some 49, .load (.d (.sl tPlace)) (.t 48), none, [], []⟩,
    ⟨some 50, .len (.t 49), none, [], []⟩,
    ⟨some 51, .bin .gtr (.t 50) (.c (.int .i64) (0 : Int)), none, [], []⟩]) (innkeeplaw06_DescSame.c22)) (innkeeplaw06_DescSame.c21)) (innkeeplaw06_DescSame.c20)
def innkeeplaw06_DescSame.c16 : Cd := .seq (.seq (.reg false [⟨some 46, .load (.d tWorld) (.t 2), none, [], []⟩,
    ⟨some 47, .call (.f 17) [(.t 46)] [.d tWorld] [((0, [3]), 6)] false, none, [], []⟩,
    ⟨some 8, .newbox 3 tWorld [], none, [], []⟩,
    ⟨none, .store (.d tWorld) (.t 8) (.t 47), none, [], []⟩]) (innkeeplaw06_DescSame.c19)) (innkeeplaw06_DescSame.c18)
def innkeeplaw06_DescSame.c14 : Cd := .seq (.seq (.reg false [⟨some 39, .fieldAddr (.d tWorld) 2 (.t 7), none, [], []⟩,
    ⟨some 40, .load (.d (.sl (.int .i64))) (.t 39), none, [], []⟩,
    ⟨some 41, .move (.t 6), none, [], []⟩,
    ⟨some 42, .index (.sl (.int .i64)) (.t 40) (.t 41), none, [], []⟩,
    ⟨some 43, .load (.d (.int .i64)) (.t 42), none, [], []⟩,
    ⟨some 44, .bin .add (.t 43) (.c (.int .i64) (1 : Int)), none, [], []⟩,
    ⟨some 45, .index (.sl (.int .i64)) (.t 40) (.t 41), none, [], []⟩,
    ⟨none, .store (.d (.int .i64)) (.t 45) (.t 44), none, [], []⟩]) (innkeeplaw06_DescSame.c17)) (innkeeplaw06_DescSame.c16)
def innkeeplaw06_DescSame.c12 : Cd := .seq (.seq (.reg false [⟨some 37, .load (.d tWorld) (.t 2), none, [], []⟩,
    ⟨some 38, .call (.f 17) [(.t 37)] [.d tWorld] [((0, [2]), 5)] false, none, [], []⟩,
    ⟨some 7, .newbox 2 tWorld [], none, [], []⟩,
    ⟨none, .store (.d tWorld) (.t 7) (.t 38), none, [], []⟩]) (innkeeplaw06_DescSame.c15)) (innkeeplaw06_DescSame.c14)
def innkeeplaw06_DescSame.c10 : Cd := .seq (.seq (.reg false [⟨some 30, .fieldAddr (.d tWorld) 1 (.t 5), none, [], []⟩,
    ⟨some 31, .load (.d (.sl (.int .i64))) (.t 30), none, [], []⟩,
    ⟨some 32, .move (.t 6), none, [], []⟩,
    ⟨some 33, .index (.sl (.int .i64)) (.t 31) (.t 32), none, [], []⟩,
    ⟨some 34, .load (.d (.int .i64)) (.t 33), none, [], []⟩,
    ⟨some 35, .bin .add (.t 34) (.c (.int .i64) (1 : Int)), none, [], []⟩,
    ⟨some 36, .index (.sl (.int .i64)) (.t 31) (.t 32), none, [], []⟩,
    ⟨none, .store (.d (.int .i64)) (.t 36) (.t 35), none, [], []⟩]) (innkeeplaw06_DescSame.c13)) (innkeeplaw06_DescSame.c12)
def innkeeplaw06_DescSame.c8 : Cd := .seq (.seq (.reg false [⟨some 24, .move (.t 1), none, [], []⟩,
    ⟨some 25, .conv .i64 (.t 24), none, [], []⟩,
    ⟨some 26, .fieldAddr (.d tWorld) 1 (.t 5), none, [], []⟩,
    ⟨some 27, .load (.d (.sl (.int .i64))) (.t 26), none, [], []⟩,
    ⟨some 28, .len (.t 27), none, [], []⟩,
    ⟨some 29, .bin .rem (.t 25) (.t 28), none, [], []⟩,
    ⟨some 6, .move (.t 29), none, [], []⟩]) (innkeeplaw06_DescSame.c11)) (innkeeplaw06_DescSame.c10)
def innkeeplaw06_DescSame.c1 : Cd := .seq (.seq (.reg false [⟨some 22, .load (.d tWorld) (.t 2), none, [], []⟩,
    ⟨some 23, .call (.f 17) [(.t 22)] [.d tWorld] [((0, [1]), 4)] false, none, [], []⟩,
    ⟨some 5, .newbox 1 tWorld [], none, [], []⟩,
    ⟨none, .store (.d tWorld) (.t 5) (.t 23), none, [], []⟩]) (innkeeplaw06_DescSame.c9)) (innkeeplaw06_DescSame.c8)
def innkeeplaw06_DescSame.c0 : Cd := .seq (.seq (.seq (.reg false [⟨some 9, .call (.f 8) [] [.d .bool] [] false, none, [], []⟩,
    ⟨some 10, .not (.t 9), none, [], []⟩,
    ⟨some 11, .move (.t 10), none, [], []⟩,
    ⟨some 12, .load (.d tWorld) (.t 2), some (11, false), [], []⟩,
    ⟨some 13, .call (.f 9) [(.t 12)] [.d .bool] [] false, some (11, false), [], []⟩,
    ⟨some 14, .not (.t 13), some (11, false), [], []⟩,
    ⟨some 15, .pick (.t 11) (.c .bool true) (.t 14), none, [], []⟩,
    ⟨some 16, .move (.t 15), none, [], []⟩,
    ⟨some 17, .load (.d tWorld) (.t 2), some (16, false), [], []⟩,
    ⟨some 18, .call (.f 14) [(.t 17)] [.d .bool] [] false, some (16, false), [], []⟩,
    ⟨some 19, .not (.t 18), some (16, false), [], []⟩,
    ⟨some 20, .pick (.t 16) (.c .bool true) (.t 19), none, [], []⟩]) (innkeeplaw06_DescSame.c3)) (innkeeplaw06_DescSame.c2)) (innkeeplaw06_DescSame.c1)
def innkeeplaw06_DescSame.fn : Fn := ⟨2, [.tmp 4], .seq (.reg false [⟨some 2, .box 0 (.t 0), none, [], []⟩,
    ⟨some 4, .move (.c .bool false), none, [], []⟩]) (innkeeplaw06_DescSame.c0)⟩
def prog : FuncId → Option Fn
  | 3 => some innkeeplaw06_DescMakes.fn
  | 4 => some innkeeplaw06_DescRight.fn
  | 5 => some innkeeplaw06_DescKeeps.fn
  | 6 => some innkeeplaw06_DescCaps.fn
  | 7 => some innkeeplaw06_DescSame.fn
  | 8 => some innkeeplaw06_awake.fn
  | 9 => some innkeepref06_Few.fn
  | 10 => some desc_New.fn
  | 11 => some desc_May.fn
  | 12 => some innkeepref06_May.fn
  | 13 => some desc_Right.fn
  | 14 => some innkeepref06_Right.fn
  | 15 => some desc_Same.fn
  | 16 => some innkeepref06_Same.fn
  | 17 => some desc_Copy.fn
  | 18 => some innkeepref06_New.fn
  | 19 => some innkeepref06_Many.fn
  | 20 => some innkeepref06_Copied.fn
  | 22 => some desc_May_1.fn
  | 23 => some desc_is.fn
  | 24 => some desc_May_2.fn
  | 25 => some desc_all_int.fn
  | 26 => some desc_May_2_1.fn
  | 27 => some desc_holds.fn
  | 28 => some desc_all_a4int.fn
  | 29 => some coin_Is.fn
  | 30 => some desc_May_3.fn
  | 31 => some innkeepref06_in.fn
  | 32 => some innkeepref01_Is.fn
  | 33 => some desc_Right_1.fn
  | 34 => some desc_Right_2.fn
  | 35 => some desc_all_api_Place.fn
  | 36 => some desc_Right_3.fn
  | 37 => some innkeepref06_Depth.fn
  | 38 => some innkeepref06_Cap.fn
  | 39 => some desc_sameDesc.fn
  | 40 => some slices_Equal_sint_int.fn
  | 41 => some slices_Equal_sapi_Place_api_Place.fn
  | 42 => some innkeepref03_Ints.fn
  | 43 => some innkeepref06_Places.fn
  | 45 => some slices_ContainsFunc_sint_int.fn
  | 46 => some desc_all_int_1.fn
  | 47 => some slices_ContainsFunc_sa4int_a4int.fn
  | 48 => some desc_all_a4int_1.fn
  | 49 => some slices_ContainsFunc_sapi_Place_api_Place.fn
  | 50 => some desc_all_api_Place_1.fn
  | 51 => some slices_Equal_sa4int_a4int.fn
  | 52 => some slices_Equal_sbool_bool.fn
  | 53 => some slices_IndexFunc_sint_int.fn
  | 54 => some slices_IndexFunc_sa4int_a4int.fn
  | 55 => some slices_IndexFunc_sapi_Place_api_Place.fn
  | _ => none
end Go.Proofs.Ytkjcmjfdkmnikaa.Ghost
