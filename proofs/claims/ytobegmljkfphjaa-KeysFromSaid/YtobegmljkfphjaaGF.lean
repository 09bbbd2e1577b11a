/- The functions as ghost code. Conditions: none; no statement is proved here. -/
import Derived.Test.YtobegmljkfphjaaA1
set_option linter.unusedVariables false
set_option linter.unusedSimpArgs false
set_option linter.unusedSectionVars false
set_option linter.unnecessarySimpa false
namespace Go.Proofs.Ytobegmljkfphjaa.Ghost
open Go
abbrev tboundsError : Ty := .st [(.int .i64), (.int .i64), .bool, (.int .u8)]
abbrev terrorAddressString : Ty := .st [.str, (.int .u64)]
abbrev tKey : Ty := .st [(.int .i64), (.int .i64)]
abbrev tDesc : Ty := .st [(.sl (.arr 4 (.int .i64))), (.sl (.int .i64)), (.sl (.int .i64)), (.sl (.int .i64)), (.sl .bool), (.int .i64), (.int .i64), (.int .i64)]
abbrev tWorld : Ty := .st [tDesc, (.sl (.int .i64)), (.sl (.int .i64)), (.sl tKey)]
def keys_Many.c2 : Cd := .tidy [3, 4, 5, 6, 7, 8, 9] [] [] none
def keys_Many.c1 : Cd := .ret
def keys_Many.c0 : Cd := .seq (.seq (.reg false [⟨some 3, .fieldAddr (.d tDesc) 0 (.t 1), none, [], []⟩,
    ⟨some 4, .load (.d (.sl (.arr 4 (.int .i64)))) (.t 3), none, [], []⟩,
    ⟨some 5, .len (.t 4), none, [], []⟩,
    ⟨some 6, .fieldAddr (.d tDesc) 1 (.t 1), none, [], []⟩,
    ⟨some 7, .load (.d (.sl (.int .i64))) (.t 6), none, [], []⟩,
    ⟨some 8, .len (.t 7), none, [], []⟩,
    ⟨some 9, .bin .add (.t 5) (.t 8), none, [], []⟩,
    ⟨some 2, .move (.t 9), none, [], []⟩]) (keys_Many.c2)) (keys_Many.c1)
def keys_Many.fn : Fn := ⟨1, [.tmp 2], .seq (.reg false [⟨some 1, .box 0 (.t 0), none, [], []⟩,
    ⟨some 2, .move (.c (.int .i64) (0 : Int)), none, [], []⟩]) (keys_Many.c0)⟩
def keys_At.c2 : Cd := .tidy [7, 8, 9] [] [] none
def keys_At.c5 : Cd := .tidy [11, 12, 13, 14, 15, 16, 17, 18] [] [] none
def keys_At.c8 : Cd := .tidy [19] [] [] none
def keys_At.c7 : Cd := .ret
def keys_At.c6 : Cd := .seq (.seq (.reg false [⟨some 19, .build tKey [] [], none, [], []⟩,
    ⟨none, .store (.d tKey) (.t 4) (.t 19), none, [], []⟩,
    ⟨some 5, .move (.c .bool false), none, [], []⟩]) (keys_At.c8)) (keys_At.c7)
def keys_At.c11 : Cd := .tidy [21, 22, 23] [] [] none
def keys_At.c14 : Cd := .tidy [24, 25] [] [] none
def keys_At.c13 : Cd := .ret
def keys_At.c12 : Cd := .seq (.seq (.reg false [⟨some 24, .move (.t 1), none, [], []⟩,
    ⟨some 25, .build tKey [(0, (.c (.int .i64) (0 : Int))), (1, (.t 24))] [], none, [], []⟩,
    ⟨none, .store (.d tKey) (.t 4) (.t 25), none, [], []⟩,
    ⟨some 5, .move (.c .bool true), none, [], []⟩]) (keys_At.c14)) (keys_At.c13)
def keys_At.c15 : Cd := .skip
def keys_At.c10 : Cd := .cond (.t 20) (.seq (.tidy [20] [] [] none) (keys_At.c12)) (.seq (.tidy [20] [] [] none) (keys_At.c15))
def keys_At.c9 : Cd := .seq (.seq (.reg false [⟨some 21, .move (.t 1), none, [], []⟩,
    ⟨some 22, .move (.t 6), none, [], []⟩,
    ⟨some 23, .bin .lss (.t 21) (.t 22), none, [], []⟩,
    ⟨some 20, .move (.t 23), none, [], []⟩]) (keys_At.c11)) (keys_At.c10)
def keys_At.c4 : Cd := .cond (.t 10) (.seq (.tidy [10] [] [] none) (keys_At.c6)) (.seq (.tidy [10] [] [] none) (keys_At.c9))
def keys_At.c17 : Cd := .tidy [26, 27, 28, 29] [] [] none
def keys_At.c16 : Cd := .ret
def keys_At.c3 : Cd := .seq (.seq (.reg false [⟨some 26, .move (.t 1), none, [], []⟩,
    ⟨some 27, .move (.t 6), none, [], []⟩,
    ⟨some 28, .bin .sub (.t 26) (.t 27), none, [], []⟩,
    ⟨some 29, .build tKey [(0, (.c (.int .i64) (1 : Int))), (1, (.t 28))] [], none, [], []⟩,
    ⟨none, .store (.d tKey) (.t 4) (.t 29), none, [], []⟩,
    ⟨some 5, .move (.c .bool true), none, [], []⟩]) (keys_At.c17)) (keys_At.c16)
def keys_At.c1 : Cd := .seq (.block 0 (.seq (.seq (.reg false [⟨some 11, .move (.t 1), none, [], []⟩,
    ⟨some 12, .bin .lss (.t 11) (.c (.int .i64) (0 : Int)), none, [], []⟩,
    ⟨some 13, .move (.t 12), none, [], []⟩,
    ⟨some 14, .move (.t 1), some (13, false), [], []⟩,
    ⟨some 15, .load (.d tDesc) (.t 2), some (13, false), [], []⟩,
    ⟨some 16, .call (.f 18) [(.t 15)] [.d (.int .i64)] [] false, some (13, false), [], []⟩,
    ⟨some 17, .bin .geq (.t 14) (.t 16), some (13, false), [], []⟩,
    ⟨some 18, .pick (.t 13) (.c .bool true) (.t 17), none, [], []⟩,
    ⟨some 10, .move (.t 18), none, [], []⟩]) (keys_At.c5)) (keys_At.c4))) (keys_At.c3)
def keys_At.c0 : Cd := .seq (.seq (.reg false [⟨some 7, .fieldAddr (.d tDesc) 0 (.t 2), none, [], []⟩,
    ⟨some 8, .load (.d (.sl (.arr 4 (.int .i64)))) (.t 7), none, [], []⟩,
    ⟨some 9, .len (.t 8), none, [], []⟩,
    ⟨some 6, .move (.t 9), none, [], []⟩]) (keys_At.c2)) (keys_At.c1)
def keys_At.fn : Fn := ⟨2, [.cell 4 (.d tKey), .tmp 5], .seq (.reg false [⟨some 2, .box 0 (.t 0), none, [], []⟩,
    ⟨some 4, .newbox 1 tKey [], none, [], []⟩,
    ⟨some 5, .move (.c .bool false), none, [], []⟩]) (keys_At.c0)⟩
def keys_Place.c2 : Cd := .tidy [7, 8, 9, 10, 11] [] [] none
def keys_Place.c4 : Cd := .tidy [12, 13, 14, 15, 16, 17, 18, 19] [] [] none
def keys_Place.c7 : Cd := .tidy [20, 21, 22, 23, 24, 25, 26, 27, 28, 29, 30] [] [] none
def keys_Place.c9 : Cd := .ret
def keys_Place.c8 : Cd := .seq (.reg false [⟨some 4, .move (.c (.int .i64) ((-1) : Int)), none, [], []⟩]) (keys_Place.c9)
def keys_Place.c10 : Cd := .skip
def keys_Place.c6 : Cd := .cond (.t 31) (.seq (.tidy [31] [] [] none) (keys_Place.c8)) (.seq (.tidy [31] [] [] none) (keys_Place.c10))
def keys_Place.c12 : Cd := .tidy [32, 33, 34, 35, 36, 37, 38] [] [] none
def keys_Place.c11 : Cd := .ret
def keys_Place.c5 : Cd := .seq (.seq (.reg false [⟨some 32, .move (.t 5), none, [], []⟩,
    ⟨some 33, .fieldAddr (.d tKey) 0 (.t 3), none, [], []⟩,
    ⟨some 34, .load (.d (.int .i64)) (.t 33), none, [], []⟩,
    ⟨some 35, .lookup (.int .i64) (.int .i64) (.t 32) (.t 34), none, [], []⟩,
    ⟨some 36, .fieldAddr (.d tKey) 1 (.t 3), none, [], []⟩,
    ⟨some 37, .load (.d (.int .i64)) (.t 36), none, [], []⟩,
    ⟨some 38, .bin .add (.t 35) (.t 37), none, [], []⟩,
    ⟨some 4, .move (.t 38), none, [], []⟩]) (keys_Place.c12)) (keys_Place.c11)
def keys_Place.c3 : Cd := .seq (.seq (.seq (.reg false [⟨some 20, .fieldAddr (.d tKey) 1 (.t 3), none, [], []⟩,
    ⟨some 21, .load (.d (.int .i64)) (.t 20), none, [], []⟩,
    ⟨some 22, .bin .lss (.t 21) (.c (.int .i64) (0 : Int)), none, [], []⟩,
    ⟨some 23, .move (.t 22), none, [], []⟩,
    ⟨some 24, .fieldAddr (.d tKey) 1 (.t 3), some (23, false), [], []⟩,
    ⟨some 25, .load (.d (.int .i64)) (.t 24), some (23, false), [], []⟩,
    ⟨some 26, .move (.t 6), some (23, false), [], []⟩,
    ⟨some 27, .fieldAddr (.d tKey) 0 (.t 3), some (23, false), [], []⟩,
    ⟨some 28, .load (.d (.int .i64)) (.t 27), some (23, false), [], []⟩,
    ⟨some 29, .lookup (.int .i64) (.int .i64) (.t 26) (.t 28), some (23, false), [], []⟩,
    ⟨some 30, .bin .geq (.t 25) (.t 29), some (23, false), [], []⟩,
    ⟨some 31, .pick (.t 23) (.c .bool true) (.t 30), none, [], []⟩]) (keys_Place.c7)) (keys_Place.c6)) (keys_Place.c5)
def keys_Place.c1 : Cd := .seq (.seq (.reg false [⟨some 12, .mkmap 3 (.int .i64) (.int .i64), none, [], []⟩,
    ⟨some 13, .fieldAddr (.d tDesc) 0 (.t 2), none, [], []⟩,
    ⟨some 14, .load (.d (.sl (.arr 4 (.int .i64)))) (.t 13), none, [], []⟩,
    ⟨some 15, .len (.t 14), none, [], []⟩,
    ⟨none, .mapset (.int .i64) (.int .i64) (.t 12) (.c (.int .i64) (0 : Int)) (.t 15), none, [], []⟩,
    ⟨some 16, .fieldAddr (.d tDesc) 1 (.t 2), none, [], []⟩,
    ⟨some 17, .load (.d (.sl (.int .i64))) (.t 16), none, [], []⟩,
    ⟨some 18, .len (.t 17), none, [], []⟩,
    ⟨none, .mapset (.int .i64) (.int .i64) (.t 12) (.c (.int .i64) (1 : Int)) (.t 18), none, [], []⟩,
    ⟨some 19, .move (.t 12), none, [], []⟩,
    ⟨some 6, .move (.t 19), none, [], []⟩]) (keys_Place.c4)) (keys_Place.c3)
def keys_Place.c0 : Cd := .seq (.seq (.reg false [⟨some 7, .mkmap 2 (.int .i64) (.int .i64), none, [], []⟩,
    ⟨none, .mapset (.int .i64) (.int .i64) (.t 7) (.c (.int .i64) (0 : Int)) (.c (.int .i64) (0 : Int)), none, [], []⟩,
    ⟨some 8, .fieldAddr (.d tDesc) 0 (.t 2), none, [], []⟩,
    ⟨some 9, .load (.d (.sl (.arr 4 (.int .i64)))) (.t 8), none, [], []⟩,
    ⟨some 10, .len (.t 9), none, [], []⟩,
    ⟨none, .mapset (.int .i64) (.int .i64) (.t 7) (.c (.int .i64) (1 : Int)) (.t 10), none, [], []⟩,
    ⟨some 11, .move (.t 7), none, [], []⟩,
    ⟨some 5, .move (.t 11), none, [], []⟩]) (keys_Place.c2)) (keys_Place.c1)
def keys_Place.fn : Fn := ⟨2, [.tmp 4], .seq (.reg false [⟨some 2, .box 0 (.t 0), none, [], []⟩,
    ⟨some 3, .box 1 (.t 1), none, [], []⟩,
    ⟨some 4, .move (.c (.int .i64) (0 : Int)), none, [], []⟩]) (keys_Place.c0)⟩
def innkeepref14_Same.c3 : Cd := .tidy [6, 7, 8, 9] [] [] none
def innkeepref14_Same.c5 : Cd := .ret
def innkeepref14_Same.c4 : Cd := .seq (.reg false [⟨some 4, .move (.c .bool false), none, [], []⟩]) (innkeepref14_Same.c5)
def innkeepref14_Same.c6 : Cd := .skip
def innkeepref14_Same.c2 : Cd := .cond (.t 10) (.seq (.tidy [10] [] [] none) (innkeepref14_Same.c4)) (.seq (.tidy [10] [] [] none) (innkeepref14_Same.c6))
def innkeepref14_Same.c13 : Cd := .tidy [11, 12, 13] [] [] none
def innkeepref14_Same.c14 : Cd := .skip
def innkeepref14_Same.c22 : Cd := .exit 0
def innkeepref14_Same.c12 : Cd := .cond (.t 14) (.seq (.tidy [14] [] [] none) (innkeepref14_Same.c14)) (.seq (.tidy [14] [] [] none) (innkeepref14_Same.c22))
def innkeepref14_Same.c17 : Cd := .tidy [17, 18, 19, 20, 21, 22, 23, 24] [] [] none
def innkeepref14_Same.c19 : Cd := .ret
def innkeepref14_Same.c18 : Cd := .seq (.reg false [⟨some 4, .move (.c .bool false), none, [], []⟩]) (innkeepref14_Same.c19)
def innkeepref14_Same.c20 : Cd := .skip
def innkeepref14_Same.c16 : Cd := .cond (.t 25) (.seq (.tidy [25] [] [] none) (innkeepref14_Same.c18)) (.seq (.tidy [25] [] [] none) (innkeepref14_Same.c20))
def innkeepref14_Same.c21 : Cd := .tidy [15, 16] [] [] none
def innkeepref14_Same.c15 : Cd := .seq (.reg false [⟨some 15, .move (.t 5), none, [], []⟩,
    ⟨some 16, .bin .add (.t 15) (.c (.int .i64) (1 : Int)), none, [], []⟩,
    ⟨some 5, .move (.t 16), none, [], []⟩]) (innkeepref14_Same.c21)
def innkeepref14_Same.c11 : Cd := .seq (.block 1 (.seq (.seq (.reg true [⟨some 17, .move (.t 0), none, [], []⟩,
    ⟨some 18, .move (.t 5), none, [], []⟩,
    ⟨some 19, .index (.sl tKey) (.t 17) (.t 18), none, [], []⟩,
    ⟨some 20, .load (.d tKey) (.t 19), none, [], []⟩,
    ⟨some 21, .move (.t 1), none, [], []⟩,
    ⟨some 22, .move (.t 5), none, [], []⟩,
    ⟨some 23, .index (.sl tKey) (.t 21) (.t 22), none, [], []⟩,
    ⟨some 24, .load (.d tKey) (.t 23), none, [], []⟩,
    ⟨some 25, .eqs tKey true (.t 20) (.t 24), none, [], []⟩]) (innkeepref14_Same.c17)) (innkeepref14_Same.c16))) (innkeepref14_Same.c15)
def innkeepref14_Same.c10 : Cd := .tidy [] [] [] (some 0)
def innkeepref14_Same.c9 : Cd := .seq (.seq (.seq (.seq (.reg false [⟨some 11, .move (.t 5), none, [], []⟩,
    ⟨some 12, .move (.t 0), none, [], []⟩,
    ⟨some 13, .len (.t 12), none, [], []⟩,
    ⟨some 14, .bin .lss (.t 11) (.t 13), none, [], []⟩]) (innkeepref14_Same.c13)) (innkeepref14_Same.c12)) (innkeepref14_Same.c11)) (innkeepref14_Same.c10)
def innkeepref14_Same.c8 : Cd := .block 0 (.loop (innkeepref14_Same.c9))
def innkeepref14_Same.c23 : Cd := .ret
def innkeepref14_Same.c7 : Cd := .seq (.reg false [⟨some 4, .move (.c .bool true), none, [], []⟩]) (innkeepref14_Same.c23)
def innkeepref14_Same.c1 : Cd := .seq (.seq (.reg false [⟨some 5, .move (.c (.int .i64) (0 : Int)), none, [], []⟩]) (innkeepref14_Same.c8)) (innkeepref14_Same.c7)
def innkeepref14_Same.c0 : Cd := .seq (.seq (.seq (.reg false [⟨some 6, .move (.t 0), none, [], []⟩,
    ⟨some 7, .len (.t 6), none, [], []⟩,
    ⟨some 8, .move (.t 1), none, [], []⟩,
    ⟨some 9, .len (.t 8), none, [], []⟩,
    ⟨some 10, .bin .neq (.t 7) (.t 9), none, [], []⟩]) (innkeepref14_Same.c3)) (innkeepref14_Same.c2)) (innkeepref14_Same.c1)
def innkeepref14_Same.fn : Fn := ⟨2, [.tmp 4], .seq (.reg false [⟨some 4, .move (.c .bool false), none, [], []⟩]) (innkeepref14_Same.c0)⟩
def cmp_isNaN_int.c2 : Cd := .tidy [3, 4, 5] [] [] none
def cmp_isNaN_int.c1 : Cd := .ret
def cmp_isNaN_int.c0 : Cd := .seq (.seq (.reg false [⟨some 3, .move (.t 0), none, [], []⟩,
    ⟨some 4, .move (.t 0), none, [], []⟩,
    ⟨some 5, .bin .neq (.t 3) (.t 4), none, [], []⟩,
    ⟨some 2, .move (.t 5), none, [], []⟩]) (cmp_isNaN_int.c2)) (cmp_isNaN_int.c1)
def cmp_isNaN_int.fn : Fn := ⟨1, [.tmp 2], .seq (.reg false [⟨some 2, .move (.c .bool false), none, [], []⟩]) (cmp_isNaN_int.c0)⟩
def cmp_Compare_int.c2 : Cd := .tidy [7, 8] [] [] none
def cmp_Compare_int.c4 : Cd := .tidy [9, 10] [] [] none
def cmp_Compare_int.c11 : Cd := .ret
def cmp_Compare_int.c10 : Cd := .seq (.reg false [⟨some 4, .move (.c (.int .i64) (0 : Int)), none, [], []⟩]) (cmp_Compare_int.c11)
def cmp_Compare_int.c12 : Cd := .skip
def cmp_Compare_int.c9 : Cd := .cond (.t 12) (.seq (.tidy [12] [] [] none) (cmp_Compare_int.c10)) (.seq (.tidy [12] [] [] none) (cmp_Compare_int.c12))
def cmp_Compare_int.c13 : Cd := .ret
def cmp_Compare_int.c8 : Cd := .seq (.reg false [⟨some 4, .move (.c (.int .i64) ((-1) : Int)), none, [], []⟩]) (cmp_Compare_int.c13)
def cmp_Compare_int.c7 : Cd := .seq (.seq (.reg false [⟨some 12, .move (.t 6), none, [], []⟩]) (cmp_Compare_int.c9)) (cmp_Compare_int.c8)
def cmp_Compare_int.c14 : Cd := .skip
def cmp_Compare_int.c6 : Cd := .cond (.t 11) (.seq (.tidy [11] [] [] none) (cmp_Compare_int.c7)) (.seq (.tidy [11] [] [] none) (cmp_Compare_int.c14))
def cmp_Compare_int.c18 : Cd := .ret
def cmp_Compare_int.c17 : Cd := .seq (.reg false [⟨some 4, .move (.c (.int .i64) (1 : Int)), none, [], []⟩]) (cmp_Compare_int.c18)
def cmp_Compare_int.c19 : Cd := .skip
def cmp_Compare_int.c16 : Cd := .cond (.t 13) (.seq (.tidy [13] [] [] none) (cmp_Compare_int.c17)) (.seq (.tidy [13] [] [] none) (cmp_Compare_int.c19))
def cmp_Compare_int.c22 : Cd := .tidy [14, 15] [] [] none
def cmp_Compare_int.c24 : Cd := .ret
def cmp_Compare_int.c23 : Cd := .seq (.reg false [⟨some 4, .move (.c (.int .i64) ((-1) : Int)), none, [], []⟩]) (cmp_Compare_int.c24)
def cmp_Compare_int.c25 : Cd := .skip
def cmp_Compare_int.c21 : Cd := .cond (.t 16) (.seq (.tidy [16] [] [] none) (cmp_Compare_int.c23)) (.seq (.tidy [16] [] [] none) (cmp_Compare_int.c25))
def cmp_Compare_int.c28 : Cd := .tidy [17, 18] [] [] none
def cmp_Compare_int.c30 : Cd := .ret
def cmp_Compare_int.c29 : Cd := .seq (.reg false [⟨some 4, .move (.c (.int .i64) (1 : Int)), none, [], []⟩]) (cmp_Compare_int.c30)
def cmp_Compare_int.c31 : Cd := .skip
def cmp_Compare_int.c27 : Cd := .cond (.t 19) (.seq (.tidy [19] [] [] none) (cmp_Compare_int.c29)) (.seq (.tidy [19] [] [] none) (cmp_Compare_int.c31))
def cmp_Compare_int.c32 : Cd := .ret
def cmp_Compare_int.c26 : Cd := .seq (.reg false [⟨some 4, .move (.c (.int .i64) (0 : Int)), none, [], []⟩]) (cmp_Compare_int.c32)
def cmp_Compare_int.c20 : Cd := .seq (.seq (.seq (.reg false [⟨some 17, .move (.t 0), none, [], []⟩,
    ⟨some 18, .move (.t 1), none, [], []⟩,
    ⟨some 19, .bin .gtr (.t 17) (.t 18), none, [], []⟩]) (cmp_Compare_int.c28)) (cmp_Compare_int.c27)) (cmp_Compare_int.c26)
def cmp_Compare_int.c15 : Cd := .seq (.seq (.seq (.reg false [⟨some 14, .move (.t 0), none, [], []⟩,
    ⟨some 15, .move (.t 1), none, [], []⟩,
    ⟨some 16, .bin .lss (.t 14) (.t 15), none, [], []⟩]) (cmp_Compare_int.c22)) (cmp_Compare_int.c21)) (cmp_Compare_int.c20)
def cmp_Compare_int.c5 : Cd := .seq (.seq (.reg false [⟨some 13, .move (.t 6), none, [], []⟩]) (cmp_Compare_int.c16)) (cmp_Compare_int.c15)
def cmp_Compare_int.c3 : Cd := .seq (.seq (.reg false [⟨some 11, .move (.t 5), none, [], []⟩]) (cmp_Compare_int.c6)) (cmp_Compare_int.c5)
def cmp_Compare_int.c1 : Cd := .seq (.seq (.reg false [⟨some 9, .move (.t 1), none, [], []⟩,
    ⟨some 10, .call (.f 25) [(.t 9)] [.d .bool] [] false, none, [], []⟩,
    ⟨some 6, .move (.t 10), none, [], []⟩]) (cmp_Compare_int.c4)) (cmp_Compare_int.c3)
def cmp_Compare_int.c0 : Cd := .seq (.seq (.reg false [⟨some 7, .move (.t 0), none, [], []⟩,
    ⟨some 8, .call (.f 25) [(.t 7)] [.d .bool] [] false, none, [], []⟩,
    ⟨some 5, .move (.t 8), none, [], []⟩]) (cmp_Compare_int.c2)) (cmp_Compare_int.c1)
def cmp_Compare_int.fn : Fn := ⟨2, [.tmp 4], .seq (.reg false [⟨some 4, .move (.c (.int .i64) (0 : Int)), none, [], []⟩]) (cmp_Compare_int.c0)⟩
def cmp_Or_int.c8 : Cd := .skip
def cmp_Or_int.c19 : Cd := .exit 0
def cmp_Or_int.c11 : Cd := .tidy [10, 11] [] [] none
def cmp_Or_int.c13 : Cd := .tidy [12, 13] [] [] none
def cmp_Or_int.c16 : Cd := .tidy [15] [] [] none
def cmp_Or_int.c15 : Cd := .ret
def cmp_Or_int.c14 : Cd := .seq (.seq (.reg false [⟨some 15, .move (.t 5), none, [], []⟩,
    ⟨some 2, .move (.t 15), none, [], []⟩]) (cmp_Or_int.c16)) (cmp_Or_int.c15)
def cmp_Or_int.c17 : Cd := .skip
def cmp_Or_int.c12 : Cd := .cond (.t 14) (.seq (.tidy [14] [] [] none) (cmp_Or_int.c14)) (.seq (.tidy [14] [] [] none) (cmp_Or_int.c17))
def cmp_Or_int.c10 : Cd := .seq (.seq (.reg false [⟨some 12, .move (.t 5), none, [], []⟩,
    ⟨some 13, .move (.t 3), none, [], []⟩,
    ⟨some 14, .bin .neq (.t 12) (.t 13), none, [], []⟩]) (cmp_Or_int.c13)) (cmp_Or_int.c12)
def cmp_Or_int.c18 : Cd := .tidy [16] [] [] none
def cmp_Or_int.c9 : Cd := .seq (.reg false [⟨some 16, .bin .add (.t 8) (.c (.int .i64) (1 : Int)), none, [], []⟩,
    ⟨some 8, .move (.t 16), none, [], []⟩]) (cmp_Or_int.c18)
def cmp_Or_int.c7 : Cd := .seq (.block 1 (.seq (.seq (.reg false [⟨some 10, .index (.sl (.int .i64)) (.t 6) (.t 8), none, [], []⟩,
    ⟨some 11, .load (.d (.int .i64)) (.t 10), none, [], []⟩,
    ⟨some 5, .move (.t 11), none, [], []⟩]) (cmp_Or_int.c11)) (cmp_Or_int.c10))) (cmp_Or_int.c9)
def cmp_Or_int.c6 : Cd := .seq (.cond (.t 9) (.seq (.tidy [9] [] [] none) (cmp_Or_int.c8)) (.seq (.tidy [9] [] [] none) (cmp_Or_int.c19))) (cmp_Or_int.c7)
def cmp_Or_int.c5 : Cd := .tidy [5] [] [] (some 0)
def cmp_Or_int.c4 : Cd := .seq (.seq (.reg false [⟨some 9, .bin .lss (.t 8) (.t 7), none, [], []⟩]) (cmp_Or_int.c6)) (cmp_Or_int.c5)
def cmp_Or_int.c3 : Cd := .block 0 (.loop (cmp_Or_int.c4))
def cmp_Or_int.c21 : Cd := .tidy [17] [] [] none
def cmp_Or_int.c20 : Cd := .ret
def cmp_Or_int.c2 : Cd := .seq (.seq (.reg false [⟨some 17, .move (.t 3), none, [], []⟩,
    ⟨some 2, .move (.t 17), none, [], []⟩]) (cmp_Or_int.c21)) (cmp_Or_int.c20)
def cmp_Or_int.c1 : Cd := .seq (.seq (.reg false [⟨some 6, .move (.t 0), none, [], []⟩,
    ⟨some 7, .len (.t 6), none, [], []⟩,
    ⟨some 8, .move (.c (.int .i64) (0 : Int)), none, [], []⟩]) (cmp_Or_int.c3)) (cmp_Or_int.c2)
def cmp_Or_int.c0 : Cd := .seq (.reg false [⟨some 3, .move (.c (.int .i64) (0 : Int)), none, [], []⟩]) (cmp_Or_int.c1)
def cmp_Or_int.fn : Fn := ⟨1, [.tmp 2], .seq (.reg false [⟨some 2, .move (.c (.int .i64) (0 : Int)), none, [], []⟩]) (cmp_Or_int.c0)⟩
def keys_compare.c2 : Cd := .tidy [5, 6, 7, 8, 9, 10, 11, 12, 13, 14, 15, 16] [] [] none
def keys_compare.c1 : Cd := .ret
def keys_compare.c0 : Cd := .seq (.seq (.reg true [⟨some 5, .fieldAddr (.d tKey) 0 (.t 2), none, [0], []⟩,
    ⟨some 6, .load (.d (.int .i64)) (.t 5), none, [0], []⟩,
    ⟨some 7, .fieldAddr (.d tKey) 0 (.t 3), none, [1], []⟩,
    ⟨some 8, .load (.d (.int .i64)) (.t 7), none, [1], []⟩,
    ⟨some 9, .call (.f 22) [(.t 6), (.t 8)] [.d (.int .i64)] [] false, none, [], []⟩,
    ⟨some 10, .fieldAddr (.d tKey) 1 (.t 2), none, [0], []⟩,
    ⟨some 11, .load (.d (.int .i64)) (.t 10), none, [0], []⟩,
    ⟨some 12, .fieldAddr (.d tKey) 1 (.t 3), none, [1], []⟩,
    ⟨some 13, .load (.d (.int .i64)) (.t 12), none, [1], []⟩,
    ⟨some 14, .call (.f 22) [(.t 11), (.t 13)] [.d (.int .i64)] [] false, none, [], []⟩,
    ⟨some 15, .slice 2 (.int .i64) [(.t 9), (.t 14)], none, [], [2]⟩,
    ⟨some 16, .call (.f 21) [(.t 15)] [.d (.int .i64)] [] false, none, [2], []⟩,
    ⟨some 4, .move (.t 16), none, [], []⟩]) (keys_compare.c2)) (keys_compare.c1)
def keys_compare.fn : Fn := ⟨2, [.tmp 4], .seq (.reg false [⟨some 2, .box 0 (.t 0), none, [], []⟩,
    ⟨some 3, .box 1 (.t 1), none, [], []⟩,
    ⟨some 4, .move (.c (.int .i64) (0 : Int)), none, [], []⟩]) (keys_compare.c0)⟩
def keys_Less.c2 : Cd := .tidy [5, 6, 7, 8] [] [] none
def keys_Less.c1 : Cd := .ret
def keys_Less.c0 : Cd := .seq (.seq (.reg false [⟨some 5, .load (.d tKey) (.t 2), none, [], []⟩,
    ⟨some 6, .load (.d tKey) (.t 3), none, [], []⟩,
    ⟨some 7, .call (.f 19) [(.t 5), (.t 6)] [.d (.int .i64)] [] false, none, [], []⟩,
    ⟨some 8, .bin .lss (.t 7) (.c (.int .i64) (0 : Int)), none, [], []⟩,
    ⟨some 4, .move (.t 8), none, [], []⟩]) (keys_Less.c2)) (keys_Less.c1)
def keys_Less.fn : Fn := ⟨2, [.tmp 4], .seq (.reg false [⟨some 2, .box 0 (.t 0), none, [], []⟩,
    ⟨some 3, .box 1 (.t 1), none, [], []⟩,
    ⟨some 4, .move (.c .bool false), none, [], []⟩]) (keys_Less.c0)⟩
def innkeeplaw14_awake.c2 : Cd := .tidy [7, 8, 9] [] [] none
def innkeeplaw14_awake.c4 : Cd := .tidy [10, 11, 12, 13, 14] [] [] none
def innkeeplaw14_awake.c6 : Cd := .tidy [4, 15, 16, 17, 18, 19] [] [] none
def innkeeplaw14_awake.c8 : Cd := .tidy [20, 21, 22, 23, 24, 25] [] [] none
def innkeeplaw14_awake.c10 : Cd := .tidy [26, 27, 28, 29, 30, 31, 32, 33, 34, 35, 36, 37, 38, 39, 40, 41, 42, 43, 44, 45, 46, 47, 48, 49, 50, 51, 52, 53, 54, 55, 56, 57, 58, 59, 60, 61, 62, 63, 64, 65, 66, 67, 68, 69, 70, 71] [] [] none
def innkeeplaw14_awake.c9 : Cd := .ret
def innkeeplaw14_awake.c7 : Cd := .seq (.seq (.reg false [⟨some 26, .load (.d tDesc) (.t 1), none, [], []⟩,
    ⟨some 27, .build tKey [(0, (.c (.int .i64) (1 : Int)))] [], none, [], []⟩,
    ⟨some 28, .call (.f 15) [(.t 26), (.t 27)] [.d (.int .i64)] [] false, none, [], []⟩,
    ⟨some 29, .bin .eql (.t 28) (.c (.int .i64) (2 : Int)), none, [], []⟩,
    ⟨some 30, .move (.t 29), none, [], []⟩,
    ⟨some 31, .load (.d tDesc) (.t 1), some (30, true), [], []⟩,
    ⟨some 32, .build tKey [(1, (.c (.int .i64) (2 : Int)))] [], some (30, true), [], []⟩,
    ⟨some 33, .call (.f 15) [(.t 31), (.t 32)] [.d (.int .i64)] [] false, some (30, true), [], []⟩,
    ⟨some 34, .bin .eql (.t 33) (.c (.int .i64) ((-1) : Int)), some (30, true), [], []⟩,
    ⟨some 35, .pick (.t 30) (.t 34) (.c .bool false), none, [], []⟩,
    ⟨some 36, .move (.t 35), none, [], []⟩,
    ⟨some 37, .load (.d tKey) (.t 2), some (36, true), [], []⟩,
    ⟨some 38, .build tKey [(0, (.c (.int .i64) (1 : Int)))] [], some (36, true), [], []⟩,
    ⟨some 39, .eqs tKey false (.t 37) (.t 38), some (36, true), [], []⟩,
    ⟨some 40, .pick (.t 36) (.t 39) (.c .bool false), none, [], []⟩,
    ⟨some 41, .move (.t 40), none, [], []⟩,
    ⟨some 42, .move (.t 3), some (41, true), [], []⟩,
    ⟨some 43, .pick (.t 41) (.t 42) (.c .bool false), none, [], []⟩,
    ⟨some 44, .move (.t 43), none, [], []⟩,
    ⟨some 45, .move (.t 5), some (44, true), [], []⟩,
    ⟨some 46, .not (.t 45), some (44, true), [], []⟩,
    ⟨some 47, .pick (.t 44) (.t 46) (.c .bool false), none, [], []⟩,
    ⟨some 48, .move (.t 47), none, [], []⟩,
    ⟨some 49, .load (.d tDesc) (.t 1), some (48, true), [], []⟩,
    ⟨some 50, .call (.f 18) [(.t 49)] [.d (.int .i64)] [] false, some (48, true), [], []⟩,
    ⟨some 51, .bin .eql (.t 50) (.c (.int .i64) (3 : Int)), some (48, true), [], []⟩,
    ⟨some 52, .pick (.t 48) (.t 51) (.c .bool false), none, [], []⟩,
    ⟨some 53, .move (.t 52), none, [], []⟩,
    ⟨some 54, .move (.t 6), some (53, true), [], []⟩,
    ⟨some 55, .build tKey [] [], some (53, true), [], []⟩,
    ⟨some 56, .build tKey [(1, (.c (.int .i64) (5 : Int)))] [], some (53, true), [], []⟩,
    ⟨some 57, .build tKey [(0, (.c (.int .i64) (1 : Int)))] [], some (53, true), [], []⟩,
    ⟨some 58, .slice 6 tKey [(.t 55), (.t 56), (.t 57)], some (53, true), [], []⟩,
    ⟨some 59, .call (.f 11) [(.t 54), (.t 58)] [.d .bool] [] false, some (53, true), [], []⟩,
    ⟨some 60, .pick (.t 53) (.t 59) (.c .bool false), none, [], []⟩,
    ⟨some 61, .move (.t 60), none, [], []⟩,
    ⟨some 62, .build tKey [(1, (.c (.int .i64) (9 : Int)))] [], some (61, true), [], []⟩,
    ⟨some 63, .build tKey [(0, (.c (.int .i64) (1 : Int)))] [], some (61, true), [], []⟩,
    ⟨some 64, .call (.f 9) [(.t 62), (.t 63)] [.d .bool] [] false, some (61, true), [], []⟩,
    ⟨some 65, .pick (.t 61) (.t 64) (.c .bool false), none, [], []⟩,
    ⟨some 66, .move (.t 65), none, [], []⟩,
    ⟨some 67, .build tKey [] [], some (66, true), [], []⟩,
    ⟨some 68, .build tKey [] [], some (66, true), [], []⟩,
    ⟨some 69, .call (.f 9) [(.t 67), (.t 68)] [.d .bool] [] false, some (66, true), [], []⟩,
    ⟨some 70, .not (.t 69), some (66, true), [], []⟩,
    ⟨some 71, .pick (.t 66) (.t 70) (.c .bool false), none, [], []⟩,
    ⟨some 0, .move (.t 71), none, [], []⟩]) (innkeeplaw14_awake.c10)) (innkeeplaw14_awake.c9)
def innkeeplaw14_awake.c5 : Cd := .seq (.seq (.reg false [⟨some 20, .build tKey [(0, (.c (.int .i64) (1 : Int)))] [], none, [], []⟩,
    ⟨some 21, .build tKey [(1, (.c (.int .i64) (5 : Int)))] [], none, [], []⟩,
    ⟨some 22, .build tKey [(0, (.c (.int .i64) (1 : Int)))] [], none, [], []⟩,
    ⟨some 23, .build tKey [] [], none, [], []⟩,
    ⟨some 24, .slice 5 tKey [(.t 20), (.t 21), (.t 22), (.t 23)], none, [], []⟩,
    ⟨some 25, .call (.f 12) [(.t 24)] [.d (.sl tKey)] [] false, none, [], []⟩,
    ⟨some 6, .move (.t 25), none, [], []⟩]) (innkeeplaw14_awake.c8)) (innkeeplaw14_awake.c7)
def innkeeplaw14_awake.c3 : Cd := .seq (.seq (.reg false [⟨some 16, .load (.d tDesc) (.t 1), none, [], []⟩,
    ⟨some 17, .call (.f 16) [(.t 16), (.c (.int .i64) (3 : Int))] [.d tKey, .d .bool] [] false, none, [], []⟩,
    ⟨some 15, .move (.t 17), none, [], []⟩,
    ⟨some 18, .extract (.t 15) 0, none, [], []⟩,
    ⟨some 19, .extract (.t 15) 1, none, [], []⟩,
    ⟨some 4, .newbox 4 tKey [], none, [], []⟩,
    ⟨none, .store (.d tKey) (.t 4) (.t 18), none, [], []⟩,
    ⟨some 5, .move (.t 19), none, [], []⟩]) (innkeeplaw14_awake.c6)) (innkeeplaw14_awake.c5)
def innkeeplaw14_awake.c1 : Cd := .seq (.seq (.reg false [⟨some 11, .load (.d tDesc) (.t 1), none, [], []⟩,
    ⟨some 12, .call (.f 16) [(.t 11), (.c (.int .i64) (2 : Int))] [.d tKey, .d .bool] [] false, none, [], []⟩,
    ⟨some 10, .move (.t 12), none, [], []⟩,
    ⟨some 13, .extract (.t 10) 0, none, [], []⟩,
    ⟨some 14, .extract (.t 10) 1, none, [], []⟩,
    ⟨some 2, .newbox 3 tKey [], none, [], []⟩,
    ⟨none, .store (.d tKey) (.t 2) (.t 13), none, [], []⟩,
    ⟨some 3, .move (.t 14), none, [], []⟩]) (innkeeplaw14_awake.c4)) (innkeeplaw14_awake.c3)
def innkeeplaw14_awake.c0 : Cd := .seq (.seq (.reg false [⟨some 7, .make 0 (.arr 4 (.int .i64)) (.c (.int .i64) (2 : Int)), none, [], []⟩,
    ⟨some 8, .slice 1 (.int .i64) [(.c (.int .i64) (0 : Int))], none, [], []⟩,
    ⟨some 9, .build tDesc [(0, (.t 7)), (1, (.t 8))] [], none, [], []⟩,
    ⟨some 1, .newbox 2 tDesc [], none, [], []⟩,
    ⟨none, .store (.d tDesc) (.t 1) (.t 9), none, [], []⟩]) (innkeeplaw14_awake.c2)) (innkeeplaw14_awake.c1)
def innkeeplaw14_awake.fn : Fn := ⟨0, [.tmp 0], .seq (.reg false [⟨some 0, .move (.c .bool false), none, [], []⟩]) (innkeeplaw14_awake.c0)⟩
def innkeepref14_Less.c2 : Cd := .tidy [5, 6, 7, 8, 9, 10, 11, 12, 13, 14, 15, 16, 17, 18, 19, 20, 21, 22, 23] [] [] none
def innkeepref14_Less.c1 : Cd := .ret
def innkeepref14_Less.c0 : Cd := .seq (.seq (.reg false [⟨some 5, .fieldAddr (.d tKey) 0 (.t 2), none, [], []⟩,
    ⟨some 6, .load (.d (.int .i64)) (.t 5), none, [], []⟩,
    ⟨some 7, .fieldAddr (.d tKey) 0 (.t 3), none, [], []⟩,
    ⟨some 8, .load (.d (.int .i64)) (.t 7), none, [], []⟩,
    ⟨some 9, .bin .lss (.t 6) (.t 8), none, [], []⟩,
    ⟨some 10, .move (.t 9), none, [], []⟩,
    ⟨some 11, .fieldAddr (.d tKey) 0 (.t 2), some (10, false), [], []⟩,
    ⟨some 12, .load (.d (.int .i64)) (.t 11), some (10, false), [], []⟩,
    ⟨some 13, .fieldAddr (.d tKey) 0 (.t 3), some (10, false), [], []⟩,
    ⟨some 14, .load (.d (.int .i64)) (.t 13), some (10, false), [], []⟩,
    ⟨some 15, .bin .eql (.t 12) (.t 14), some (10, false), [], []⟩,
    ⟨some 16, .move (.t 15), some (10, false), [], []⟩,
    ⟨some 17, .fieldAddr (.d tKey) 1 (.t 2), some (16, true), [], []⟩,
    ⟨some 18, .load (.d (.int .i64)) (.t 17), some (16, true), [], []⟩,
    ⟨some 19, .fieldAddr (.d tKey) 1 (.t 3), some (16, true), [], []⟩,
    ⟨some 20, .load (.d (.int .i64)) (.t 19), some (16, true), [], []⟩,
    ⟨some 21, .bin .lss (.t 18) (.t 20), some (16, true), [], []⟩,
    ⟨some 22, .pick (.t 16) (.t 21) (.c .bool false), some (10, false), [], []⟩,
    ⟨some 23, .pick (.t 10) (.c .bool true) (.t 22), none, [], []⟩,
    ⟨some 4, .move (.t 23), none, [], []⟩]) (innkeepref14_Less.c2)) (innkeepref14_Less.c1)
def innkeepref14_Less.fn : Fn := ⟨2, [.tmp 4], .seq (.reg false [⟨some 2, .box 0 (.t 0), none, [], []⟩,
    ⟨some 3, .box 1 (.t 1), none, [], []⟩,
    ⟨some 4, .move (.c .bool false), none, [], []⟩]) (innkeepref14_Less.c0)⟩
def innkeepref14_Sort.c12 : Cd := .tidy [7, 8, 9] [] [] none
def innkeepref14_Sort.c13 : Cd := .skip
def innkeepref14_Sort.c27 : Cd := .exit 2
def innkeepref14_Sort.c11 : Cd := .cond (.t 10) (.seq (.tidy [10] [] [] none) (innkeepref14_Sort.c13)) (.seq (.tidy [10] [] [] none) (innkeepref14_Sort.c27))
def innkeepref14_Sort.c17 : Cd := .tidy [13, 14, 15, 16, 17, 18, 19, 20, 21, 22, 23, 24, 25, 26, 27, 28] [] [] none
def innkeepref14_Sort.c18 : Cd := .exit 3
def innkeepref14_Sort.c20 : Cd := .skip
def innkeepref14_Sort.c16 : Cd := .cond (.t 29) (.seq (.tidy [29] [] [] none) (innkeepref14_Sort.c18)) (.seq (.tidy [29] [] [] none) (innkeepref14_Sort.c20))
def innkeepref14_Sort.c22 : Cd := .tidy [30, 31, 32, 33, 34, 35, 36, 37, 38] [] [] none
def innkeepref14_Sort.c25 : Cd := .tidy [40, 41, 42, 43] [] [] none
def innkeepref14_Sort.c24 : Cd := .seq (.reg false [⟨some 40, .move (.t 0), none, [], []⟩,
    ⟨some 41, .move (.t 6), none, [], []⟩,
    ⟨some 42, .index (.sl tKey) (.t 40) (.t 41), none, [], []⟩,
    ⟨some 43, .load (.d tKey) (.t 42), none, [], []⟩,
    ⟨none, .store (.d tKey) (.t 5) (.t 43), none, [], []⟩]) (innkeepref14_Sort.c25)
def innkeepref14_Sort.c23 : Cd := .seq (.reg false [⟨some 4, .move (.c .bool true), none, [], []⟩]) (innkeepref14_Sort.c24)
def innkeepref14_Sort.c26 : Cd := .skip
def innkeepref14_Sort.c21 : Cd := .cond (.t 39) (.seq (.tidy [39] [] [] none) (innkeepref14_Sort.c23)) (.seq (.tidy [39] [] [] none) (innkeepref14_Sort.c26))
def innkeepref14_Sort.c15 : Cd := .seq (.seq (.reg true [⟨some 30, .move (.t 4), none, [], []⟩,
    ⟨some 31, .not (.t 30), none, [], []⟩,
    ⟨some 32, .move (.t 31), none, [], []⟩,
    ⟨some 33, .move (.t 0), some (32, false), [], []⟩,
    ⟨some 34, .move (.t 6), some (32, false), [], []⟩,
    ⟨some 35, .index (.sl tKey) (.t 33) (.t 34), some (32, false), [], []⟩,
    ⟨some 36, .load (.d tKey) (.t 35), some (32, false), [], []⟩,
    ⟨some 37, .load (.d tKey) (.t 5), some (32, false), [0], []⟩,
    ⟨some 38, .call (.f 10) [(.t 36), (.t 37)] [.d .bool] [] false, some (32, false), [], []⟩,
    ⟨some 39, .pick (.t 32) (.c .bool true) (.t 38), none, [], []⟩]) (innkeepref14_Sort.c22)) (innkeepref14_Sort.c21)
def innkeepref14_Sort.c19 : Cd := .tidy [11, 12] [] [] none
def innkeepref14_Sort.c14 : Cd := .seq (.reg false [⟨some 11, .move (.t 6), none, [], []⟩,
    ⟨some 12, .bin .add (.t 11) (.c (.int .i64) (1 : Int)), none, [], []⟩,
    ⟨some 6, .move (.t 12), none, [], []⟩]) (innkeepref14_Sort.c19)
def innkeepref14_Sort.c10 : Cd := .seq (.block 3 (.seq (.seq (.seq (.reg true [⟨some 13, .move (.t 3), none, [], []⟩,
    ⟨some 14, .len (.t 13), none, [3], []⟩,
    ⟨some 15, .bin .gtr (.t 14) (.c (.int .i64) (0 : Int)), none, [], []⟩,
    ⟨some 16, .move (.t 15), none, [], []⟩,
    ⟨some 17, .move (.t 3), some (16, true), [], []⟩,
    ⟨some 18, .move (.t 3), some (16, true), [], []⟩,
    ⟨some 19, .len (.t 18), some (16, true), [3], []⟩,
    ⟨some 20, .bin .sub (.t 19) (.c (.int .i64) (1 : Int)), some (16, true), [], []⟩,
    ⟨some 21, .index (.sl tKey) (.t 17) (.t 20), some (16, true), [3], []⟩,
    ⟨some 22, .load (.d tKey) (.t 21), some (16, true), [3], []⟩,
    ⟨some 23, .move (.t 0), some (16, true), [], []⟩,
    ⟨some 24, .move (.t 6), some (16, true), [], []⟩,
    ⟨some 25, .index (.sl tKey) (.t 23) (.t 24), some (16, true), [], []⟩,
    ⟨some 26, .load (.d tKey) (.t 25), some (16, true), [], []⟩,
    ⟨some 27, .call (.f 10) [(.t 22), (.t 26)] [.d .bool] [] false, some (16, true), [], []⟩,
    ⟨some 28, .not (.t 27), some (16, true), [], []⟩,
    ⟨some 29, .pick (.t 16) (.t 28) (.c .bool false), none, [], []⟩]) (innkeepref14_Sort.c17)) (innkeepref14_Sort.c16)) (innkeepref14_Sort.c15))) (innkeepref14_Sort.c14)
def innkeepref14_Sort.c9 : Cd := .tidy [] [] [] (some 4)
def innkeepref14_Sort.c8 : Cd := .seq (.seq (.seq (.seq (.reg false [⟨some 7, .move (.t 6), none, [], []⟩,
    ⟨some 8, .move (.t 0), none, [], []⟩,
    ⟨some 9, .len (.t 8), none, [], []⟩,
    ⟨some 10, .bin .lss (.t 7) (.t 9), none, [], []⟩]) (innkeepref14_Sort.c12)) (innkeepref14_Sort.c11)) (innkeepref14_Sort.c10)) (innkeepref14_Sort.c9)
def innkeepref14_Sort.c7 : Cd := .block 2 (.loop (innkeepref14_Sort.c8))
def innkeepref14_Sort.c30 : Cd := .tidy [44] [] [] none
def innkeepref14_Sort.c33 : Cd := .tidy [46] [] [] none
def innkeepref14_Sort.c32 : Cd := .ret
def innkeepref14_Sort.c31 : Cd := .seq (.seq (.reg false [⟨some 46, .move (.t 3), none, [], []⟩,
    ⟨some 2, .move (.t 46), none, [], []⟩]) (innkeepref14_Sort.c33)) (innkeepref14_Sort.c32)
def innkeepref14_Sort.c34 : Cd := .skip
def innkeepref14_Sort.c29 : Cd := .cond (.t 45) (.seq (.tidy [45] [] [] none) (innkeepref14_Sort.c31)) (.seq (.tidy [45] [] [] none) (innkeepref14_Sort.c34))
def innkeepref14_Sort.c35 : Cd := .tidy [47, 48, 49, 50] [] [] none
def innkeepref14_Sort.c28 : Cd := .seq (.reg false [⟨some 47, .move (.t 3), none, [], []⟩,
    ⟨some 48, .load (.d tKey) (.t 5), none, [], []⟩,
    ⟨some 49, .slice 1 tKey [(.t 48)], none, [], []⟩,
    ⟨some 50, .append 2 tKey (.t 47) (.t 49), none, [], []⟩,
    ⟨some 3, .move (.t 50), none, [], []⟩]) (innkeepref14_Sort.c35)
def innkeepref14_Sort.c6 : Cd := .seq (.seq (.seq (.reg false [⟨some 44, .move (.t 4), none, [], []⟩,
    ⟨some 45, .not (.t 44), none, [], []⟩]) (innkeepref14_Sort.c30)) (innkeepref14_Sort.c29)) (innkeepref14_Sort.c28)
def innkeepref14_Sort.c5 : Cd := .seq (.seq (.reg false [⟨some 6, .move (.c (.int .i64) (0 : Int)), none, [], []⟩]) (innkeepref14_Sort.c7)) (innkeepref14_Sort.c6)
def innkeepref14_Sort.c4 : Cd := .seq (.reg false [⟨some 5, .newbox 0 tKey [], none, [], []⟩]) (innkeepref14_Sort.c5)
def innkeepref14_Sort.c3 : Cd := .tidy [4, 5, 6] [(2, 3)] [0, 1] (some 4)
def innkeepref14_Sort.c2 : Cd := .seq (.block 1 (.seq (.reg false [⟨some 4, .move (.c .bool false), none, [], []⟩]) (innkeepref14_Sort.c4))) (innkeepref14_Sort.c3)
def innkeepref14_Sort.c1 : Cd := .block 0 (.loop (innkeepref14_Sort.c2))
def innkeepref14_Sort.c0 : Cd := .seq (.reg false [⟨some 3, .mknil 3 tKey, none, [], []⟩]) (innkeepref14_Sort.c1)
def innkeepref14_Sort.fn : Fn := ⟨1, [.tmp 2], .seq (.reg false [⟨some 2, .move (.c (.sl tKey) []), none, [], []⟩]) (innkeepref14_Sort.c0)⟩
def innkeeplaw14_KeysSort.c3 : Cd := .tidy [7, 8, 9, 10, 11, 12] [] [] none
def innkeeplaw14_KeysSort.c6 : Cd := .tidy [14] [] [] none
def innkeeplaw14_KeysSort.c5 : Cd := .ret
def innkeeplaw14_KeysSort.c4 : Cd := .seq (.seq (.reg false [⟨some 14, .call (.f 8) [] [.d .bool] [] false, none, [], []⟩,
    ⟨some 6, .move (.t 14), none, [], []⟩]) (innkeeplaw14_KeysSort.c6)) (innkeeplaw14_KeysSort.c5)
def innkeeplaw14_KeysSort.c7 : Cd := .skip
def innkeeplaw14_KeysSort.c2 : Cd := .cond (.t 13) (.seq (.tidy [13] [] [] none) (innkeeplaw14_KeysSort.c4)) (.seq (.tidy [13] [] [] none) (innkeeplaw14_KeysSort.c7))
def innkeeplaw14_KeysSort.c9 : Cd := .tidy [15, 16, 17, 18, 19, 20, 21, 22, 23, 24, 25, 26, 27, 28] [] [] none
def innkeeplaw14_KeysSort.c8 : Cd := .ret
def innkeeplaw14_KeysSort.c1 : Cd := .seq (.seq (.reg true [⟨some 15, .load (.d tKey) (.t 4), none, [0], []⟩,
    ⟨some 16, .load (.d tKey) (.t 5), none, [1], []⟩,
    ⟨some 17, .call (.f 9) [(.t 15), (.t 16)] [.d .bool] [] false, none, [], []⟩,
    ⟨some 18, .load (.d tKey) (.t 4), none, [0], []⟩,
    ⟨some 19, .load (.d tKey) (.t 5), none, [1], []⟩,
    ⟨some 20, .call (.f 10) [(.t 18), (.t 19)] [.d .bool] [] false, none, [], []⟩,
    ⟨some 21, .eqs .bool false (.t 17) (.t 20), none, [], []⟩,
    ⟨some 22, .move (.t 21), none, [], []⟩,
    ⟨some 23, .move (.t 0), some (22, true), [], []⟩,
    ⟨some 24, .call (.f 12) [(.t 23)] [.d (.sl tKey)] [] false, some (22, true), [], []⟩,
    ⟨some 25, .move (.t 0), some (22, true), [], []⟩,
    ⟨some 26, .call (.f 13) [(.t 25)] [.d (.sl tKey)] [] false, some (22, true), [], []⟩,
    ⟨some 27, .call (.f 11) [(.t 24), (.t 26)] [.d .bool] [] false, some (22, true), [], []⟩,
    ⟨some 28, .pick (.t 22) (.t 27) (.c .bool false), none, [], []⟩,
    ⟨some 6, .move (.t 28), none, [], []⟩]) (innkeeplaw14_KeysSort.c9)) (innkeeplaw14_KeysSort.c8)
def innkeeplaw14_KeysSort.c0 : Cd := .seq (.seq (.seq (.reg false [⟨some 7, .call (.f 8) [] [.d .bool] [] false, none, [], []⟩,
    ⟨some 8, .not (.t 7), none, [], []⟩,
    ⟨some 9, .move (.t 8), none, [], []⟩,
    ⟨some 10, .move (.t 0), some (9, false), [], []⟩,
    ⟨some 11, .len (.t 10), some (9, false), [], []⟩,
    ⟨some 12, .bin .gtr (.t 11) (.c (.int .i64) (60 : Int)), some (9, false), [], []⟩,
    ⟨some 13, .pick (.t 9) (.c .bool true) (.t 12), none, [], []⟩]) (innkeeplaw14_KeysSort.c3)) (innkeeplaw14_KeysSort.c2)) (innkeeplaw14_KeysSort.c1)
def innkeeplaw14_KeysSort.fn : Fn := ⟨3, [.tmp 6], .seq (.reg false [⟨some 4, .box 0 (.t 1), none, [], []⟩,
    ⟨some 5, .box 1 (.t 2), none, [], []⟩,
    ⟨some 6, .move (.c .bool false), none, [], []⟩]) (innkeeplaw14_KeysSort.c0)⟩
def innkeepref06_Few.c2 : Cd := .tidy [4, 5] [] [] none
def innkeepref06_Few.c4 : Cd := .tidy [6, 7, 8, 9, 10, 11, 12, 13, 14, 15, 16, 17, 18, 19, 20, 21, 22, 23, 24, 25, 26, 27, 28, 29, 30, 31, 32, 33, 34, 35, 36, 37, 38, 39, 40, 41, 42, 43, 44, 45, 46, 47, 48, 49, 50, 51] [] [] none
def innkeepref06_Few.c3 : Cd := .ret
def innkeepref06_Few.c1 : Cd := .seq (.seq (.reg false [⟨some 6, .fieldAddr (.d tDesc) 0 (.t 3), none, [], []⟩,
    ⟨some 7, .load (.d (.sl (.arr 4 (.int .i64)))) (.t 6), none, [], []⟩,
    ⟨some 8, .len (.t 7), none, [], []⟩,
    ⟨some 9, .bin .leq (.t 8) (.c (.int .i64) (20 : Int)), none, [], []⟩,
    ⟨some 10, .move (.t 9), none, [], []⟩,
    ⟨some 11, .fieldAddr (.d tDesc) 1 (.t 3), some (10, true), [], []⟩,
    ⟨some 12, .load (.d (.sl (.int .i64))) (.t 11), some (10, true), [], []⟩,
    ⟨some 13, .len (.t 12), some (10, true), [], []⟩,
    ⟨some 14, .bin .leq (.t 13) (.c (.int .i64) (20 : Int)), some (10, true), [], []⟩,
    ⟨some 15, .pick (.t 10) (.t 14) (.c .bool false), none, [], []⟩,
    ⟨some 16, .move (.t 15), none, [], []⟩,
    ⟨some 17, .fieldAddr (.d tDesc) 2 (.t 3), some (16, true), [], []⟩,
    ⟨some 18, .load (.d (.sl (.int .i64))) (.t 17), some (16, true), [], []⟩,
    ⟨some 19, .len (.t 18), some (16, true), [], []⟩,
    ⟨some 20, .bin .leq (.t 19) (.c (.int .i64) (20 : Int)), some (16, true), [], []⟩,
    ⟨some 21, .pick (.t 16) (.t 20) (.c .bool false), none, [], []⟩,
    ⟨some 22, .move (.t 21), none, [], []⟩,
    ⟨some 23, .fieldAddr (.d tDesc) 3 (.t 3), some (22, true), [], []⟩,
    ⟨some 24, .load (.d (.sl (.int .i64))) (.t 23), some (22, true), [], []⟩,
    ⟨some 25, .len (.t 24), some (22, true), [], []⟩,
    ⟨some 26, .bin .leq (.t 25) (.c (.int .i64) (40 : Int)), some (22, true), [], []⟩,
    ⟨some 27, .pick (.t 22) (.t 26) (.c .bool false), none, [], []⟩,
    ⟨some 28, .move (.t 27), none, [], []⟩,
    ⟨some 29, .fieldAddr (.d tDesc) 4 (.t 3), some (28, true), [], []⟩,
    ⟨some 30, .load (.d (.sl .bool)) (.t 29), some (28, true), [], []⟩,
    ⟨some 31, .len (.t 30), some (28, true), [], []⟩,
    ⟨some 32, .bin .leq (.t 31) (.c (.int .i64) (40 : Int)), some (28, true), [], []⟩,
    ⟨some 33, .pick (.t 28) (.t 32) (.c .bool false), none, [], []⟩,
    ⟨some 34, .move (.t 33), none, [], []⟩,
    ⟨some 35, .fieldAddr (.d tWorld) 1 (.t 1), some (34, true), [], []⟩,
    ⟨some 36, .load (.d (.sl (.int .i64))) (.t 35), some (34, true), [], []⟩,
    ⟨some 37, .len (.t 36), some (34, true), [], []⟩,
    ⟨some 38, .bin .leq (.t 37) (.c (.int .i64) (40 : Int)), some (34, true), [], []⟩,
    ⟨some 39, .pick (.t 34) (.t 38) (.c .bool false), none, [], []⟩,
    ⟨some 40, .move (.t 39), none, [], []⟩,
    ⟨some 41, .fieldAddr (.d tWorld) 2 (.t 1), some (40, true), [], []⟩,
    ⟨some 42, .load (.d (.sl (.int .i64))) (.t 41), some (40, true), [], []⟩,
    ⟨some 43, .len (.t 42), some (40, true), [], []⟩,
    ⟨some 44, .bin .leq (.t 43) (.c (.int .i64) (40 : Int)), some (40, true), [], []⟩,
    ⟨some 45, .pick (.t 40) (.t 44) (.c .bool false), none, [], []⟩,
    ⟨some 46, .move (.t 45), none, [], []⟩,
    ⟨some 47, .fieldAddr (.d tWorld) 3 (.t 1), some (46, true), [], []⟩,
    ⟨some 48, .load (.d (.sl tKey)) (.t 47), some (46, true), [], []⟩,
    ⟨some 49, .len (.t 48), some (46, true), [], []⟩,
    ⟨some 50, .bin .leq (.t 49) (.c (.int .i64) (40 : Int)), some (46, true), [], []⟩,
    ⟨some 51, .pick (.t 46) (.t 50) (.c .bool false), none, [], []⟩,
    ⟨some 2, .move (.t 51), none, [], []⟩]) (innkeepref06_Few.c4)) (innkeepref06_Few.c3)
def innkeepref06_Few.c0 : Cd := .seq (.seq (.reg false [⟨some 4, .fieldAddr (.d tWorld) 0 (.t 1), none, [], []⟩,
    ⟨some 5, .load (.d tDesc) (.t 4), none, [], []⟩,
    ⟨some 3, .newbox 1 tDesc [], none, [], []⟩,
    ⟨none, .store (.d tDesc) (.t 3) (.t 5), none, [], []⟩]) (innkeepref06_Few.c2)) (innkeepref06_Few.c1)
def innkeepref06_Few.fn : Fn := ⟨1, [.tmp 2], .seq (.reg false [⟨some 1, .box 0 (.t 0), none, [], []⟩,
    ⟨some 2, .move (.c .bool false), none, [], []⟩]) (innkeepref06_Few.c0)⟩
def innkeepref14_Place.c3 : Cd := .tidy [5, 6, 7, 8, 9, 10, 11, 12, 13, 14, 15, 16, 17, 18, 19] [] [] none
def innkeepref14_Place.c6 : Cd := .tidy [21, 22] [] [] none
def innkeepref14_Place.c5 : Cd := .ret
def innkeepref14_Place.c4 : Cd := .seq (.seq (.reg false [⟨some 21, .fieldAddr (.d tKey) 1 (.t 3), none, [], []⟩,
    ⟨some 22, .load (.d (.int .i64)) (.t 21), none, [], []⟩,
    ⟨some 4, .move (.t 22), none, [], []⟩]) (innkeepref14_Place.c6)) (innkeepref14_Place.c5)
def innkeepref14_Place.c7 : Cd := .skip
def innkeepref14_Place.c2 : Cd := .cond (.t 20) (.seq (.tidy [20] [] [] none) (innkeepref14_Place.c4)) (.seq (.tidy [20] [] [] none) (innkeepref14_Place.c7))
def innkeepref14_Place.c10 : Cd := .tidy [23, 24, 25, 26, 27, 28, 29, 30, 31, 32, 33, 34, 35, 36, 37] [] [] none
def innkeepref14_Place.c13 : Cd := .tidy [39, 40, 41, 42, 43, 44] [] [] none
def innkeepref14_Place.c12 : Cd := .ret
def innkeepref14_Place.c11 : Cd := .seq (.seq (.reg false [⟨some 39, .fieldAddr (.d tDesc) 0 (.t 2), none, [], []⟩,
    ⟨some 40, .load (.d (.sl (.arr 4 (.int .i64)))) (.t 39), none, [], []⟩,
    ⟨some 41, .len (.t 40), none, [], []⟩,
    ⟨some 42, .fieldAddr (.d tKey) 1 (.t 3), none, [], []⟩,
    ⟨some 43, .load (.d (.int .i64)) (.t 42), none, [], []⟩,
    ⟨some 44, .bin .add (.t 41) (.t 43), none, [], []⟩,
    ⟨some 4, .move (.t 44), none, [], []⟩]) (innkeepref14_Place.c13)) (innkeepref14_Place.c12)
def innkeepref14_Place.c14 : Cd := .skip
def innkeepref14_Place.c9 : Cd := .cond (.t 38) (.seq (.tidy [38] [] [] none) (innkeepref14_Place.c11)) (.seq (.tidy [38] [] [] none) (innkeepref14_Place.c14))
def innkeepref14_Place.c15 : Cd := .ret
def innkeepref14_Place.c8 : Cd := .seq (.reg false [⟨some 4, .move (.c (.int .i64) ((-1) : Int)), none, [], []⟩]) (innkeepref14_Place.c15)
def innkeepref14_Place.c1 : Cd := .seq (.seq (.seq (.reg false [⟨some 23, .fieldAddr (.d tKey) 0 (.t 3), none, [], []⟩,
    ⟨some 24, .load (.d (.int .i64)) (.t 23), none, [], []⟩,
    ⟨some 25, .bin .eql (.t 24) (.c (.int .i64) (1 : Int)), none, [], []⟩,
    ⟨some 26, .move (.t 25), none, [], []⟩,
    ⟨some 27, .fieldAddr (.d tKey) 1 (.t 3), some (26, true), [], []⟩,
    ⟨some 28, .load (.d (.int .i64)) (.t 27), some (26, true), [], []⟩,
    ⟨some 29, .bin .geq (.t 28) (.c (.int .i64) (0 : Int)), some (26, true), [], []⟩,
    ⟨some 30, .pick (.t 26) (.t 29) (.c .bool false), none, [], []⟩,
    ⟨some 31, .move (.t 30), none, [], []⟩,
    ⟨some 32, .fieldAddr (.d tKey) 1 (.t 3), some (31, true), [], []⟩,
    ⟨some 33, .load (.d (.int .i64)) (.t 32), some (31, true), [], []⟩,
    ⟨some 34, .fieldAddr (.d tDesc) 1 (.t 2), some (31, true), [], []⟩,
    ⟨some 35, .load (.d (.sl (.int .i64))) (.t 34), some (31, true), [], []⟩,
    ⟨some 36, .len (.t 35), some (31, true), [], []⟩,
    ⟨some 37, .bin .lss (.t 33) (.t 36), some (31, true), [], []⟩,
    ⟨some 38, .pick (.t 31) (.t 37) (.c .bool false), none, [], []⟩]) (innkeepref14_Place.c10)) (innkeepref14_Place.c9)) (innkeepref14_Place.c8)
def innkeepref14_Place.c0 : Cd := .seq (.seq (.seq (.reg false [⟨some 5, .fieldAddr (.d tKey) 0 (.t 3), none, [], []⟩,
    ⟨some 6, .load (.d (.int .i64)) (.t 5), none, [], []⟩,
    ⟨some 7, .bin .eql (.t 6) (.c (.int .i64) (0 : Int)), none, [], []⟩,
    ⟨some 8, .move (.t 7), none, [], []⟩,
    ⟨some 9, .fieldAddr (.d tKey) 1 (.t 3), some (8, true), [], []⟩,
    ⟨some 10, .load (.d (.int .i64)) (.t 9), some (8, true), [], []⟩,
    ⟨some 11, .bin .geq (.t 10) (.c (.int .i64) (0 : Int)), some (8, true), [], []⟩,
    ⟨some 12, .pick (.t 8) (.t 11) (.c .bool false), none, [], []⟩,
    ⟨some 13, .move (.t 12), none, [], []⟩,
    ⟨some 14, .fieldAddr (.d tKey) 1 (.t 3), some (13, true), [], []⟩,
    ⟨some 15, .load (.d (.int .i64)) (.t 14), some (13, true), [], []⟩,
    ⟨some 16, .fieldAddr (.d tDesc) 0 (.t 2), some (13, true), [], []⟩,
    ⟨some 17, .load (.d (.sl (.arr 4 (.int .i64)))) (.t 16), some (13, true), [], []⟩,
    ⟨some 18, .len (.t 17), some (13, true), [], []⟩,
    ⟨some 19, .bin .lss (.t 15) (.t 18), some (13, true), [], []⟩,
    ⟨some 20, .pick (.t 13) (.t 19) (.c .bool false), none, [], []⟩]) (innkeepref14_Place.c3)) (innkeepref14_Place.c2)) (innkeepref14_Place.c1)
def innkeepref14_Place.fn : Fn := ⟨2, [.tmp 4], .seq (.reg false [⟨some 2, .box 0 (.t 0), none, [], []⟩,
    ⟨some 3, .box 1 (.t 1), none, [], []⟩,
    ⟨some 4, .move (.c (.int .i64) (0 : Int)), none, [], []⟩]) (innkeepref14_Place.c0)⟩
def innkeeplaw14_KeysPlace.c3 : Cd := .tidy [12, 13, 14, 15, 16, 17, 18] [] [] none
def innkeeplaw14_KeysPlace.c6 : Cd := .tidy [20] [] [] none
def innkeeplaw14_KeysPlace.c5 : Cd := .ret
def innkeeplaw14_KeysPlace.c4 : Cd := .seq (.seq (.reg false [⟨some 20, .call (.f 8) [] [.d .bool] [] false, none, [], []⟩,
    ⟨some 6, .move (.t 20), none, [], []⟩]) (innkeeplaw14_KeysPlace.c6)) (innkeeplaw14_KeysPlace.c5)
def innkeeplaw14_KeysPlace.c7 : Cd := .skip
def innkeeplaw14_KeysPlace.c2 : Cd := .cond (.t 19) (.seq (.tidy [19] [] [] none) (innkeeplaw14_KeysPlace.c4)) (.seq (.tidy [19] [] [] none) (innkeeplaw14_KeysPlace.c7))
def innkeeplaw14_KeysPlace.c9 : Cd := .tidy [21, 22, 23] [] [] none
def innkeeplaw14_KeysPlace.c11 : Cd := .tidy [24, 25, 26, 27, 28, 29] [] [] none
def innkeeplaw14_KeysPlace.c14 : Cd := .tidy [30, 31, 32, 33, 34, 35, 36, 37, 38, 39, 40, 41, 42, 43, 44, 45, 46, 47, 48, 49, 50, 51, 52, 53, 54, 55, 56, 57, 58, 59, 60, 61, 62, 63, 64, 65, 66, 67, 68, 69, 70, 71, 72, 73, 74, 75, 76, 77, 78, 79, 80, 81] [] [] none
def innkeeplaw14_KeysPlace.c16 : Cd := .ret
def innkeeplaw14_KeysPlace.c15 : Cd := .seq (.reg false [⟨some 6, .move (.c .bool false), none, [], []⟩]) (innkeeplaw14_KeysPlace.c16)
def innkeeplaw14_KeysPlace.c17 : Cd := .skip
def innkeeplaw14_KeysPlace.c13 : Cd := .cond (.t 82) (.seq (.tidy [82] [] [] none) (innkeeplaw14_KeysPlace.c15)) (.seq (.tidy [82] [] [] none) (innkeeplaw14_KeysPlace.c17))
def innkeeplaw14_KeysPlace.c19 : Cd := .tidy [83, 84, 85, 86, 87, 88] [] [] none
def innkeeplaw14_KeysPlace.c21 : Cd := .tidy [89, 90, 91, 92, 93, 94, 95, 96, 97, 98, 99, 100, 101] [] [] none
def innkeeplaw14_KeysPlace.c20 : Cd := .ret
def innkeeplaw14_KeysPlace.c18 : Cd := .seq (.seq (.reg false [⟨some 89, .move (.t 11), none, [], []⟩,
    ⟨some 90, .move (.t 7), none, [], []⟩,
    ⟨some 91, .bin .geq (.t 90) (.c (.int .i64) (0 : Int)), none, [], []⟩,
    ⟨some 92, .eqs .bool false (.t 89) (.t 91), none, [], []⟩,
    ⟨some 93, .move (.t 92), none, [], []⟩,
    ⟨some 94, .move (.t 11), some (93, true), [], []⟩,
    ⟨some 95, .not (.t 94), some (93, true), [], []⟩,
    ⟨some 96, .move (.t 95), some (93, true), [], []⟩,
    ⟨some 97, .load (.d tKey) (.t 10), some (96, false), [], []⟩,
    ⟨some 98, .load (.d tKey) (.t 4), some (96, false), [], []⟩,
    ⟨some 99, .eqs tKey false (.t 97) (.t 98), some (96, false), [], []⟩,
    ⟨some 100, .pick (.t 96) (.c .bool true) (.t 99), some (93, true), [], []⟩,
    ⟨some 101, .pick (.t 93) (.t 100) (.c .bool false), none, [], []⟩,
    ⟨some 6, .move (.t 101), none, [], []⟩]) (innkeeplaw14_KeysPlace.c21)) (innkeeplaw14_KeysPlace.c20)
def innkeeplaw14_KeysPlace.c12 : Cd := .seq (.seq (.reg false [⟨some 84, .load (.d tDesc) (.t 3), none, [], []⟩,
    ⟨some 85, .move (.t 7), none, [], []⟩,
    ⟨some 86, .call (.f 16) [(.t 84), (.t 85)] [.d tKey, .d .bool] [] false, none, [], []⟩,
    ⟨some 83, .move (.t 86), none, [], []⟩,
    ⟨some 87, .extract (.t 83) 0, none, [], []⟩,
    ⟨some 88, .extract (.t 83) 1, none, [], []⟩,
    ⟨some 10, .newbox 3 tKey [], none, [], []⟩,
    ⟨none, .store (.d tKey) (.t 10) (.t 87), none, [], []⟩,
    ⟨some 11, .move (.t 88), none, [], []⟩]) (innkeeplaw14_KeysPlace.c19)) (innkeeplaw14_KeysPlace.c18)
def innkeeplaw14_KeysPlace.c10 : Cd := .seq (.seq (.seq (.reg true [⟨some 30, .move (.t 7), none, [], []⟩,
    ⟨some 31, .load (.d tDesc) (.t 3), none, [0], []⟩,
    ⟨some 32, .load (.d tKey) (.t 4), none, [1], []⟩,
    ⟨some 33, .call (.f 17) [(.t 31), (.t 32)] [.d (.int .i64)] [] false, none, [], []⟩,
    ⟨some 34, .bin .neq (.t 30) (.t 33), none, [], []⟩,
    ⟨some 35, .move (.t 34), none, [], []⟩,
    ⟨some 36, .load (.d tDesc) (.t 3), some (35, false), [0], []⟩,
    ⟨some 37, .call (.f 18) [(.t 36)] [.d (.int .i64)] [] false, some (35, false), [], []⟩,
    ⟨some 38, .fieldAddr (.d tDesc) 0 (.t 3), some (35, false), [0], []⟩,
    ⟨some 39, .load (.d (.sl (.arr 4 (.int .i64)))) (.t 38), some (35, false), [0], []⟩,
    ⟨some 40, .len (.t 39), some (35, false), [], []⟩,
    ⟨some 41, .fieldAddr (.d tDesc) 1 (.t 3), some (35, false), [0], []⟩,
    ⟨some 42, .load (.d (.sl (.int .i64))) (.t 41), some (35, false), [0], []⟩,
    ⟨some 43, .len (.t 42), some (35, false), [], []⟩,
    ⟨some 44, .bin .add (.t 40) (.t 43), some (35, false), [], []⟩,
    ⟨some 45, .bin .neq (.t 37) (.t 44), some (35, false), [], []⟩,
    ⟨some 46, .pick (.t 35) (.c .bool true) (.t 45), none, [], []⟩,
    ⟨some 47, .move (.t 46), none, [], []⟩,
    ⟨some 48, .move (.t 9), some (47, false), [], []⟩,
    ⟨some 49, .move (.t 2), some (47, false), [], []⟩,
    ⟨some 50, .bin .geq (.t 49) (.c (.int .i64) (0 : Int)), some (47, false), [], []⟩,
    ⟨some 51, .move (.t 50), some (47, false), [], []⟩,
    ⟨some 52, .move (.t 2), some (51, true), [], []⟩,
    ⟨some 53, .fieldAddr (.d tDesc) 0 (.t 3), some (51, true), [0], []⟩,
    ⟨some 54, .load (.d (.sl (.arr 4 (.int .i64)))) (.t 53), some (51, true), [0], []⟩,
    ⟨some 55, .len (.t 54), some (51, true), [], []⟩,
    ⟨some 56, .fieldAddr (.d tDesc) 1 (.t 3), some (51, true), [0], []⟩,
    ⟨some 57, .load (.d (.sl (.int .i64))) (.t 56), some (51, true), [0], []⟩,
    ⟨some 58, .len (.t 57), some (51, true), [], []⟩,
    ⟨some 59, .bin .add (.t 55) (.t 58), some (51, true), [], []⟩,
    ⟨some 60, .bin .lss (.t 52) (.t 59), some (51, true), [], []⟩,
    ⟨some 61, .pick (.t 51) (.t 60) (.c .bool false), some (47, false), [], []⟩,
    ⟨some 62, .eqs .bool true (.t 48) (.t 61), some (47, false), [], []⟩,
    ⟨some 63, .pick (.t 47) (.c .bool true) (.t 62), none, [], []⟩,
    ⟨some 64, .move (.t 63), none, [], []⟩,
    ⟨some 65, .move (.t 9), some (64, false), [], []⟩,
    ⟨some 66, .move (.t 65), some (64, false), [], []⟩,
    ⟨some 67, .load (.d tDesc) (.t 3), some (66, true), [0], []⟩,
    ⟨some 68, .load (.d tKey) (.t 8), some (66, true), [2], []⟩,
    ⟨some 69, .call (.f 17) [(.t 67), (.t 68)] [.d (.int .i64)] [] false, some (66, true), [], []⟩,
    ⟨some 70, .move (.t 2), some (66, true), [], []⟩,
    ⟨some 71, .bin .neq (.t 69) (.t 70), some (66, true), [], []⟩,
    ⟨some 72, .pick (.t 66) (.t 71) (.c .bool false), some (64, false), [], []⟩,
    ⟨some 73, .pick (.t 64) (.c .bool true) (.t 72), none, [], []⟩,
    ⟨some 74, .move (.t 73), none, [], []⟩,
    ⟨some 75, .move (.t 9), some (74, false), [], []⟩,
    ⟨some 76, .not (.t 75), some (74, false), [], []⟩,
    ⟨some 77, .move (.t 76), some (74, false), [], []⟩,
    ⟨some 78, .load (.d tKey) (.t 8), some (77, true), [2], []⟩,
    ⟨some 79, .build tKey [] [], some (77, true), [], []⟩,
    ⟨some 80, .eqs tKey true (.t 78) (.t 79), some (77, true), [], []⟩,
    ⟨some 81, .pick (.t 77) (.t 80) (.c .bool false), some (74, false), [], []⟩,
    ⟨some 82, .pick (.t 74) (.c .bool true) (.t 81), none, [], []⟩]) (innkeeplaw14_KeysPlace.c14)) (innkeeplaw14_KeysPlace.c13)) (innkeeplaw14_KeysPlace.c12)
def innkeeplaw14_KeysPlace.c8 : Cd := .seq (.seq (.reg false [⟨some 25, .load (.d tDesc) (.t 3), none, [], []⟩,
    ⟨some 26, .move (.t 2), none, [], []⟩,
    ⟨some 27, .call (.f 16) [(.t 25), (.t 26)] [.d tKey, .d .bool] [] false, none, [], []⟩,
    ⟨some 24, .move (.t 27), none, [], []⟩,
    ⟨some 28, .extract (.t 24) 0, none, [], []⟩,
    ⟨some 29, .extract (.t 24) 1, none, [], []⟩,
    ⟨some 8, .newbox 2 tKey [], none, [], []⟩,
    ⟨none, .store (.d tKey) (.t 8) (.t 28), none, [], []⟩,
    ⟨some 9, .move (.t 29), none, [], []⟩]) (innkeeplaw14_KeysPlace.c11)) (innkeeplaw14_KeysPlace.c10)
def innkeeplaw14_KeysPlace.c1 : Cd := .seq (.seq (.reg false [⟨some 21, .load (.d tDesc) (.t 3), none, [], []⟩,
    ⟨some 22, .load (.d tKey) (.t 4), none, [], []⟩,
    ⟨some 23, .call (.f 15) [(.t 21), (.t 22)] [.d (.int .i64)] [] false, none, [], []⟩,
    ⟨some 7, .move (.t 23), none, [], []⟩]) (innkeeplaw14_KeysPlace.c9)) (innkeeplaw14_KeysPlace.c8)
def innkeeplaw14_KeysPlace.c0 : Cd := .seq (.seq (.seq (.reg false [⟨some 12, .call (.f 8) [] [.d .bool] [] false, none, [], []⟩,
    ⟨some 13, .not (.t 12), none, [], []⟩,
    ⟨some 14, .move (.t 13), none, [], []⟩,
    ⟨some 15, .load (.d tDesc) (.t 3), some (14, false), [], []⟩,
    ⟨some 16, .build tWorld [(0, (.t 15))] [], some (14, false), [], []⟩,
    ⟨some 17, .call (.f 14) [(.t 16)] [.d .bool] [] false, some (14, false), [], []⟩,
    ⟨some 18, .not (.t 17), some (14, false), [], []⟩,
    ⟨some 19, .pick (.t 14) (.c .bool true) (.t 18), none, [], []⟩]) (innkeeplaw14_KeysPlace.c3)) (innkeeplaw14_KeysPlace.c2)) (innkeeplaw14_KeysPlace.c1)
def innkeeplaw14_KeysPlace.fn : Fn := ⟨3, [.tmp 6], .seq (.reg false [⟨some 3, .box 0 (.t 0), none, [], []⟩,
    ⟨some 4, .box 1 (.t 1), none, [], []⟩,
    ⟨some 6, .move (.c .bool false), none, [], []⟩]) (innkeeplaw14_KeysPlace.c0)⟩
def innkeeplaw14_KeysOrder.c3 : Cd := .tidy [18, 19, 20, 21, 22, 23, 24, 25, 26, 27, 28, 29] [] [] none
def innkeeplaw14_KeysOrder.c6 : Cd := .tidy [31] [] [] none
def innkeeplaw14_KeysOrder.c5 : Cd := .ret
def innkeeplaw14_KeysOrder.c4 : Cd := .seq (.seq (.reg false [⟨some 31, .call (.f 8) [] [.d .bool] [] false, none, [], []⟩,
    ⟨some 6, .move (.t 31), none, [], []⟩]) (innkeeplaw14_KeysOrder.c6)) (innkeeplaw14_KeysOrder.c5)
def innkeeplaw14_KeysOrder.c7 : Cd := .skip
def innkeeplaw14_KeysOrder.c2 : Cd := .cond (.t 30) (.seq (.tidy [30] [] [] none) (innkeeplaw14_KeysOrder.c4)) (.seq (.tidy [30] [] [] none) (innkeeplaw14_KeysOrder.c7))
def innkeeplaw14_KeysOrder.c9 : Cd := .tidy [32, 33] [] [] none
def innkeeplaw14_KeysOrder.c16 : Cd := .tidy [34, 35, 36] [] [] none
def innkeeplaw14_KeysOrder.c17 : Cd := .skip
def innkeeplaw14_KeysOrder.c42 : Cd := .exit 0
def innkeeplaw14_KeysOrder.c15 : Cd := .cond (.t 37) (.seq (.tidy [37] [] [] none) (innkeeplaw14_KeysOrder.c17)) (.seq (.tidy [37] [] [] none) (innkeeplaw14_KeysOrder.c42))
def innkeeplaw14_KeysOrder.c26 : Cd := .tidy [40, 41, 42] [] [] none
def innkeeplaw14_KeysOrder.c27 : Cd := .skip
def innkeeplaw14_KeysOrder.c35 : Cd := .exit 2
def innkeeplaw14_KeysOrder.c25 : Cd := .cond (.t 43) (.seq (.tidy [43] [] [] none) (innkeeplaw14_KeysOrder.c27)) (.seq (.tidy [43] [] [] none) (innkeeplaw14_KeysOrder.c35))
def innkeeplaw14_KeysOrder.c30 : Cd := .tidy [46, 47, 48, 49, 50, 51, 52, 53] [] [] none
def innkeeplaw14_KeysOrder.c32 : Cd := .tidy [55, 56] [] [] none
def innkeeplaw14_KeysOrder.c31 : Cd := .seq (.reg false [⟨some 55, .move (.t 9), none, [], []⟩,
    ⟨some 56, .bin .add (.t 55) (.c (.int .i64) (1 : Int)), none, [], []⟩,
    ⟨some 9, .move (.t 56), none, [], []⟩]) (innkeeplaw14_KeysOrder.c32)
def innkeeplaw14_KeysOrder.c34 : Cd := .skip
def innkeeplaw14_KeysOrder.c29 : Cd := .cond (.t 54) (.seq (.tidy [54] [] [] none) (innkeeplaw14_KeysOrder.c31)) (.seq (.tidy [54] [] [] none) (innkeeplaw14_KeysOrder.c34))
def innkeeplaw14_KeysOrder.c33 : Cd := .tidy [44, 45] [] [] none
def innkeeplaw14_KeysOrder.c28 : Cd := .seq (.reg false [⟨some 44, .move (.t 10), none, [], []⟩,
    ⟨some 45, .bin .add (.t 44) (.c (.int .i64) (1 : Int)), none, [], []⟩,
    ⟨some 10, .move (.t 45), none, [], []⟩]) (innkeeplaw14_KeysOrder.c33)
def innkeeplaw14_KeysOrder.c24 : Cd := .seq (.block 3 (.seq (.seq (.reg true [⟨some 46, .move (.t 7), none, [], []⟩,
    ⟨some 47, .move (.t 10), none, [], []⟩,
    ⟨some 48, .index (.sl tKey) (.t 46) (.t 47), none, [], []⟩,
    ⟨some 49, .load (.d tKey) (.t 48), none, [], []⟩,
    ⟨some 50, .move (.t 1), none, [], []⟩,
    ⟨some 51, .move (.t 8), none, [], []⟩,
    ⟨some 52, .index (.sl tKey) (.t 50) (.t 51), none, [], []⟩,
    ⟨some 53, .load (.d tKey) (.t 52), none, [], []⟩,
    ⟨some 54, .eqs tKey false (.t 49) (.t 53), none, [], []⟩]) (innkeeplaw14_KeysOrder.c30)) (innkeeplaw14_KeysOrder.c29))) (innkeeplaw14_KeysOrder.c28)
def innkeeplaw14_KeysOrder.c23 : Cd := .tidy [] [] [] (some 1)
def innkeeplaw14_KeysOrder.c22 : Cd := .seq (.seq (.seq (.seq (.reg false [⟨some 40, .move (.t 10), none, [], []⟩,
    ⟨some 41, .move (.t 7), none, [], []⟩,
    ⟨some 42, .len (.t 41), none, [], []⟩,
    ⟨some 43, .bin .lss (.t 40) (.t 42), none, [], []⟩]) (innkeeplaw14_KeysOrder.c26)) (innkeeplaw14_KeysOrder.c25)) (innkeeplaw14_KeysOrder.c24)) (innkeeplaw14_KeysOrder.c23)
def innkeeplaw14_KeysOrder.c21 : Cd := .block 2 (.loop (innkeeplaw14_KeysOrder.c22))
def innkeeplaw14_KeysOrder.c37 : Cd := .tidy [57] [] [] none
def innkeeplaw14_KeysOrder.c39 : Cd := .ret
def innkeeplaw14_KeysOrder.c38 : Cd := .seq (.reg false [⟨some 6, .move (.c .bool false), none, [], []⟩]) (innkeeplaw14_KeysOrder.c39)
def innkeeplaw14_KeysOrder.c40 : Cd := .skip
def innkeeplaw14_KeysOrder.c36 : Cd := .cond (.t 58) (.seq (.tidy [58] [] [] none) (innkeeplaw14_KeysOrder.c38)) (.seq (.tidy [58] [] [] none) (innkeeplaw14_KeysOrder.c40))
def innkeeplaw14_KeysOrder.c20 : Cd := .seq (.seq (.reg false [⟨some 57, .move (.t 9), none, [], []⟩,
    ⟨some 58, .bin .neq (.t 57) (.c (.int .i64) (1 : Int)), none, [], []⟩]) (innkeeplaw14_KeysOrder.c37)) (innkeeplaw14_KeysOrder.c36)
def innkeeplaw14_KeysOrder.c19 : Cd := .seq (.seq (.reg false [⟨some 10, .move (.c (.int .i64) (0 : Int)), none, [], []⟩]) (innkeeplaw14_KeysOrder.c21)) (innkeeplaw14_KeysOrder.c20)
def innkeeplaw14_KeysOrder.c41 : Cd := .tidy [38, 39] [] [] none
def innkeeplaw14_KeysOrder.c18 : Cd := .seq (.reg false [⟨some 38, .move (.t 8), none, [], []⟩,
    ⟨some 39, .bin .add (.t 38) (.c (.int .i64) (1 : Int)), none, [], []⟩,
    ⟨some 8, .move (.t 39), none, [], []⟩]) (innkeeplaw14_KeysOrder.c41)
def innkeeplaw14_KeysOrder.c14 : Cd := .seq (.block 1 (.seq (.reg false [⟨some 9, .move (.c (.int .i64) (0 : Int)), none, [], []⟩]) (innkeeplaw14_KeysOrder.c19))) (innkeeplaw14_KeysOrder.c18)
def innkeeplaw14_KeysOrder.c13 : Cd := .tidy [9, 10] [] [] (some 1)
def innkeeplaw14_KeysOrder.c12 : Cd := .seq (.seq (.seq (.seq (.reg false [⟨some 34, .move (.t 8), none, [], []⟩,
    ⟨some 35, .move (.t 1), none, [], []⟩,
    ⟨some 36, .len (.t 35), none, [], []⟩,
    ⟨some 37, .bin .lss (.t 34) (.t 36), none, [], []⟩]) (innkeeplaw14_KeysOrder.c16)) (innkeeplaw14_KeysOrder.c15)) (innkeeplaw14_KeysOrder.c14)) (innkeeplaw14_KeysOrder.c13)
def innkeeplaw14_KeysOrder.c11 : Cd := .block 0 (.loop (innkeeplaw14_KeysOrder.c12))
def innkeeplaw14_KeysOrder.c50 : Cd := .tidy [59, 60, 61] [] [] none
def innkeeplaw14_KeysOrder.c51 : Cd := .skip
def innkeeplaw14_KeysOrder.c76 : Cd := .exit 4
def innkeeplaw14_KeysOrder.c49 : Cd := .cond (.t 62) (.seq (.tidy [62] [] [] none) (innkeeplaw14_KeysOrder.c51)) (.seq (.tidy [62] [] [] none) (innkeeplaw14_KeysOrder.c76))
def innkeeplaw14_KeysOrder.c60 : Cd := .tidy [65, 66, 67] [] [] none
def innkeeplaw14_KeysOrder.c61 : Cd := .skip
def innkeeplaw14_KeysOrder.c65 : Cd := .exit 6
def innkeeplaw14_KeysOrder.c59 : Cd := .cond (.t 68) (.seq (.tidy [68] [] [] none) (innkeeplaw14_KeysOrder.c61)) (.seq (.tidy [68] [] [] none) (innkeeplaw14_KeysOrder.c65))
def innkeeplaw14_KeysOrder.c63 : Cd := .tidy [71, 72, 73, 74, 75, 76, 77, 78, 79, 80, 81, 82] [] [] none
def innkeeplaw14_KeysOrder.c64 : Cd := .tidy [69, 70] [] [] none
def innkeeplaw14_KeysOrder.c62 : Cd := .seq (.reg false [⟨some 69, .move (.t 14), none, [], []⟩,
    ⟨some 70, .bin .add (.t 69) (.c (.int .i64) (1 : Int)), none, [], []⟩,
    ⟨some 14, .move (.t 70), none, [], []⟩]) (innkeeplaw14_KeysOrder.c64)
def innkeeplaw14_KeysOrder.c58 : Cd := .seq (.block 7 (.seq (.reg true [⟨some 71, .move (.t 13), none, [], []⟩,
    ⟨some 72, .move (.t 71), none, [], []⟩,
    ⟨some 73, .move (.t 1), some (72, false), [], []⟩,
    ⟨some 74, .move (.t 14), some (72, false), [], []⟩,
    ⟨some 75, .index (.sl tKey) (.t 73) (.t 74), some (72, false), [], []⟩,
    ⟨some 76, .load (.d tKey) (.t 75), some (72, false), [], []⟩,
    ⟨some 77, .move (.t 7), some (72, false), [], []⟩,
    ⟨some 78, .move (.t 12), some (72, false), [], []⟩,
    ⟨some 79, .index (.sl tKey) (.t 77) (.t 78), some (72, false), [], []⟩,
    ⟨some 80, .load (.d tKey) (.t 79), some (72, false), [], []⟩,
    ⟨some 81, .eqs tKey false (.t 76) (.t 80), some (72, false), [], []⟩,
    ⟨some 82, .pick (.t 72) (.c .bool true) (.t 81), none, [], []⟩,
    ⟨some 13, .move (.t 82), none, [], []⟩]) (innkeeplaw14_KeysOrder.c63))) (innkeeplaw14_KeysOrder.c62)
def innkeeplaw14_KeysOrder.c57 : Cd := .tidy [] [] [] (some 1)
def innkeeplaw14_KeysOrder.c56 : Cd := .seq (.seq (.seq (.seq (.reg false [⟨some 65, .move (.t 14), none, [], []⟩,
    ⟨some 66, .move (.t 1), none, [], []⟩,
    ⟨some 67, .len (.t 66), none, [], []⟩,
    ⟨some 68, .bin .lss (.t 65) (.t 67), none, [], []⟩]) (innkeeplaw14_KeysOrder.c60)) (innkeeplaw14_KeysOrder.c59)) (innkeeplaw14_KeysOrder.c58)) (innkeeplaw14_KeysOrder.c57)
def innkeeplaw14_KeysOrder.c55 : Cd := .block 6 (.loop (innkeeplaw14_KeysOrder.c56))
def innkeeplaw14_KeysOrder.c67 : Cd := .tidy [83, 84, 85, 86, 87, 88] [] [] none
def innkeeplaw14_KeysOrder.c70 : Cd := .tidy [89, 90, 91, 92, 93, 94, 95, 96, 97, 98, 99, 100, 101, 102, 103, 104, 105, 106, 107, 108, 109, 110, 111, 112, 113, 114, 115] [] [] none
def innkeeplaw14_KeysOrder.c72 : Cd := .ret
def innkeeplaw14_KeysOrder.c71 : Cd := .seq (.reg false [⟨some 6, .move (.c .bool false), none, [], []⟩]) (innkeeplaw14_KeysOrder.c72)
def innkeeplaw14_KeysOrder.c73 : Cd := .skip
def innkeeplaw14_KeysOrder.c69 : Cd := .cond (.t 116) (.seq (.tidy [116] [] [] none) (innkeeplaw14_KeysOrder.c71)) (.seq (.tidy [116] [] [] none) (innkeeplaw14_KeysOrder.c73))
def innkeeplaw14_KeysOrder.c74 : Cd := .tidy [117, 118, 119] [] [] none
def innkeeplaw14_KeysOrder.c68 : Cd := .seq (.reg false [⟨some 117, .move (.t 11), none, [], []⟩,
    ⟨some 118, .move (.t 15), none, [], []⟩,
    ⟨some 119, .max [(.t 117), (.t 118)], none, [], []⟩,
    ⟨some 11, .move (.t 119), none, [], []⟩]) (innkeeplaw14_KeysOrder.c74)
def innkeeplaw14_KeysOrder.c66 : Cd := .seq (.seq (.seq (.reg true [⟨some 89, .move (.t 13), none, [], []⟩,
    ⟨some 90, .not (.t 89), none, [], []⟩,
    ⟨some 91, .move (.t 90), none, [], []⟩,
    ⟨some 92, .move (.t 12), some (91, false), [], []⟩,
    ⟨some 93, .bin .gtr (.t 92) (.c (.int .i64) (0 : Int)), some (91, false), [], []⟩,
    ⟨some 94, .move (.t 93), some (91, false), [], []⟩,
    ⟨some 95, .move (.t 7), some (94, true), [], []⟩,
    ⟨some 96, .move (.t 12), some (94, true), [], []⟩,
    ⟨some 97, .bin .sub (.t 96) (.c (.int .i64) (1 : Int)), some (94, true), [], []⟩,
    ⟨some 98, .index (.sl tKey) (.t 95) (.t 97), some (94, true), [], []⟩,
    ⟨some 99, .load (.d tKey) (.t 98), some (94, true), [], []⟩,
    ⟨some 100, .move (.t 7), some (94, true), [], []⟩,
    ⟨some 101, .move (.t 12), some (94, true), [], []⟩,
    ⟨some 102, .index (.sl tKey) (.t 100) (.t 101), some (94, true), [], []⟩,
    ⟨some 103, .load (.d tKey) (.t 102), some (94, true), [], []⟩,
    ⟨some 104, .call (.f 9) [(.t 99), (.t 103)] [.d .bool] [] false, some (94, true), [], []⟩,
    ⟨some 105, .not (.t 104), some (94, true), [], []⟩,
    ⟨some 106, .pick (.t 94) (.t 105) (.c .bool false), some (91, false), [], []⟩,
    ⟨some 107, .pick (.t 91) (.c .bool true) (.t 106), none, [], []⟩,
    ⟨some 108, .move (.t 107), none, [], []⟩,
    ⟨some 109, .move (.t 15), some (108, false), [], []⟩,
    ⟨some 110, .bin .geq (.t 109) (.c (.int .i64) (0 : Int)), some (108, false), [], []⟩,
    ⟨some 111, .move (.t 110), some (108, false), [], []⟩,
    ⟨some 112, .move (.t 15), some (111, true), [], []⟩,
    ⟨some 113, .move (.t 11), some (111, true), [], []⟩,
    ⟨some 114, .bin .leq (.t 112) (.t 113), some (111, true), [], []⟩,
    ⟨some 115, .pick (.t 111) (.t 114) (.c .bool false), some (108, false), [], []⟩,
    ⟨some 116, .pick (.t 108) (.c .bool true) (.t 115), none, [], []⟩]) (innkeeplaw14_KeysOrder.c70)) (innkeeplaw14_KeysOrder.c69)) (innkeeplaw14_KeysOrder.c68)
def innkeeplaw14_KeysOrder.c54 : Cd := .seq (.seq (.reg true [⟨some 83, .load (.d tDesc) (.t 3), none, [0], []⟩,
    ⟨some 84, .move (.t 7), none, [], []⟩,
    ⟨some 85, .move (.t 12), none, [], []⟩,
    ⟨some 86, .index (.sl tKey) (.t 84) (.t 85), none, [], []⟩,
    ⟨some 87, .load (.d tKey) (.t 86), none, [], []⟩,
    ⟨some 88, .call (.f 15) [(.t 83), (.t 87)] [.d (.int .i64)] [] false, none, [], []⟩,
    ⟨some 15, .move (.t 88), none, [], []⟩]) (innkeeplaw14_KeysOrder.c67)) (innkeeplaw14_KeysOrder.c66)
def innkeeplaw14_KeysOrder.c53 : Cd := .seq (.seq (.reg false [⟨some 14, .move (.c (.int .i64) (0 : Int)), none, [], []⟩]) (innkeeplaw14_KeysOrder.c55)) (innkeeplaw14_KeysOrder.c54)
def innkeeplaw14_KeysOrder.c75 : Cd := .tidy [63, 64] [] [] none
def innkeeplaw14_KeysOrder.c52 : Cd := .seq (.reg false [⟨some 63, .move (.t 12), none, [], []⟩,
    ⟨some 64, .bin .add (.t 63) (.c (.int .i64) (1 : Int)), none, [], []⟩,
    ⟨some 12, .move (.t 64), none, [], []⟩]) (innkeeplaw14_KeysOrder.c75)
def innkeeplaw14_KeysOrder.c48 : Cd := .seq (.block 5 (.seq (.reg false [⟨some 13, .move (.c .bool false), none, [], []⟩]) (innkeeplaw14_KeysOrder.c53))) (innkeeplaw14_KeysOrder.c52)
def innkeeplaw14_KeysOrder.c47 : Cd := .tidy [13, 14, 15] [] [] (some 1)
def innkeeplaw14_KeysOrder.c46 : Cd := .seq (.seq (.seq (.seq (.reg false [⟨some 59, .move (.t 12), none, [], []⟩,
    ⟨some 60, .move (.t 7), none, [], []⟩,
    ⟨some 61, .len (.t 60), none, [], []⟩,
    ⟨some 62, .bin .lss (.t 59) (.t 61), none, [], []⟩]) (innkeeplaw14_KeysOrder.c50)) (innkeeplaw14_KeysOrder.c49)) (innkeeplaw14_KeysOrder.c48)) (innkeeplaw14_KeysOrder.c47)
def innkeeplaw14_KeysOrder.c45 : Cd := .block 4 (.loop (innkeeplaw14_KeysOrder.c46))
def innkeeplaw14_KeysOrder.c84 : Cd := .tidy [120, 121, 122] [] [] none
def innkeeplaw14_KeysOrder.c85 : Cd := .skip
def innkeeplaw14_KeysOrder.c89 : Cd := .exit 8
def innkeeplaw14_KeysOrder.c83 : Cd := .cond (.t 123) (.seq (.tidy [123] [] [] none) (innkeeplaw14_KeysOrder.c85)) (.seq (.tidy [123] [] [] none) (innkeeplaw14_KeysOrder.c89))
def innkeeplaw14_KeysOrder.c87 : Cd := .tidy [126, 127, 128, 129, 130, 131, 132, 133, 134, 135, 136, 137, 138] [] [] none
def innkeeplaw14_KeysOrder.c88 : Cd := .tidy [124, 125] [] [] none
def innkeeplaw14_KeysOrder.c86 : Cd := .seq (.reg false [⟨some 124, .move (.t 17), none, [], []⟩,
    ⟨some 125, .bin .add (.t 124) (.c (.int .i64) (1 : Int)), none, [], []⟩,
    ⟨some 17, .move (.t 125), none, [], []⟩]) (innkeeplaw14_KeysOrder.c88)
def innkeeplaw14_KeysOrder.c82 : Cd := .seq (.block 9 (.seq (.reg false [⟨some 126, .move (.t 16), none, [], []⟩,
    ⟨some 127, .move (.t 1), none, [], []⟩,
    ⟨some 128, .move (.t 17), none, [], []⟩,
    ⟨some 129, .move (.t 2), none, [], []⟩,
    ⟨some 130, .conv .i64 (.t 129), none, [], []⟩,
    ⟨some 131, .bin .add (.t 128) (.t 130), none, [], []⟩,
    ⟨some 132, .move (.t 1), none, [], []⟩,
    ⟨some 133, .len (.t 132), none, [], []⟩,
    ⟨some 134, .bin .rem (.t 131) (.t 133), none, [], []⟩,
    ⟨some 135, .index (.sl tKey) (.t 127) (.t 134), none, [], []⟩,
    ⟨some 136, .load (.d tKey) (.t 135), none, [], []⟩,
    ⟨some 137, .slice 1 tKey [(.t 136)], none, [], []⟩,
    ⟨some 138, .append 2 tKey (.t 126) (.t 137), none, [], []⟩,
    ⟨some 16, .move (.t 138), none, [], []⟩]) (innkeeplaw14_KeysOrder.c87))) (innkeeplaw14_KeysOrder.c86)
def innkeeplaw14_KeysOrder.c81 : Cd := .tidy [] [(2, 3)] [1] (some 4)
def innkeeplaw14_KeysOrder.c80 : Cd := .seq (.seq (.seq (.seq (.reg false [⟨some 120, .move (.t 17), none, [], []⟩,
    ⟨some 121, .move (.t 1), none, [], []⟩,
    ⟨some 122, .len (.t 121), none, [], []⟩,
    ⟨some 123, .bin .lss (.t 120) (.t 122), none, [], []⟩]) (innkeeplaw14_KeysOrder.c84)) (innkeeplaw14_KeysOrder.c83)) (innkeeplaw14_KeysOrder.c82)) (innkeeplaw14_KeysOrder.c81)
def innkeeplaw14_KeysOrder.c79 : Cd := .block 8 (.loop (innkeeplaw14_KeysOrder.c80))
def innkeeplaw14_KeysOrder.c91 : Cd := .tidy [139, 140, 141, 142, 143, 144, 145, 146, 147, 148] [] [] none
def innkeeplaw14_KeysOrder.c90 : Cd := .ret
def innkeeplaw14_KeysOrder.c78 : Cd := .seq (.seq (.reg false [⟨some 139, .move (.t 7), none, [], []⟩,
    ⟨some 140, .call (.f 12) [(.t 139)] [.d (.sl tKey)] [] false, none, [], []⟩,
    ⟨some 141, .move (.t 7), none, [], []⟩,
    ⟨some 142, .call (.f 11) [(.t 140), (.t 141)] [.d .bool] [] false, none, [], []⟩,
    ⟨some 143, .move (.t 142), none, [], []⟩,
    ⟨some 144, .move (.t 16), some (143, true), [], []⟩,
    ⟨some 145, .call (.f 12) [(.t 144)] [.d (.sl tKey)] [] false, some (143, true), [], []⟩,
    ⟨some 146, .move (.t 7), some (143, true), [], []⟩,
    ⟨some 147, .call (.f 11) [(.t 145), (.t 146)] [.d .bool] [] false, some (143, true), [], []⟩,
    ⟨some 148, .pick (.t 143) (.t 147) (.c .bool false), none, [], []⟩,
    ⟨some 6, .move (.t 148), none, [], []⟩]) (innkeeplaw14_KeysOrder.c91)) (innkeeplaw14_KeysOrder.c90)
def innkeeplaw14_KeysOrder.c77 : Cd := .seq (.seq (.reg false [⟨some 17, .move (.c (.int .i64) (0 : Int)), none, [], []⟩]) (innkeeplaw14_KeysOrder.c79)) (innkeeplaw14_KeysOrder.c78)
def innkeeplaw14_KeysOrder.c44 : Cd := .seq (.reg false [⟨some 16, .mknil 3 tKey, none, [], []⟩]) (innkeeplaw14_KeysOrder.c77)
def innkeeplaw14_KeysOrder.c43 : Cd := .seq (.seq (.reg false [⟨some 12, .move (.c (.int .i64) (0 : Int)), none, [], []⟩]) (innkeeplaw14_KeysOrder.c45)) (innkeeplaw14_KeysOrder.c44)
def innkeeplaw14_KeysOrder.c10 : Cd := .seq (.reg false [⟨some 11, .move (.c (.int .i64) ((-1) : Int)), none, [], []⟩]) (innkeeplaw14_KeysOrder.c43)
def innkeeplaw14_KeysOrder.c8 : Cd := .seq (.seq (.reg false [⟨some 8, .move (.c (.int .i64) (0 : Int)), none, [], []⟩]) (innkeeplaw14_KeysOrder.c11)) (innkeeplaw14_KeysOrder.c10)
def innkeeplaw14_KeysOrder.c1 : Cd := .seq (.seq (.reg false [⟨some 32, .move (.t 1), none, [], []⟩,
    ⟨some 33, .call (.f 12) [(.t 32)] [.d (.sl tKey)] [] false, none, [], []⟩,
    ⟨some 7, .move (.t 33), none, [], []⟩]) (innkeeplaw14_KeysOrder.c9)) (innkeeplaw14_KeysOrder.c8)
def innkeeplaw14_KeysOrder.c0 : Cd := .seq (.seq (.seq (.reg false [⟨some 18, .call (.f 8) [] [.d .bool] [] false, none, [], []⟩,
    ⟨some 19, .not (.t 18), none, [], []⟩,
    ⟨some 20, .move (.t 19), none, [], []⟩,
    ⟨some 21, .load (.d tDesc) (.t 3), some (20, false), [], []⟩,
    ⟨some 22, .build tWorld [(0, (.t 21))] [], some (20, false), [], []⟩,
    ⟨some 23, .call (.f 14) [(.t 22)] [.d .bool] [] false, some (20, false), [], []⟩,
    ⟨some 24, .not (.t 23), some (20, false), [], []⟩,
    ⟨some 25, .pick (.t 20) (.c .bool true) (.t 24), none, [], []⟩,
    ⟨some 26, .move (.t 25), none, [], []⟩,
    ⟨some 27, .move (.t 1), some (26, false), [], []⟩,
    ⟨some 28, .len (.t 27), some (26, false), [], []⟩,
    ⟨some 29, .bin .gtr (.t 28) (.c (.int .i64) (40 : Int)), some (26, false), [], []⟩,
    ⟨some 30, .pick (.t 26) (.c .bool true) (.t 29), none, [], []⟩]) (innkeeplaw14_KeysOrder.c3)) (innkeeplaw14_KeysOrder.c2)) (innkeeplaw14_KeysOrder.c1)
def innkeeplaw14_KeysOrder.fn : Fn := ⟨3, [.tmp 6], .seq (.reg false [⟨some 3, .box 0 (.t 0), none, [], []⟩,
    ⟨some 6, .move (.c .bool false), none, [], []⟩]) (innkeeplaw14_KeysOrder.c0)⟩
def innkeeplaw14_KeysKeep.c3 : Cd := .tidy [6, 7, 8, 9, 10, 11] [] [] none
def innkeeplaw14_KeysKeep.c6 : Cd := .tidy [13] [] [] none
def innkeeplaw14_KeysKeep.c5 : Cd := .ret
def innkeeplaw14_KeysKeep.c4 : Cd := .seq (.seq (.reg false [⟨some 13, .call (.f 8) [] [.d .bool] [] false, none, [], []⟩,
    ⟨some 2, .move (.t 13), none, [], []⟩]) (innkeeplaw14_KeysKeep.c6)) (innkeeplaw14_KeysKeep.c5)
def innkeeplaw14_KeysKeep.c7 : Cd := .skip
def innkeeplaw14_KeysKeep.c2 : Cd := .cond (.t 12) (.seq (.tidy [12] [] [] none) (innkeeplaw14_KeysKeep.c4)) (.seq (.tidy [12] [] [] none) (innkeeplaw14_KeysKeep.c7))
def innkeeplaw14_KeysKeep.c9 : Cd := .tidy [14, 15, 16] [] [] none
def innkeeplaw14_KeysKeep.c11 : Cd := .tidy [17, 18] [] [] none
def innkeeplaw14_KeysKeep.c18 : Cd := .tidy [19, 20, 21] [] [] none
def innkeeplaw14_KeysKeep.c19 : Cd := .skip
def innkeeplaw14_KeysKeep.c23 : Cd := .exit 0
def innkeeplaw14_KeysKeep.c17 : Cd := .cond (.t 22) (.seq (.tidy [22] [] [] none) (innkeeplaw14_KeysKeep.c19)) (.seq (.tidy [22] [] [] none) (innkeeplaw14_KeysKeep.c23))
def innkeeplaw14_KeysKeep.c21 : Cd := .tidy [25, 26, 27, 28] [] [] none
def innkeeplaw14_KeysKeep.c22 : Cd := .tidy [23, 24] [] [] none
def innkeeplaw14_KeysKeep.c20 : Cd := .seq (.reg false [⟨some 23, .move (.t 5), none, [], []⟩,
    ⟨some 24, .bin .add (.t 23) (.c (.int .i64) (1 : Int)), none, [], []⟩,
    ⟨some 5, .move (.t 24), none, [], []⟩]) (innkeeplaw14_KeysKeep.c22)
def innkeeplaw14_KeysKeep.c16 : Cd := .seq (.block 1 (.seq (.reg false [⟨some 25, .move (.t 4), none, [], []⟩,
    ⟨some 26, .move (.t 5), none, [], []⟩,
    ⟨some 27, .build tKey [(0, (.c (.int .i64) (9 : Int)))] [], none, [], []⟩,
    ⟨some 28, .index (.sl tKey) (.t 25) (.t 26), none, [], []⟩,
    ⟨none, .store (.d tKey) (.t 28) (.t 27), none, [], []⟩]) (innkeeplaw14_KeysKeep.c21))) (innkeeplaw14_KeysKeep.c20)
def innkeeplaw14_KeysKeep.c15 : Cd := .tidy [] [] [] (some 3)
def innkeeplaw14_KeysKeep.c14 : Cd := .seq (.seq (.seq (.seq (.reg false [⟨some 19, .move (.t 5), none, [], []⟩,
    ⟨some 20, .move (.t 4), none, [], []⟩,
    ⟨some 21, .len (.t 20), none, [], []⟩,
    ⟨some 22, .bin .lss (.t 19) (.t 21), none, [], []⟩]) (innkeeplaw14_KeysKeep.c18)) (innkeeplaw14_KeysKeep.c17)) (innkeeplaw14_KeysKeep.c16)) (innkeeplaw14_KeysKeep.c15)
def innkeeplaw14_KeysKeep.c13 : Cd := .block 0 (.loop (innkeeplaw14_KeysKeep.c14))
def innkeeplaw14_KeysKeep.c25 : Cd := .tidy [29, 30, 31] [] [] none
def innkeeplaw14_KeysKeep.c24 : Cd := .ret
def innkeeplaw14_KeysKeep.c12 : Cd := .seq (.seq (.reg false [⟨some 29, .move (.t 3), none, [], []⟩,
    ⟨some 30, .move (.t 0), none, [], []⟩,
    ⟨some 31, .call (.f 11) [(.t 29), (.t 30)] [.d .bool] [] false, none, [], []⟩,
    ⟨some 2, .move (.t 31), none, [], []⟩]) (innkeeplaw14_KeysKeep.c25)) (innkeeplaw14_KeysKeep.c24)
def innkeeplaw14_KeysKeep.c10 : Cd := .seq (.seq (.reg false [⟨some 5, .move (.c (.int .i64) (0 : Int)), none, [], []⟩]) (innkeeplaw14_KeysKeep.c13)) (innkeeplaw14_KeysKeep.c12)
def innkeeplaw14_KeysKeep.c8 : Cd := .seq (.seq (.reg false [⟨some 17, .move (.t 3), none, [], []⟩,
    ⟨some 18, .call (.f 12) [(.t 17)] [.d (.sl tKey)] [((0, []), 2)] false, none, [], []⟩,
    ⟨some 4, .move (.t 18), none, [], []⟩]) (innkeeplaw14_KeysKeep.c11)) (innkeeplaw14_KeysKeep.c10)
def innkeeplaw14_KeysKeep.c1 : Cd := .seq (.seq (.reg false [⟨some 14, .slice 0 tKey [], none, [], []⟩,
    ⟨some 15, .move (.t 0), none, [], []⟩,
    ⟨some 16, .append 1 tKey (.t 14) (.t 15), none, [], []⟩,
    ⟨some 3, .move (.t 16), none, [], []⟩]) (innkeeplaw14_KeysKeep.c9)) (innkeeplaw14_KeysKeep.c8)
def innkeeplaw14_KeysKeep.c0 : Cd := .seq (.seq (.seq (.reg false [⟨some 6, .call (.f 8) [] [.d .bool] [] false, none, [], []⟩,
    ⟨some 7, .not (.t 6), none, [], []⟩,
    ⟨some 8, .move (.t 7), none, [], []⟩,
    ⟨some 9, .move (.t 0), some (8, false), [], []⟩,
    ⟨some 10, .len (.t 9), some (8, false), [], []⟩,
    ⟨some 11, .bin .gtr (.t 10) (.c (.int .i64) (60 : Int)), some (8, false), [], []⟩,
    ⟨some 12, .pick (.t 8) (.c .bool true) (.t 11), none, [], []⟩]) (innkeeplaw14_KeysKeep.c3)) (innkeeplaw14_KeysKeep.c2)) (innkeeplaw14_KeysKeep.c1)
def innkeeplaw14_KeysKeep.fn : Fn := ⟨1, [.tmp 2], .seq (.reg false [⟨some 2, .move (.c .bool false), none, [], []⟩]) (innkeeplaw14_KeysKeep.c0)⟩
def innkeeplaw14_KeysFrom.c3 : Cd := .tidy [8] [] [] none
def innkeeplaw14_KeysFrom.c5 : Cd := .ret
def innkeeplaw14_KeysFrom.c4 : Cd := .seq (.reg false [⟨some 6, .move (.c .bool false), none, [], []⟩]) (innkeeplaw14_KeysFrom.c5)
def innkeeplaw14_KeysFrom.c6 : Cd := .skip
def innkeeplaw14_KeysFrom.c2 : Cd := .cond (.t 9) (.seq (.tidy [9] [] [] none) (innkeeplaw14_KeysFrom.c4)) (.seq (.tidy [9] [] [] none) (innkeeplaw14_KeysFrom.c6))
def innkeeplaw14_KeysFrom.c9 : Cd := .tidy [10, 11, 12, 13, 14, 15, 16, 17, 18, 19, 20, 21, 22, 23, 24, 25, 26, 27, 28, 29, 30, 31, 32, 33, 34, 35, 36, 37, 38, 39, 40, 41, 42, 43, 44, 45, 46, 47, 48, 49, 50, 51, 52, 53, 54] [] [] none
def innkeeplaw14_KeysFrom.c11 : Cd := .ret
def innkeeplaw14_KeysFrom.c10 : Cd := .seq (.reg false [⟨some 6, .move (.c .bool false), none, [], []⟩]) (innkeeplaw14_KeysFrom.c11)
def innkeeplaw14_KeysFrom.c12 : Cd := .skip
def innkeeplaw14_KeysFrom.c8 : Cd := .cond (.t 55) (.seq (.tidy [55] [] [] none) (innkeeplaw14_KeysFrom.c10)) (.seq (.tidy [55] [] [] none) (innkeeplaw14_KeysFrom.c12))
def innkeeplaw14_KeysFrom.c14 : Cd := .tidy [56, 57, 58, 59, 60] [] [] none
def innkeeplaw14_KeysFrom.c16 : Cd := .tidy [61, 62, 63, 64, 65, 66, 67, 68, 69, 70, 71, 72, 73, 74, 75, 76, 77, 78, 79, 80, 81, 82, 83, 84, 85, 86, 87, 88, 89, 90, 91, 92, 93, 94, 95, 96, 97, 98, 99, 100, 101, 102, 103, 104, 105, 106] [] [] none
def innkeeplaw14_KeysFrom.c15 : Cd := .ret
def innkeeplaw14_KeysFrom.c13 : Cd := .seq (.seq (.reg true [⟨some 61, .move (.t 7), none, [], []⟩,
    ⟨some 62, .len (.t 61), none, [], []⟩,
    ⟨some 63, .bin .geq (.t 62) (.c (.int .i64) (1 : Int)), none, [], []⟩,
    ⟨some 64, .move (.t 63), none, [], []⟩,
    ⟨some 65, .move (.t 7), some (64, true), [], []⟩,
    ⟨some 66, .len (.t 65), some (64, true), [], []⟩,
    ⟨some 67, .bin .leq (.t 66) (.c (.int .i64) (3 : Int)), some (64, true), [], []⟩,
    ⟨some 68, .pick (.t 64) (.t 67) (.c .bool false), none, [], []⟩,
    ⟨some 69, .move (.t 68), none, [], []⟩,
    ⟨some 70, .move (.t 7), some (69, true), [], []⟩,
    ⟨some 71, .len (.t 70), some (69, true), [], []⟩,
    ⟨some 72, .bin .eql (.t 71) (.c (.int .i64) (1 : Int)), some (69, true), [], []⟩,
    ⟨some 73, .load (.d tKey) (.t 3), some (69, true), [0], []⟩,
    ⟨some 74, .load (.d tKey) (.t 4), some (69, true), [1], []⟩,
    ⟨some 75, .eqs tKey false (.t 73) (.t 74), some (69, true), [], []⟩,
    ⟨some 76, .move (.t 75), some (69, true), [], []⟩,
    ⟨some 77, .load (.d tKey) (.t 4), some (76, true), [1], []⟩,
    ⟨some 78, .load (.d tKey) (.t 5), some (76, true), [2], []⟩,
    ⟨some 79, .eqs tKey false (.t 77) (.t 78), some (76, true), [], []⟩,
    ⟨some 80, .pick (.t 76) (.t 79) (.c .bool false), some (69, true), [], []⟩,
    ⟨some 81, .eqs .bool false (.t 72) (.t 80), some (69, true), [], []⟩,
    ⟨some 82, .pick (.t 69) (.t 81) (.c .bool false), none, [], []⟩,
    ⟨some 83, .move (.t 82), none, [], []⟩,
    ⟨some 84, .load (.d tKey) (.t 3), some (83, true), [0], []⟩,
    ⟨some 85, .move (.t 7), some (83, true), [], []⟩,
    ⟨some 86, .index (.sl tKey) (.t 85) (.c (.int .i64) (0 : Int)), some (83, true), [], []⟩,
    ⟨some 87, .load (.d tKey) (.t 86), some (83, true), [], []⟩,
    ⟨some 88, .call (.f 9) [(.t 84), (.t 87)] [.d .bool] [] false, some (83, true), [], []⟩,
    ⟨some 89, .not (.t 88), some (83, true), [], []⟩,
    ⟨some 90, .pick (.t 83) (.t 89) (.c .bool false), none, [], []⟩,
    ⟨some 91, .move (.t 90), none, [], []⟩,
    ⟨some 92, .load (.d tKey) (.t 4), some (91, true), [1], []⟩,
    ⟨some 93, .move (.t 7), some (91, true), [], []⟩,
    ⟨some 94, .index (.sl tKey) (.t 93) (.c (.int .i64) (0 : Int)), some (91, true), [], []⟩,
    ⟨some 95, .load (.d tKey) (.t 94), some (91, true), [], []⟩,
    ⟨some 96, .call (.f 9) [(.t 92), (.t 95)] [.d .bool] [] false, some (91, true), [], []⟩,
    ⟨some 97, .not (.t 96), some (91, true), [], []⟩,
    ⟨some 98, .pick (.t 91) (.t 97) (.c .bool false), none, [], []⟩,
    ⟨some 99, .move (.t 98), none, [], []⟩,
    ⟨some 100, .load (.d tKey) (.t 5), some (99, true), [2], []⟩,
    ⟨some 101, .move (.t 7), some (99, true), [], []⟩,
    ⟨some 102, .index (.sl tKey) (.t 101) (.c (.int .i64) (0 : Int)), some (99, true), [], []⟩,
    ⟨some 103, .load (.d tKey) (.t 102), some (99, true), [], []⟩,
    ⟨some 104, .call (.f 9) [(.t 100), (.t 103)] [.d .bool] [] false, some (99, true), [], []⟩,
    ⟨some 105, .not (.t 104), some (99, true), [], []⟩,
    ⟨some 106, .pick (.t 99) (.t 105) (.c .bool false), none, [], []⟩,
    ⟨some 6, .move (.t 106), none, [], []⟩]) (innkeeplaw14_KeysFrom.c16)) (innkeeplaw14_KeysFrom.c15)
def innkeeplaw14_KeysFrom.c7 : Cd := .seq (.seq (.reg false [⟨some 56, .load (.d tKey) (.t 3), none, [], []⟩,
    ⟨some 57, .load (.d tKey) (.t 4), none, [], []⟩,
    ⟨some 58, .load (.d tKey) (.t 5), none, [], []⟩,
    ⟨some 59, .slice 3 tKey [(.t 56), (.t 57), (.t 58)], none, [], []⟩,
    ⟨some 60, .call (.f 12) [(.t 59)] [.d (.sl tKey)] [] false, none, [], []⟩,
    ⟨some 7, .move (.t 60), none, [], []⟩]) (innkeeplaw14_KeysFrom.c14)) (innkeeplaw14_KeysFrom.c13)
def innkeeplaw14_KeysFrom.c1 : Cd := .seq (.seq (.seq (.reg false [⟨some 10, .load (.d tKey) (.t 3), none, [], []⟩,
    ⟨some 11, .load (.d tKey) (.t 3), none, [], []⟩,
    ⟨some 12, .call (.f 9) [(.t 10), (.t 11)] [.d .bool] [] false, none, [], []⟩,
    ⟨some 13, .move (.t 12), none, [], []⟩,
    ⟨some 14, .load (.d tKey) (.t 3), some (13, false), [], []⟩,
    ⟨some 15, .load (.d tKey) (.t 4), some (13, false), [], []⟩,
    ⟨some 16, .call (.f 9) [(.t 14), (.t 15)] [.d .bool] [] false, some (13, false), [], []⟩,
    ⟨some 17, .move (.t 16), some (13, false), [], []⟩,
    ⟨some 18, .load (.d tKey) (.t 4), some (17, true), [], []⟩,
    ⟨some 19, .load (.d tKey) (.t 3), some (17, true), [], []⟩,
    ⟨some 20, .call (.f 9) [(.t 18), (.t 19)] [.d .bool] [] false, some (17, true), [], []⟩,
    ⟨some 21, .pick (.t 17) (.t 20) (.c .bool false), some (13, false), [], []⟩,
    ⟨some 22, .pick (.t 13) (.c .bool true) (.t 21), none, [], []⟩,
    ⟨some 23, .move (.t 22), none, [], []⟩,
    ⟨some 24, .load (.d tKey) (.t 3), some (23, false), [], []⟩,
    ⟨some 25, .load (.d tKey) (.t 4), some (23, false), [], []⟩,
    ⟨some 26, .eqs tKey true (.t 24) (.t 25), some (23, false), [], []⟩,
    ⟨some 27, .move (.t 26), some (23, false), [], []⟩,
    ⟨some 28, .load (.d tKey) (.t 3), some (27, true), [], []⟩,
    ⟨some 29, .load (.d tKey) (.t 4), some (27, true), [], []⟩,
    ⟨some 30, .call (.f 9) [(.t 28), (.t 29)] [.d .bool] [] false, some (27, true), [], []⟩,
    ⟨some 31, .not (.t 30), some (27, true), [], []⟩,
    ⟨some 32, .pick (.t 27) (.t 31) (.c .bool false), some (23, false), [], []⟩,
    ⟨some 33, .move (.t 32), some (23, false), [], []⟩,
    ⟨some 34, .load (.d tKey) (.t 4), some (33, true), [], []⟩,
    ⟨some 35, .load (.d tKey) (.t 3), some (33, true), [], []⟩,
    ⟨some 36, .call (.f 9) [(.t 34), (.t 35)] [.d .bool] [] false, some (33, true), [], []⟩,
    ⟨some 37, .not (.t 36), some (33, true), [], []⟩,
    ⟨some 38, .pick (.t 33) (.t 37) (.c .bool false), some (23, false), [], []⟩,
    ⟨some 39, .pick (.t 23) (.c .bool true) (.t 38), none, [], []⟩,
    ⟨some 40, .move (.t 39), none, [], []⟩,
    ⟨some 41, .load (.d tKey) (.t 3), some (40, false), [], []⟩,
    ⟨some 42, .load (.d tKey) (.t 4), some (40, false), [], []⟩,
    ⟨some 43, .call (.f 9) [(.t 41), (.t 42)] [.d .bool] [] false, some (40, false), [], []⟩,
    ⟨some 44, .move (.t 43), some (40, false), [], []⟩,
    ⟨some 45, .load (.d tKey) (.t 4), some (44, true), [], []⟩,
    ⟨some 46, .load (.d tKey) (.t 5), some (44, true), [], []⟩,
    ⟨some 47, .call (.f 9) [(.t 45), (.t 46)] [.d .bool] [] false, some (44, true), [], []⟩,
    ⟨some 48, .pick (.t 44) (.t 47) (.c .bool false), some (40, false), [], []⟩,
    ⟨some 49, .move (.t 48), some (40, false), [], []⟩,
    ⟨some 50, .load (.d tKey) (.t 3), some (49, true), [], []⟩,
    ⟨some 51, .load (.d tKey) (.t 5), some (49, true), [], []⟩,
    ⟨some 52, .call (.f 9) [(.t 50), (.t 51)] [.d .bool] [] false, some (49, true), [], []⟩,
    ⟨some 53, .not (.t 52), some (49, true), [], []⟩,
    ⟨some 54, .pick (.t 49) (.t 53) (.c .bool false), some (40, false), [], []⟩,
    ⟨some 55, .pick (.t 40) (.c .bool true) (.t 54), none, [], []⟩]) (innkeeplaw14_KeysFrom.c9)) (innkeeplaw14_KeysFrom.c8)) (innkeeplaw14_KeysFrom.c7)
def innkeeplaw14_KeysFrom.c0 : Cd := .seq (.seq (.seq (.reg false [⟨some 8, .call (.f 8) [] [.d .bool] [] false, none, [], []⟩,
    ⟨some 9, .not (.t 8), none, [], []⟩]) (innkeeplaw14_KeysFrom.c3)) (innkeeplaw14_KeysFrom.c2)) (innkeeplaw14_KeysFrom.c1)
def innkeeplaw14_KeysFrom.fn : Fn := ⟨3, [.tmp 6], .seq (.reg false [⟨some 3, .box 0 (.t 0), none, [], []⟩,
    ⟨some 4, .box 1 (.t 1), none, [], []⟩,
    ⟨some 5, .box 2 (.t 2), none, [], []⟩,
    ⟨some 6, .move (.c .bool false), none, [], []⟩]) (innkeeplaw14_KeysFrom.c0)⟩
def prog : FuncId → Option Fn
  | 3 => some innkeeplaw14_KeysSort.fn
  | 4 => some innkeeplaw14_KeysPlace.fn
  | 5 => some innkeeplaw14_KeysOrder.fn
  | 6 => some innkeeplaw14_KeysKeep.fn
  | 7 => some innkeeplaw14_KeysFrom.fn
  | 8 => some innkeeplaw14_awake.fn
  | 9 => some keys_Less.fn
  | 10 => some innkeepref14_Less.fn
  | 11 => some innkeepref14_Same.fn
  | 13 => some innkeepref14_Sort.fn
  | 14 => some innkeepref06_Few.fn
  | 15 => some keys_Place.fn
  | 16 => some keys_At.fn
  | 17 => some innkeepref14_Place.fn
  | 18 => some keys_Many.fn
  | 19 => some keys_compare.fn
  | 21 => some cmp_Or_int.fn
  | 22 => some cmp_Compare_int.fn
  | 25 => some cmp_isNaN_int.fn
  | _ => none
end Go.Proofs.Ytobegmljkfphjaa.Ghost
