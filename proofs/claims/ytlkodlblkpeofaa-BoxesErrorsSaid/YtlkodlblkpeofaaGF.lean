/- The functions as ghost code. Conditions: none; no statement is proved here. -/
import Derived.Test.YtlkodlblkpeofaaA1
set_option linter.unusedVariables false
set_option linter.unusedSimpArgs false
set_option linter.unusedSectionVars false
set_option linter.unnecessarySimpa false
namespace Go.Proofs.Ytlkodlblkpeofaa.Ghost
open Go
abbrev tboundsError : Ty := .st [(.int .i64), (.int .i64), .bool, (.int .u8)]
abbrev terrorAddressString : Ty := .st [.str, (.int .u64)]
abbrev tDesc : Ty := .st [(.sl (.arr 4 (.int .i64))), (.sl (.int .i64)), (.sl (.int .i64)), (.sl (.int .i64)), (.sl .bool), (.int .i64), (.int .i64), (.int .i64)]
abbrev tPlace : Ty := .st [(.int .i64), (.int .i64)]
abbrev tWorld : Ty := .st [tDesc, (.sl (.int .i64)), (.sl (.int .i64)), (.sl tPlace)]
def innkeepref06_New.c2 : Cd := .tidy [5, 6] [] [] none
def innkeepref06_New.c4 : Cd := .tidy [7, 8, 9, 10, 11, 12] [] [] none
def innkeepref06_New.c6 : Cd := .tidy [13, 14, 15, 16, 17, 18] [] [] none
def innkeepref06_New.c13 : Cd := .tidy [19, 20, 21, 22] [] [] none
def innkeepref06_New.c14 : Cd := .skip
def innkeepref06_New.c18 : Cd := .exit 0
def innkeepref06_New.c12 : Cd := .cond (.t 23) (.seq (.tidy [23] [] [] none) (innkeepref06_New.c14)) (.seq (.tidy [23] [] [] none) (innkeepref06_New.c18))
def innkeepref06_New.c16 : Cd := .tidy [26, 27, 28, 29, 30, 31, 32, 33, 34, 35, 36] [] [] none
def innkeepref06_New.c17 : Cd := .tidy [24, 25] [] [] none
def innkeepref06_New.c15 : Cd := .seq (.reg false [⟨some 24, .move (.t 4), none, [], []⟩,
    ⟨some 25, .bin .add (.t 24) (.c (.int .i64) (1 : Int)), none, [], []⟩,
    ⟨some 4, .move (.t 25), none, [], []⟩]) (innkeepref06_New.c17)
def innkeepref06_New.c11 : Cd := .seq (.block 1 (.seq (.reg true [⟨some 26, .fieldAddr (.d tWorld) 3 (.t 3), none, [2], []⟩,
    ⟨some 27, .load (.d (.sl tPlace)) (.t 26), none, [2], []⟩,
    ⟨some 28, .fieldAddr (.d tDesc) 3 (.t 1), none, [0], []⟩,
    ⟨some 29, .load (.d (.sl (.int .i64))) (.t 28), none, [0], []⟩,
    ⟨some 30, .move (.t 4), none, [], []⟩,
    ⟨some 31, .index (.sl (.int .i64)) (.t 29) (.t 30), none, [], []⟩,
    ⟨some 32, .load (.d (.int .i64)) (.t 31), none, [], []⟩,
    ⟨some 33, .build tPlace [(1, (.t 32))] [], none, [], []⟩,
    ⟨some 34, .slice 5 tPlace [(.t 33)], none, [], [5]⟩,
    ⟨some 35, .append 6 tPlace (.t 27) (.t 34), none, [5], [6, 9]⟩,
    ⟨some 36, .fieldAddr (.d tWorld) 3 (.t 3), none, [2], []⟩,
    ⟨none, .store (.d (.sl tPlace)) (.t 36) (.t 35), none, [], [2]⟩]) (innkeepref06_New.c16))) (innkeepref06_New.c15)
def innkeepref06_New.c10 : Cd := .tidy [] [(6, 9)] [5] (some 10)
def innkeepref06_New.c9 : Cd := .seq (.seq (.seq (.seq (.reg false [⟨some 19, .move (.t 4), none, [], []⟩,
    ⟨some 20, .fieldAddr (.d tDesc) 3 (.t 1), none, [], []⟩,
    ⟨some 21, .load (.d (.sl (.int .i64))) (.t 20), none, [], []⟩,
    ⟨some 22, .len (.t 21), none, [], []⟩,
    ⟨some 23, .bin .lss (.t 19) (.t 22), none, [], []⟩]) (innkeepref06_New.c13)) (innkeepref06_New.c12)) (innkeepref06_New.c11)) (innkeepref06_New.c10)
def innkeepref06_New.c8 : Cd := .block 0 (.loop (innkeepref06_New.c9))
def innkeepref06_New.c20 : Cd := .tidy [37] [] [] none
def innkeepref06_New.c19 : Cd := .ret
def innkeepref06_New.c7 : Cd := .seq (.seq (.reg false [⟨some 37, .load (.d tWorld) (.t 3), none, [], []⟩,
    ⟨none, .store (.d tWorld) (.t 2) (.t 37), none, [], []⟩]) (innkeepref06_New.c20)) (innkeepref06_New.c19)
def innkeepref06_New.c5 : Cd := .seq (.seq (.reg false [⟨some 4, .move (.c (.int .i64) (0 : Int)), none, [], []⟩]) (innkeepref06_New.c8)) (innkeepref06_New.c7)
def innkeepref06_New.c3 : Cd := .seq (.seq (.reg false [⟨some 13, .fieldAddr (.d tWorld) 2 (.t 3), none, [], []⟩,
    ⟨some 14, .load (.d (.sl (.int .i64))) (.t 13), none, [], []⟩,
    ⟨some 15, .fieldAddr (.d tDesc) 2 (.t 1), none, [], []⟩,
    ⟨some 16, .load (.d (.sl (.int .i64))) (.t 15), none, [], []⟩,
    ⟨some 17, .append 4 (.int .i64) (.t 14) (.t 16), none, [], []⟩,
    ⟨some 18, .fieldAddr (.d tWorld) 2 (.t 3), none, [], []⟩,
    ⟨none, .store (.d (.sl (.int .i64))) (.t 18) (.t 17), none, [], []⟩]) (innkeepref06_New.c6)) (innkeepref06_New.c5)
def innkeepref06_New.c1 : Cd := .seq (.seq (.reg false [⟨some 7, .fieldAddr (.d tWorld) 1 (.t 3), none, [], []⟩,
    ⟨some 8, .load (.d (.sl (.int .i64))) (.t 7), none, [], []⟩,
    ⟨some 9, .fieldAddr (.d tDesc) 1 (.t 1), none, [], []⟩,
    ⟨some 10, .load (.d (.sl (.int .i64))) (.t 9), none, [], []⟩,
    ⟨some 11, .append 3 (.int .i64) (.t 8) (.t 10), none, [], []⟩,
    ⟨some 12, .fieldAddr (.d tWorld) 1 (.t 3), none, [], []⟩,
    ⟨none, .store (.d (.sl (.int .i64))) (.t 12) (.t 11), none, [], []⟩]) (innkeepref06_New.c4)) (innkeepref06_New.c3)
def innkeepref06_New.c0 : Cd := .seq (.seq (.reg false [⟨some 5, .load (.d tDesc) (.t 1), none, [], []⟩,
    ⟨some 6, .build tWorld [(0, (.t 5))] [([1], 7), ([2], 8), ([3], 9)], none, [], []⟩,
    ⟨some 3, .newbox 2 tWorld [], none, [], []⟩,
    ⟨none, .store (.d tWorld) (.t 3) (.t 6), none, [], []⟩]) (innkeepref06_New.c2)) (innkeepref06_New.c1)
def innkeepref06_New.fn : Fn := ⟨1, [.cell 2 (.d tWorld)], .seq (.reg false [⟨some 1, .box 0 (.t 0), none, [], []⟩,
    ⟨some 2, .newbox 1 tWorld [], none, [], []⟩]) (innkeepref06_New.c0)⟩
def boxes_none.c2 : Cd := .tidy [5, 6, 7, 8, 9, 10, 11, 12, 13] [] [] none
def boxes_none.c1 : Cd := .ret
def boxes_none.c0 : Cd := .seq (.seq (.reg false [⟨some 5, .move (.t 1), none, [], []⟩,
    ⟨some 6, .bin .lss (.t 5) (.c (.int .i64) (0 : Int)), none, [], []⟩,
    ⟨some 7, .move (.t 6), none, [], []⟩,
    ⟨some 8, .move (.t 1), some (7, false), [], []⟩,
    ⟨some 9, .fieldAddr (.d tWorld) 3 (.t 2), some (7, false), [], []⟩,
    ⟨some 10, .load (.d (.sl tPlace)) (.t 9), some (7, false), [], []⟩,
    ⟨some 11, .len (.t 10), some (7, false), [], []⟩,
    ⟨some 12, .bin .geq (.t 8) (.t 11), some (7, false), [], []⟩,
    ⟨some 13, .pick (.t 7) (.c .bool true) (.t 12), none, [], []⟩,
    ⟨some 4, .move (.t 13), none, [], []⟩]) (boxes_none.c2)) (boxes_none.c1)
def boxes_none.fn : Fn := ⟨2, [.tmp 4], .seq (.reg false [⟨some 2, .box 0 (.t 0), none, [], []⟩,
    ⟨some 4, .move (.c .bool false), none, [], []⟩]) (boxes_none.c0)⟩
def boxes_Put_1.c2 : Cd := .tidy [4, 5, 6, 7, 8, 9, 10, 11] [] [] none
def boxes_Put_1.c1 : Cd := .ret
def boxes_Put_1.c0 : Cd := .seq (.seq (.reg false [⟨some 4, .load (.d tWorld) (.t 0), none, [], []⟩,
    ⟨some 5, .load (.d (.int .i64)) (.t 1), none, [], []⟩,
    ⟨some 6, .call (.f 27) [(.t 4), (.t 5)] [.d .bool] [] false, none, [], []⟩,
    ⟨some 7, .move (.t 6), none, [], []⟩,
    ⟨some 8, .load (.d tWorld) (.t 0), some (7, false), [], []⟩,
    ⟨some 9, .load (.d (.int .i64)) (.t 2), some (7, false), [], []⟩,
    ⟨some 10, .call (.f 27) [(.t 8), (.t 9)] [.d .bool] [] false, some (7, false), [], []⟩,
    ⟨some 11, .pick (.t 7) (.c .bool true) (.t 10), none, [], []⟩,
    ⟨some 3, .move (.t 11), none, [], []⟩]) (boxes_Put_1.c2)) (boxes_Put_1.c1)
def boxes_Put_1.fn : Fn := ⟨3, [.tmp 3], .seq (.reg false [⟨some 3, .move (.c .bool false), none, [], []⟩]) (boxes_Put_1.c0)⟩
def tree_up.c2 : Cd := .tidy [5] [] [] none
def tree_up.c1 : Cd := .ret
def tree_up.c0 : Cd := .seq (.seq (.reg false [⟨some 5, .func 58 [(.t 2), (.t 3)], none, [], []⟩,
    ⟨some 4, .move (.t 5), none, [], []⟩]) (tree_up.c2)) (tree_up.c1)
def tree_up.fn : Fn := ⟨2, [.tmp 4], .seq (.reg false [⟨some 2, .box 0 (.t 0), none, [], []⟩,
    ⟨some 3, .box 1 (.t 1), none, [], []⟩,
    ⟨some 4, .move .nf, none, [], []⟩]) (tree_up.c0)⟩
def tree_Root.c2 : Cd := .tidy [6, 7, 8, 9] [] [] none
def tree_Root.c4 : Cd := .tidy [10, 11, 12, 13, 14, 15] [] [] none
def tree_Root.c3 : Cd := .ret
def tree_Root.c1 : Cd := .seq (.seq (.reg false [⟨some 10, .move (.t 5), none, [], []⟩,
    ⟨some 11, .move (.t 5), none, [], []⟩,
    ⟨some 12, .len (.t 11), none, [], []⟩,
    ⟨some 13, .bin .sub (.t 12) (.c (.int .i64) (1 : Int)), none, [], []⟩,
    ⟨some 14, .index (.sl tPlace) (.t 10) (.t 13), none, [], []⟩,
    ⟨some 15, .load (.d tPlace) (.t 14), none, [], []⟩,
    ⟨none, .store (.d tPlace) (.t 4) (.t 15), none, [], []⟩]) (tree_Root.c4)) (tree_Root.c3)
def tree_Root.c0 : Cd := .seq (.seq (.reg false [⟨some 6, .load (.d tWorld) (.t 2), none, [], []⟩,
    ⟨some 7, .move (.t 1), none, [], []⟩,
    ⟨some 8, .call (.f 54) [(.t 6), (.t 7)] [.clo 58 [.ref tWorld, .ref (.int .i64)]] [] false, none, [], []⟩,
    ⟨some 9, .call (.f 55) [(.t 8)] [.d (.sl tPlace)] [] false, none, [], []⟩,
    ⟨some 5, .move (.t 9), none, [], []⟩]) (tree_Root.c2)) (tree_Root.c1)
def tree_Root.fn : Fn := ⟨2, [.cell 4 (.d tPlace)], .seq (.reg false [⟨some 2, .box 0 (.t 0), none, [], []⟩,
    ⟨some 4, .newbox 1 tPlace [], none, [], []⟩]) (tree_Root.c0)⟩
def boxes_Near.c2 : Cd := .tidy [8, 9, 10] [] [] none
def boxes_Near.c4 : Cd := .tidy [11, 12, 13, 14, 15, 16, 17, 18, 19, 20, 21, 22, 23, 24] [] [] none
def boxes_Near.c3 : Cd := .ret
def boxes_Near.c1 : Cd := .seq (.seq (.reg true [⟨some 11, .load (.d tPlace) (.t 7), none, [1], []⟩,
    ⟨some 12, .fieldAddr (.d tWorld) 1 (.t 3), none, [0], []⟩,
    ⟨some 13, .load (.d (.sl (.int .i64))) (.t 12), none, [0], []⟩,
    ⟨some 14, .move (.t 1), none, [], []⟩,
    ⟨some 15, .index (.sl (.int .i64)) (.t 13) (.t 14), none, [], []⟩,
    ⟨some 16, .load (.d (.int .i64)) (.t 15), none, [], []⟩,
    ⟨some 17, .build tPlace [(0, (.c (.int .i64) (0 : Int))), (1, (.t 16))] [], none, [], []⟩,
    ⟨some 18, .eqs tPlace false (.t 11) (.t 17), none, [], []⟩,
    ⟨some 19, .move (.t 18), none, [], []⟩,
    ⟨some 20, .load (.d tPlace) (.t 7), some (19, false), [1], []⟩,
    ⟨some 21, .move (.t 1), some (19, false), [], []⟩,
    ⟨some 22, .build tPlace [(0, (.c (.int .i64) (1 : Int))), (1, (.t 21))] [], some (19, false), [], []⟩,
    ⟨some 23, .eqs tPlace false (.t 20) (.t 22), some (19, false), [], []⟩,
    ⟨some 24, .pick (.t 19) (.c .bool true) (.t 23), none, [], []⟩,
    ⟨some 6, .move (.t 24), none, [], []⟩]) (boxes_Near.c4)) (boxes_Near.c3)
def boxes_Near.c0 : Cd := .seq (.seq (.reg false [⟨some 8, .load (.d tWorld) (.t 3), none, [], []⟩,
    ⟨some 9, .move (.t 2), none, [], []⟩,
    ⟨some 10, .call (.f 48) [(.t 8), (.t 9)] [.d tPlace] [] false, none, [], []⟩,
    ⟨some 7, .newbox 1 tPlace [], none, [], []⟩,
    ⟨none, .store (.d tPlace) (.t 7) (.t 10), none, [], []⟩]) (boxes_Near.c2)) (boxes_Near.c1)
def boxes_Near.fn : Fn := ⟨3, [.tmp 6], .seq (.reg false [⟨some 3, .box 0 (.t 0), none, [], []⟩,
    ⟨some 6, .move (.c .bool false), none, [], []⟩]) (boxes_Near.c0)⟩
def boxes_Put_2.c2 : Cd := .tidy [6, 7, 8, 9, 10, 11, 12, 13, 14, 15, 16, 17, 18, 19] [] [] none
def boxes_Put_2.c1 : Cd := .ret
def boxes_Put_2.c0 : Cd := .seq (.seq (.reg true [⟨some 6, .fieldAddr (.d tWorld) 3 (.t 0), none, [], []⟩,
    ⟨some 7, .load (.d (.sl tPlace)) (.t 6), none, [], []⟩,
    ⟨some 8, .load (.d (.int .i64)) (.t 1), none, [], []⟩,
    ⟨some 9, .index (.sl tPlace) (.t 7) (.t 8), none, [], []⟩,
    ⟨some 10, .load (.d tPlace) (.t 9), none, [], []⟩,
    ⟨some 11, .load (.d tPlace) (.t 2), none, [], []⟩,
    ⟨some 12, .eqs tPlace true (.t 10) (.t 11), none, [], []⟩,
    ⟨some 13, .move (.t 12), none, [], []⟩,
    ⟨some 14, .load (.d tWorld) (.t 0), some (13, false), [], []⟩,
    ⟨some 15, .load (.d (.int .i64)) (.t 3), some (13, false), [], []⟩,
    ⟨some 16, .load (.d (.int .i64)) (.t 4), some (13, false), [], []⟩,
    ⟨some 17, .call (.f 15) [(.t 14), (.t 15), (.t 16)] [.d .bool] [] false, some (13, false), [], []⟩,
    ⟨some 18, .not (.t 17), some (13, false), [], []⟩,
    ⟨some 19, .pick (.t 13) (.c .bool true) (.t 18), none, [], []⟩,
    ⟨some 5, .move (.t 19), none, [], []⟩]) (boxes_Put_2.c2)) (boxes_Put_2.c1)
def boxes_Put_2.fn : Fn := ⟨5, [.tmp 5], .seq (.reg false [⟨some 5, .move (.c .bool false), none, [], []⟩]) (boxes_Put_2.c0)⟩
def boxes_Put_3.c2 : Cd := .tidy [3, 4, 5, 6, 7, 8, 9] [] [] none
def boxes_Put_3.c1 : Cd := .ret
def boxes_Put_3.c0 : Cd := .seq (.seq (.reg false [⟨some 3, .fieldAddr (.d tWorld) 0 (.t 0), none, [], []⟩,
    ⟨some 4, .fieldAddr (.d tDesc) 4 (.t 3), none, [], []⟩,
    ⟨some 5, .load (.d (.sl .bool)) (.t 4), none, [], []⟩,
    ⟨some 6, .load (.d (.int .i64)) (.t 1), none, [], []⟩,
    ⟨some 7, .index (.sl .bool) (.t 5) (.t 6), none, [], []⟩,
    ⟨some 8, .load (.d .bool) (.t 7), none, [], []⟩,
    ⟨some 9, .not (.t 8), none, [], []⟩,
    ⟨some 2, .move (.t 9), none, [], []⟩]) (boxes_Put_3.c2)) (boxes_Put_3.c1)
def boxes_Put_3.fn : Fn := ⟨2, [.tmp 2], .seq (.reg false [⟨some 2, .move (.c .bool false), none, [], []⟩]) (boxes_Put_3.c0)⟩
def boxes_Put_4.c2 : Cd := .tidy [4, 5, 6, 7] [] [] none
def boxes_Put_4.c1 : Cd := .ret
def boxes_Put_4.c0 : Cd := .seq (.seq (.reg false [⟨some 4, .load (.d tWorld) (.t 0), none, [], []⟩,
    ⟨some 5, .load (.d (.int .i64)) (.t 1), none, [], []⟩,
    ⟨some 6, .load (.d (.int .i64)) (.t 2), none, [], []⟩,
    ⟨some 7, .call (.f 31) [(.t 4), (.t 5), (.t 6)] [.d .bool] [] false, none, [], []⟩,
    ⟨some 3, .move (.t 7), none, [], []⟩]) (boxes_Put_4.c2)) (boxes_Put_4.c1)
def boxes_Put_4.fn : Fn := ⟨3, [.tmp 3], .seq (.reg false [⟨some 3, .move (.c .bool false), none, [], []⟩]) (boxes_Put_4.c0)⟩
def tree_Depth.c2 : Cd := .tidy [5, 6, 7, 8, 9, 10] [] [] none
def tree_Depth.c1 : Cd := .ret
def tree_Depth.c0 : Cd := .seq (.seq (.reg false [⟨some 5, .load (.d tWorld) (.t 2), none, [], []⟩,
    ⟨some 6, .move (.t 1), none, [], []⟩,
    ⟨some 7, .call (.f 54) [(.t 5), (.t 6)] [.clo 58 [.ref tWorld, .ref (.int .i64)]] [] false, none, [], []⟩,
    ⟨some 8, .call (.f 55) [(.t 7)] [.d (.sl tPlace)] [] false, none, [], []⟩,
    ⟨some 9, .len (.t 8), none, [], []⟩,
    ⟨some 10, .bin .sub (.t 9) (.c (.int .i64) (1 : Int)), none, [], []⟩,
    ⟨some 4, .move (.t 10), none, [], []⟩]) (tree_Depth.c2)) (tree_Depth.c1)
def tree_Depth.fn : Fn := ⟨2, [.tmp 4], .seq (.reg false [⟨some 2, .box 0 (.t 0), none, [], []⟩,
    ⟨some 4, .move (.c (.int .i64) (0 : Int)), none, [], []⟩]) (tree_Depth.c0)⟩
def tree_Height.c4 : Cd := .tidy [7, 8] [] [] none
def tree_Height.c9 : Cd := .skip
def tree_Height.c19 : Cd := .exit 0
def tree_Height.c12 : Cd := .tidy [12] [] [] none
def tree_Height.c14 : Cd := .tidy [13, 14, 15] [] [] none
def tree_Height.c16 : Cd := .tidy [17, 18, 19, 20, 21, 22, 23, 24, 25] [] [] none
def tree_Height.c15 : Cd := .seq (.reg true [⟨some 17, .move (.t 5), none, [], []⟩,
    ⟨some 18, .load (.d tWorld) (.t 2), none, [0], []⟩,
    ⟨some 19, .move (.t 6), none, [], []⟩,
    ⟨some 20, .call (.f 33) [(.t 18), (.t 19)] [.d (.int .i64)] [] false, none, [], []⟩,
    ⟨some 21, .load (.d tWorld) (.t 2), none, [0], []⟩,
    ⟨some 22, .move (.t 1), none, [], []⟩,
    ⟨some 23, .call (.f 33) [(.t 21), (.t 22)] [.d (.int .i64)] [] false, none, [], []⟩,
    ⟨some 24, .bin .sub (.t 20) (.t 23), none, [], []⟩,
    ⟨some 25, .max [(.t 17), (.t 24)], none, [], []⟩,
    ⟨some 5, .move (.t 25), none, [], []⟩]) (tree_Height.c16)
def tree_Height.c18 : Cd := .skip
def tree_Height.c13 : Cd := .cond (.t 16) (.seq (.tidy [16] [] [] none) (tree_Height.c15)) (.seq (.tidy [16] [] [] none) (tree_Height.c18))
def tree_Height.c11 : Cd := .seq (.seq (.reg false [⟨some 13, .load (.d tWorld) (.t 2), none, [], []⟩,
    ⟨some 14, .move (.t 6), none, [], []⟩,
    ⟨some 15, .move (.t 1), none, [], []⟩,
    ⟨some 16, .call (.f 31) [(.t 13), (.t 14), (.t 15)] [.d .bool] [] false, none, [], []⟩]) (tree_Height.c14)) (tree_Height.c13)
def tree_Height.c17 : Cd := .tidy [26] [] [] none
def tree_Height.c10 : Cd := .seq (.reg false [⟨some 26, .bin .add (.t 10) (.c (.int .i64) (1 : Int)), none, [], []⟩,
    ⟨some 10, .move (.t 26), none, [], []⟩]) (tree_Height.c17)
def tree_Height.c8 : Cd := .seq (.block 1 (.seq (.seq (.reg false [⟨some 12, .move (.t 10), none, [], []⟩,
    ⟨some 6, .move (.t 12), none, [], []⟩]) (tree_Height.c12)) (tree_Height.c11))) (tree_Height.c10)
def tree_Height.c7 : Cd := .seq (.cond (.t 11) (.seq (.tidy [11] [] [] none) (tree_Height.c9)) (.seq (.tidy [11] [] [] none) (tree_Height.c19))) (tree_Height.c8)
def tree_Height.c6 : Cd := .tidy [6] [] [] (some 1)
def tree_Height.c5 : Cd := .seq (.seq (.reg false [⟨some 11, .bin .lss (.t 10) (.t 9), none, [], []⟩]) (tree_Height.c7)) (tree_Height.c6)
def tree_Height.c3 : Cd := .block 0 (.loop (tree_Height.c5))
def tree_Height.c21 : Cd := .tidy [27] [] [] none
def tree_Height.c20 : Cd := .ret
def tree_Height.c2 : Cd := .seq (.seq (.reg false [⟨some 27, .move (.t 5), none, [], []⟩,
    ⟨some 4, .move (.t 27), none, [], []⟩]) (tree_Height.c21)) (tree_Height.c20)
def tree_Height.c1 : Cd := .seq (.seq (.seq (.reg false [⟨some 7, .fieldAddr (.d tWorld) 3 (.t 2), none, [], []⟩,
    ⟨some 8, .load (.d (.sl tPlace)) (.t 7), none, [], []⟩,
    ⟨some 9, .len (.t 8), none, [], []⟩,
    ⟨some 10, .move (.c (.int .i64) (0 : Int)), none, [], []⟩]) (tree_Height.c4)) (tree_Height.c3)) (tree_Height.c2)
def tree_Height.c0 : Cd := .seq (.reg false [⟨some 5, .move (.c (.int .i64) (0 : Int)), none, [], []⟩]) (tree_Height.c1)
def tree_Height.fn : Fn := ⟨2, [.tmp 4], .seq (.reg false [⟨some 2, .box 0 (.t 0), none, [], []⟩,
    ⟨some 4, .move (.c (.int .i64) (0 : Int)), none, [], []⟩]) (tree_Height.c0)⟩
def boxes_Put_5.c2 : Cd := .tidy [4, 5, 6, 7, 8, 9, 10, 11, 12] [] [] none
def boxes_Put_5.c1 : Cd := .ret
def boxes_Put_5.c0 : Cd := .seq (.seq (.reg true [⟨some 4, .load (.d tWorld) (.t 0), none, [], []⟩,
    ⟨some 5, .load (.d (.int .i64)) (.t 1), none, [], []⟩,
    ⟨some 6, .call (.f 33) [(.t 4), (.t 5)] [.d (.int .i64)] [] false, none, [], []⟩,
    ⟨some 7, .bin .add (.t 6) (.c (.int .i64) (1 : Int)), none, [], []⟩,
    ⟨some 8, .load (.d tWorld) (.t 0), none, [], []⟩,
    ⟨some 9, .load (.d (.int .i64)) (.t 2), none, [], []⟩,
    ⟨some 10, .call (.f 34) [(.t 8), (.t 9)] [.d (.int .i64)] [] false, none, [], []⟩,
    ⟨some 11, .bin .add (.t 7) (.t 10), none, [], []⟩,
    ⟨some 12, .bin .gtr (.t 11) (.c (.int .i64) (4 : Int)), none, [], []⟩,
    ⟨some 3, .move (.t 12), none, [], []⟩]) (boxes_Put_5.c2)) (boxes_Put_5.c1)
def boxes_Put_5.fn : Fn := ⟨3, [.tmp 3], .seq (.reg false [⟨some 3, .move (.c .bool false), none, [], []⟩]) (boxes_Put_5.c0)⟩
def tree_In.c4 : Cd := .tidy [8] [] [] none
def tree_In.c9 : Cd := .skip
def tree_In.c19 : Cd := .exit 0
def tree_In.c12 : Cd := .tidy [13, 14, 15] [] [] none
def tree_In.c14 : Cd := .tidy [16, 17] [] [] none
def tree_In.c16 : Cd := .tidy [19, 20, 21, 22] [] [] none
def tree_In.c15 : Cd := .seq (.reg false [⟨some 19, .move (.t 5), none, [], []⟩,
    ⟨some 20, .move (.t 6), none, [], []⟩,
    ⟨some 21, .slice 3 (.int .i64) [(.t 20)], none, [], []⟩,
    ⟨some 22, .append 4 (.int .i64) (.t 19) (.t 21), none, [], []⟩,
    ⟨some 5, .move (.t 22), none, [], []⟩]) (tree_In.c16)
def tree_In.c18 : Cd := .skip
def tree_In.c13 : Cd := .cond (.t 18) (.seq (.tidy [18] [] [] none) (tree_In.c15)) (.seq (.tidy [18] [] [] none) (tree_In.c18))
def tree_In.c11 : Cd := .seq (.seq (.reg false [⟨some 16, .load (.d tPlace) (.t 3), none, [], []⟩,
    ⟨some 17, .load (.d tPlace) (.t 7), none, [], []⟩,
    ⟨some 18, .eqs tPlace false (.t 16) (.t 17), none, [], []⟩]) (tree_In.c14)) (tree_In.c13)
def tree_In.c17 : Cd := .tidy [23] [] [] none
def tree_In.c10 : Cd := .seq (.reg false [⟨some 23, .bin .add (.t 11) (.c (.int .i64) (1 : Int)), none, [], []⟩,
    ⟨some 11, .move (.t 23), none, [], []⟩]) (tree_In.c17)
def tree_In.c8 : Cd := .seq (.block 1 (.seq (.seq (.reg false [⟨some 13, .move (.t 11), none, [], []⟩,
    ⟨some 14, .index (.sl tPlace) (.t 9) (.t 11), none, [], []⟩,
    ⟨some 15, .load (.d tPlace) (.t 14), none, [], []⟩,
    ⟨some 7, .newbox 2 tPlace [], none, [], []⟩,
    ⟨some 6, .move (.t 13), none, [], []⟩,
    ⟨none, .store (.d tPlace) (.t 7) (.t 15), none, [], []⟩]) (tree_In.c12)) (tree_In.c11))) (tree_In.c10)
def tree_In.c7 : Cd := .seq (.cond (.t 12) (.seq (.tidy [12] [] [] none) (tree_In.c9)) (.seq (.tidy [12] [] [] none) (tree_In.c19))) (tree_In.c8)
def tree_In.c6 : Cd := .tidy [6, 7] [(4, 5)] [2, 3] (some 6)
def tree_In.c5 : Cd := .seq (.seq (.reg false [⟨some 12, .bin .lss (.t 11) (.t 10), none, [], []⟩]) (tree_In.c7)) (tree_In.c6)
def tree_In.c3 : Cd := .block 0 (.loop (tree_In.c5))
def tree_In.c21 : Cd := .tidy [24] [] [] none
def tree_In.c20 : Cd := .ret
def tree_In.c2 : Cd := .seq (.seq (.reg false [⟨some 24, .move (.t 5), none, [], []⟩,
    ⟨some 4, .move (.t 24), none, [], []⟩]) (tree_In.c21)) (tree_In.c20)
def tree_In.c1 : Cd := .seq (.seq (.seq (.reg false [⟨some 8, .fieldAddr (.d tWorld) 3 (.t 2), none, [], []⟩,
    ⟨some 9, .load (.d (.sl tPlace)) (.t 8), none, [], []⟩,
    ⟨some 10, .len (.t 9), none, [], []⟩,
    ⟨some 11, .move (.c (.int .i64) (0 : Int)), none, [], []⟩]) (tree_In.c4)) (tree_In.c3)) (tree_In.c2)
def tree_In.c0 : Cd := .seq (.reg false [⟨some 5, .mknil 5 (.int .i64), none, [], []⟩]) (tree_In.c1)
def tree_In.fn : Fn := ⟨2, [.tmp 4], .seq (.reg false [⟨some 2, .box 0 (.t 0), none, [], []⟩,
    ⟨some 3, .box 1 (.t 1), none, [], []⟩,
    ⟨some 4, .move (.c (.sl (.int .i64)) []), none, [], []⟩]) (tree_In.c0)⟩
def tree_Room.c2 : Cd := .tidy [6, 7, 8, 9, 10, 11, 12, 13, 14, 15] [] [] none
def tree_Room.c4 : Cd := .tidy [16, 17, 18, 19, 20, 21, 22, 23, 24] [] [] none
def tree_Room.c3 : Cd := .ret
def tree_Room.c1 : Cd := .seq (.seq (.reg true [⟨some 16, .fieldAddr (.d tPlace) 0 (.t 3), none, [1], []⟩,
    ⟨some 17, .load (.d (.int .i64)) (.t 16), none, [1], []⟩,
    ⟨some 18, .index (.arr 3 (.int .i64)) (.t 5) (.t 17), none, [2], []⟩,
    ⟨some 19, .load (.d (.int .i64)) (.t 18), none, [2], []⟩,
    ⟨some 20, .load (.d tWorld) (.t 2), none, [0], []⟩,
    ⟨some 21, .load (.d tPlace) (.t 3), none, [1], []⟩,
    ⟨some 22, .call (.f 56) [(.t 20), (.t 21)] [.d (.sl (.int .i64))] [] false, none, [], []⟩,
    ⟨some 23, .len (.t 22), none, [], []⟩,
    ⟨some 24, .bin .sub (.t 19) (.t 23), none, [], []⟩,
    ⟨some 4, .move (.t 24), none, [], []⟩]) (tree_Room.c4)) (tree_Room.c3)
def tree_Room.c0 : Cd := .seq (.seq (.reg false [⟨some 6, .fieldAddr (.d tWorld) 0 (.t 2), none, [], []⟩,
    ⟨some 7, .fieldAddr (.d tDesc) 5 (.t 6), none, [], []⟩,
    ⟨some 8, .load (.d (.int .i64)) (.t 7), none, [], []⟩,
    ⟨some 9, .fieldAddr (.d tWorld) 0 (.t 2), none, [], []⟩,
    ⟨some 10, .fieldAddr (.d tDesc) 6 (.t 9), none, [], []⟩,
    ⟨some 11, .load (.d (.int .i64)) (.t 10), none, [], []⟩,
    ⟨some 12, .fieldAddr (.d tWorld) 0 (.t 2), none, [], []⟩,
    ⟨some 13, .fieldAddr (.d tDesc) 7 (.t 12), none, [], []⟩,
    ⟨some 14, .load (.d (.int .i64)) (.t 13), none, [], []⟩,
    ⟨some 15, .build (.arr 3 (.int .i64)) [(0, (.t 8)), (1, (.t 11)), (2, (.t 14))] [], none, [], []⟩,
    ⟨some 5, .newbox 2 (.arr 3 (.int .i64)) [], none, [], []⟩,
    ⟨none, .store (.d (.arr 3 (.int .i64))) (.t 5) (.t 15), none, [], []⟩]) (tree_Room.c2)) (tree_Room.c1)
def tree_Room.fn : Fn := ⟨2, [.tmp 4], .seq (.reg false [⟨some 2, .box 0 (.t 0), none, [], []⟩,
    ⟨some 3, .box 1 (.t 1), none, [], []⟩,
    ⟨some 4, .move (.c (.int .i64) (0 : Int)), none, [], []⟩]) (tree_Room.c0)⟩
def boxes_Put_6.c2 : Cd := .tidy [3, 4, 5, 6] [] [] none
def boxes_Put_6.c1 : Cd := .ret
def boxes_Put_6.c0 : Cd := .seq (.seq (.reg false [⟨some 3, .load (.d tWorld) (.t 0), none, [], []⟩,
    ⟨some 4, .load (.d tPlace) (.t 1), none, [], []⟩,
    ⟨some 5, .call (.f 36) [(.t 3), (.t 4)] [.d (.int .i64)] [] false, none, [], []⟩,
    ⟨some 6, .bin .lss (.t 5) (.c (.int .i64) (1 : Int)), none, [], []⟩,
    ⟨some 2, .move (.t 6), none, [], []⟩]) (boxes_Put_6.c2)) (boxes_Put_6.c1)
def boxes_Put_6.fn : Fn := ⟨2, [.tmp 2], .seq (.reg false [⟨some 2, .move (.c .bool false), none, [], []⟩]) (boxes_Put_6.c0)⟩
def boxes_first.c7 : Cd := .skip
def boxes_first.c18 : Cd := .exit 0
def boxes_first.c10 : Cd := .tidy [9, 10] [] [] none
def boxes_first.c12 : Cd := .tidy [11, 12] [] [] none
def boxes_first.c15 : Cd := .tidy [14, 15] [] [] none
def boxes_first.c14 : Cd := .ret
def boxes_first.c13 : Cd := .seq (.seq (.reg false [⟨some 14, .fieldAddr (.v [1, 1]) 1 (.t 4), none, [], []⟩,
    ⟨some 15, .load (.d (.int .i64)) (.t 14), none, [], []⟩,
    ⟨some 2, .move (.t 15), none, [], []⟩]) (boxes_first.c15)) (boxes_first.c14)
def boxes_first.c16 : Cd := .skip
def boxes_first.c11 : Cd := .cond (.t 13) (.seq (.tidy [13] [] [] none) (boxes_first.c13)) (.seq (.tidy [13] [] [] none) (boxes_first.c16))
def boxes_first.c9 : Cd := .seq (.seq (.reg false [⟨some 11, .fieldAddr (.v [1, 1]) 0 (.t 4), none, [], []⟩,
    ⟨some 12, .load (.v false 1) (.t 11), none, [], []⟩,
    ⟨some 13, .call (.t 12) [] [.d .bool] [] false, none, [], []⟩]) (boxes_first.c12)) (boxes_first.c11)
def boxes_first.c17 : Cd := .tidy [16] [] [] none
def boxes_first.c8 : Cd := .seq (.reg false [⟨some 16, .bin .add (.t 7) (.c (.int .i64) (1 : Int)), none, [], []⟩,
    ⟨some 7, .move (.t 16), none, [], []⟩]) (boxes_first.c17)
def boxes_first.c6 : Cd := .seq (.block 1 (.seq (.seq (.reg false [⟨some 9, .index (.slv 2) (.t 5) (.t 7), none, [], []⟩,
    ⟨some 10, .load (.v true 2) (.t 9), none, [], []⟩,
    ⟨some 4, .newboxv 0 (.agv [.nilfn, .dat (.int .i64) 0 []]), none, [], []⟩,
    ⟨none, .store (.v true 2) (.t 4) (.t 10), none, [], []⟩]) (boxes_first.c10)) (boxes_first.c9))) (boxes_first.c8)
def boxes_first.c5 : Cd := .seq (.cond (.t 8) (.seq (.tidy [8] [] [] none) (boxes_first.c7)) (.seq (.tidy [8] [] [] none) (boxes_first.c18))) (boxes_first.c6)
def boxes_first.c4 : Cd := .tidy [4] [] [] (some 0)
def boxes_first.c3 : Cd := .seq (.seq (.reg false [⟨some 8, .bin .lss (.t 7) (.t 6), none, [], []⟩]) (boxes_first.c5)) (boxes_first.c4)
def boxes_first.c2 : Cd := .block 0 (.loop (boxes_first.c3))
def boxes_first.c19 : Cd := .ret
def boxes_first.c1 : Cd := .seq (.reg false [⟨some 2, .move (.c (.int .i64) (0 : Int)), none, [], []⟩]) (boxes_first.c19)
def boxes_first.c0 : Cd := .seq (.seq (.reg false [⟨some 5, .move (.t 0), none, [], []⟩,
    ⟨some 6, .len (.t 5), none, [], []⟩,
    ⟨some 7, .move (.c (.int .i64) (0 : Int)), none, [], []⟩]) (boxes_first.c2)) (boxes_first.c1)
def boxes_first.fn : Fn := ⟨1, [.tmp 2], .seq (.reg false [⟨some 2, .move (.c (.int .i64) (0 : Int)), none, [], []⟩]) (boxes_first.c0)⟩
def desc_Copy.c2 : Cd := .tidy [3, 4, 5, 6, 7, 8, 9, 10, 11, 12, 13, 14] [] [] none
def desc_Copy.c4 : Cd := .tidy [15] [] [] none
def desc_Copy.c3 : Cd := .ret
def desc_Copy.c1 : Cd := .seq (.seq (.reg false [⟨some 15, .load (.d tWorld) (.t 1), none, [], []⟩,
    ⟨none, .store (.d tWorld) (.t 2) (.t 15), none, [], []⟩]) (desc_Copy.c4)) (desc_Copy.c3)
def desc_Copy.c0 : Cd := .seq (.seq (.reg true [⟨some 3, .fieldAddr (.d tWorld) 1 (.t 1), none, [0], []⟩,
    ⟨some 4, .load (.d (.sl (.int .i64))) (.t 3), none, [0], []⟩,
    ⟨some 5, .call (.f 60) [(.t 4)] [.d (.sl (.int .i64))] [((0, []), 2)] false, none, [], [2]⟩,
    ⟨some 6, .fieldAddr (.d tWorld) 2 (.t 1), none, [0], []⟩,
    ⟨some 7, .load (.d (.sl (.int .i64))) (.t 6), none, [0], []⟩,
    ⟨some 8, .call (.f 60) [(.t 7)] [.d (.sl (.int .i64))] [((0, []), 3)] false, none, [], [3]⟩,
    ⟨some 9, .fieldAddr (.d tWorld) 3 (.t 1), none, [0], []⟩,
    ⟨some 10, .load (.d (.sl tPlace)) (.t 9), none, [0], []⟩,
    ⟨some 11, .call (.f 61) [(.t 10)] [.d (.sl tPlace)] [((0, []), 4)] false, none, [], [4]⟩,
    ⟨some 12, .fieldAddr (.d tWorld) 1 (.t 1), none, [0], []⟩,
    ⟨none, .store (.d (.sl (.int .i64))) (.t 12) (.t 5), none, [], [0]⟩,
    ⟨some 13, .fieldAddr (.d tWorld) 2 (.t 1), none, [0], []⟩,
    ⟨none, .store (.d (.sl (.int .i64))) (.t 13) (.t 8), none, [], [0]⟩,
    ⟨some 14, .fieldAddr (.d tWorld) 3 (.t 1), none, [0], []⟩,
    ⟨none, .store (.d (.sl tPlace)) (.t 14) (.t 11), none, [], [0]⟩]) (desc_Copy.c2)) (desc_Copy.c1)
def desc_Copy.fn : Fn := ⟨1, [.cell 2 (.d tWorld)], .seq (.reg false [⟨some 1, .box 0 (.t 0), none, [], []⟩,
    ⟨some 2, .newbox 1 tWorld [], none, [], []⟩]) (desc_Copy.c0)⟩
def hold_To.c2 : Cd := .tidy [8, 9] [] [] none
def hold_To.c4 : Cd := .tidy [10, 11, 12, 13, 14] [] [] none
def hold_To.c6 : Cd := .tidy [15] [] [] none
def hold_To.c5 : Cd := .ret
def hold_To.c3 : Cd := .seq (.seq (.reg false [⟨some 15, .load (.d tWorld) (.t 7), none, [], []⟩,
    ⟨none, .store (.d tWorld) (.t 6) (.t 15), none, [], []⟩]) (hold_To.c6)) (hold_To.c5)
def hold_To.c1 : Cd := .seq (.seq (.reg false [⟨some 10, .fieldAddr (.d tWorld) 3 (.t 7), none, [], []⟩,
    ⟨some 11, .load (.d (.sl tPlace)) (.t 10), none, [], []⟩,
    ⟨some 12, .move (.t 1), none, [], []⟩,
    ⟨some 13, .load (.d tPlace) (.t 5), none, [], []⟩,
    ⟨some 14, .index (.sl tPlace) (.t 11) (.t 12), none, [], []⟩,
    ⟨none, .store (.d tPlace) (.t 14) (.t 13), none, [], []⟩]) (hold_To.c4)) (hold_To.c3)
def hold_To.c0 : Cd := .seq (.seq (.reg false [⟨some 8, .load (.d tWorld) (.t 3), none, [], []⟩,
    ⟨some 9, .call (.f 57) [(.t 8)] [.d tWorld] [((0, [3]), 4)] false, none, [], []⟩,
    ⟨some 7, .newbox 3 tWorld [], none, [], []⟩,
    ⟨none, .store (.d tWorld) (.t 7) (.t 9), none, [], []⟩]) (hold_To.c2)) (hold_To.c1)
def hold_To.fn : Fn := ⟨3, [.cell 6 (.d tWorld)], .seq (.reg false [⟨some 3, .box 0 (.t 0), none, [], []⟩,
    ⟨some 5, .box 1 (.t 2), none, [], []⟩,
    ⟨some 6, .newbox 2 tWorld [], none, [], []⟩]) (hold_To.c0)⟩
def boxes_Put.c2 : Cd := .tidy [13, 14, 15, 16] [] [] none
def boxes_Put.c4 : Cd := .tidy [17, 18, 19, 20, 21, 22, 23, 24, 25, 26, 27, 28, 29, 30] [] [] none
def boxes_Put.c7 : Cd := .tidy [31] [] [] none
def boxes_Put.c10 : Cd := .tidy [33, 34] [] [] none
def boxes_Put.c9 : Cd := .ret
def boxes_Put.c8 : Cd := .seq (.seq (.reg false [⟨some 33, .load (.d tWorld) (.t 4), none, [], []⟩,
    ⟨some 34, .move (.t 12), none, [], []⟩,
    ⟨none, .store (.d tWorld) (.t 8) (.t 33), none, [], []⟩,
    ⟨some 9, .move (.t 34), none, [], []⟩]) (boxes_Put.c10)) (boxes_Put.c9)
def boxes_Put.c11 : Cd := .skip
def boxes_Put.c6 : Cd := .cond (.t 32) (.seq (.tidy [32] [] [] none) (boxes_Put.c8)) (.seq (.tidy [32] [] [] none) (boxes_Put.c11))
def boxes_Put.c13 : Cd := .tidy [35, 36, 37, 38] [] [] none
def boxes_Put.c12 : Cd := .ret
def boxes_Put.c5 : Cd := .seq (.seq (.reg false [⟨some 35, .load (.d tWorld) (.t 4), none, [], []⟩,
    ⟨some 36, .load (.d (.int .i64)) (.t 6), none, [], []⟩,
    ⟨some 37, .load (.d tPlace) (.t 11), none, [], []⟩,
    ⟨some 38, .call (.f 37) [(.t 35), (.t 36), (.t 37)] [.d tWorld] [((0, [3]), 7)] false, none, [], []⟩,
    ⟨none, .store (.d tWorld) (.t 8) (.t 38), none, [], []⟩,
    ⟨some 9, .move (.c (.int .i64) (0 : Int)), none, [], []⟩]) (boxes_Put.c13)) (boxes_Put.c12)
def boxes_Put.c3 : Cd := .seq (.seq (.seq (.reg false [⟨some 31, .move (.t 12), none, [], []⟩,
    ⟨some 32, .bin .neq (.t 31) (.c (.int .i64) (0 : Int)), none, [], []⟩]) (boxes_Put.c7)) (boxes_Put.c6)) (boxes_Put.c5)
def boxes_Put.c1 : Cd := .seq (.seq (.reg false [⟨some 17, .func 26 [(.t 4), (.t 6), (.t 7)], none, [], []⟩,
    ⟨some 18, .buildv [1, 1] [(.t 17), (.c (.int .i64) (3 : Int))], none, [], []⟩,
    ⟨some 19, .func 28 [(.t 4), (.t 6), (.t 10), (.t 5), (.t 7)], none, [], []⟩,
    ⟨some 20, .buildv [1, 1] [(.t 19), (.c (.int .i64) (5 : Int))], none, [], []⟩,
    ⟨some 21, .func 29 [(.t 4), (.t 7)], none, [], []⟩,
    ⟨some 22, .buildv [1, 1] [(.t 21), (.c (.int .i64) (6 : Int))], none, [], []⟩,
    ⟨some 23, .func 30 [(.t 4), (.t 7), (.t 6)], none, [], []⟩,
    ⟨some 24, .buildv [1, 1] [(.t 23), (.c (.int .i64) (7 : Int))], none, [], []⟩,
    ⟨some 25, .func 32 [(.t 4), (.t 7), (.t 6)], none, [], []⟩,
    ⟨some 26, .buildv [1, 1] [(.t 25), (.c (.int .i64) (8 : Int))], none, [], []⟩,
    ⟨some 27, .func 35 [(.t 4), (.t 11)], none, [], []⟩,
    ⟨some 28, .buildv [1, 1] [(.t 27), (.c (.int .i64) (9 : Int))], none, [], []⟩,
    ⟨some 29, .slicev 2 [(.t 18), (.t 20), (.t 22), (.t 24), (.t 26), (.t 28)], none, [], []⟩,
    ⟨some 30, .call (.f 25) [(.t 29)] [.d (.int .i64)] [] false, none, [], []⟩,
    ⟨some 12, .move (.t 30), none, [], []⟩]) (boxes_Put.c4)) (boxes_Put.c3)
def boxes_Put.c0 : Cd := .seq (.seq (.reg true [⟨some 13, .load (.d (.int .i64)) (.t 5), none, [1], []⟩,
    ⟨some 14, .build tPlace [(0, (.c (.int .i64) (1 : Int))), (1, (.t 13))] [], none, [], []⟩,
    ⟨some 15, .load (.d (.int .i64)) (.t 7), none, [3], []⟩,
    ⟨some 16, .build tPlace [(0, (.c (.int .i64) (2 : Int))), (1, (.t 15))] [], none, [], []⟩,
    ⟨some 10, .newbox 5 tPlace [], none, [], [5]⟩,
    ⟨some 11, .newbox 6 tPlace [], none, [], [6]⟩,
    ⟨none, .store (.d tPlace) (.t 10) (.t 14), none, [], [5]⟩,
    ⟨none, .store (.d tPlace) (.t 11) (.t 16), none, [], [6]⟩]) (boxes_Put.c2)) (boxes_Put.c1)
def boxes_Put.fn : Fn := ⟨4, [.cell 8 (.d tWorld), .tmp 9], .seq (.reg false [⟨some 4, .box 0 (.t 0), none, [], []⟩,
    ⟨some 5, .box 1 (.t 1), none, [], []⟩,
    ⟨some 6, .box 2 (.t 2), none, [], []⟩,
    ⟨some 7, .box 3 (.t 3), none, [], []⟩,
    ⟨some 8, .newbox 4 tWorld [], none, [], []⟩,
    ⟨some 9, .move (.c (.int .i64) (0 : Int)), none, [], []⟩]) (boxes_Put.c0)⟩
def boxes_Take_1.c2 : Cd := .tidy [4, 5, 6, 7, 8, 9, 10, 11] [] [] none
def boxes_Take_1.c1 : Cd := .ret
def boxes_Take_1.c0 : Cd := .seq (.seq (.reg false [⟨some 4, .load (.d tWorld) (.t 0), none, [], []⟩,
    ⟨some 5, .load (.d (.int .i64)) (.t 1), none, [], []⟩,
    ⟨some 6, .call (.f 27) [(.t 4), (.t 5)] [.d .bool] [] false, none, [], []⟩,
    ⟨some 7, .move (.t 6), none, [], []⟩,
    ⟨some 8, .load (.d tWorld) (.t 0), some (7, false), [], []⟩,
    ⟨some 9, .load (.d (.int .i64)) (.t 2), some (7, false), [], []⟩,
    ⟨some 10, .call (.f 27) [(.t 8), (.t 9)] [.d .bool] [] false, some (7, false), [], []⟩,
    ⟨some 11, .pick (.t 7) (.c .bool true) (.t 10), none, [], []⟩,
    ⟨some 3, .move (.t 11), none, [], []⟩]) (boxes_Take_1.c2)) (boxes_Take_1.c1)
def boxes_Take_1.fn : Fn := ⟨3, [.tmp 3], .seq (.reg false [⟨some 3, .move (.c .bool false), none, [], []⟩]) (boxes_Take_1.c0)⟩
def boxes_Take_2.c2 : Cd := .tidy [4, 5, 6, 7, 8] [] [] none
def boxes_Take_2.c1 : Cd := .ret
def boxes_Take_2.c0 : Cd := .seq (.seq (.reg false [⟨some 4, .load (.d tWorld) (.t 0), none, [], []⟩,
    ⟨some 5, .load (.d (.int .i64)) (.t 1), none, [], []⟩,
    ⟨some 6, .load (.d (.int .i64)) (.t 2), none, [], []⟩,
    ⟨some 7, .call (.f 15) [(.t 4), (.t 5), (.t 6)] [.d .bool] [] false, none, [], []⟩,
    ⟨some 8, .not (.t 7), none, [], []⟩,
    ⟨some 3, .move (.t 8), none, [], []⟩]) (boxes_Take_2.c2)) (boxes_Take_2.c1)
def boxes_Take_2.fn : Fn := ⟨3, [.tmp 3], .seq (.reg false [⟨some 3, .move (.c .bool false), none, [], []⟩]) (boxes_Take_2.c0)⟩
def boxes_Take_3.c2 : Cd := .tidy [3, 4, 5, 6, 7, 8, 9] [] [] none
def boxes_Take_3.c1 : Cd := .ret
def boxes_Take_3.c0 : Cd := .seq (.seq (.reg false [⟨some 3, .fieldAddr (.d tWorld) 0 (.t 0), none, [], []⟩,
    ⟨some 4, .fieldAddr (.d tDesc) 4 (.t 3), none, [], []⟩,
    ⟨some 5, .load (.d (.sl .bool)) (.t 4), none, [], []⟩,
    ⟨some 6, .load (.d (.int .i64)) (.t 1), none, [], []⟩,
    ⟨some 7, .index (.sl .bool) (.t 5) (.t 6), none, [], []⟩,
    ⟨some 8, .load (.d .bool) (.t 7), none, [], []⟩,
    ⟨some 9, .not (.t 8), none, [], []⟩,
    ⟨some 2, .move (.t 9), none, [], []⟩]) (boxes_Take_3.c2)) (boxes_Take_3.c1)
def boxes_Take_3.fn : Fn := ⟨2, [.tmp 2], .seq (.reg false [⟨some 2, .move (.c .bool false), none, [], []⟩]) (boxes_Take_3.c0)⟩
def boxes_Take_4.c2 : Cd := .tidy [4, 5, 6, 7, 8, 9, 10] [] [] none
def boxes_Take_4.c1 : Cd := .ret
def boxes_Take_4.c0 : Cd := .seq (.seq (.reg true [⟨some 4, .fieldAddr (.d tWorld) 3 (.t 0), none, [], []⟩,
    ⟨some 5, .load (.d (.sl tPlace)) (.t 4), none, [], []⟩,
    ⟨some 6, .load (.d (.int .i64)) (.t 1), none, [], []⟩,
    ⟨some 7, .index (.sl tPlace) (.t 5) (.t 6), none, [], []⟩,
    ⟨some 8, .load (.d tPlace) (.t 7), none, [], []⟩,
    ⟨some 9, .load (.d tPlace) (.t 2), none, [], []⟩,
    ⟨some 10, .eqs tPlace true (.t 8) (.t 9), none, [], []⟩,
    ⟨some 3, .move (.t 10), none, [], []⟩]) (boxes_Take_4.c2)) (boxes_Take_4.c1)
def boxes_Take_4.fn : Fn := ⟨3, [.tmp 3], .seq (.reg false [⟨some 3, .move (.c .bool false), none, [], []⟩]) (boxes_Take_4.c0)⟩
def boxes_Take_5.c2 : Cd := .tidy [3, 4, 5, 6] [] [] none
def boxes_Take_5.c1 : Cd := .ret
def boxes_Take_5.c0 : Cd := .seq (.seq (.reg false [⟨some 3, .load (.d tWorld) (.t 0), none, [], []⟩,
    ⟨some 4, .load (.d tPlace) (.t 1), none, [], []⟩,
    ⟨some 5, .call (.f 36) [(.t 3), (.t 4)] [.d (.int .i64)] [] false, none, [], []⟩,
    ⟨some 6, .bin .lss (.t 5) (.c (.int .i64) (1 : Int)), none, [], []⟩,
    ⟨some 2, .move (.t 6), none, [], []⟩]) (boxes_Take_5.c2)) (boxes_Take_5.c1)
def boxes_Take_5.fn : Fn := ⟨2, [.tmp 2], .seq (.reg false [⟨some 2, .move (.c .bool false), none, [], []⟩]) (boxes_Take_5.c0)⟩
def boxes_Take.c2 : Cd := .tidy [13, 14, 15, 16] [] [] none
def boxes_Take.c4 : Cd := .tidy [17, 18, 19, 20, 21, 22, 23, 24, 25, 26, 27, 28] [] [] none
def boxes_Take.c7 : Cd := .tidy [29] [] [] none
def boxes_Take.c10 : Cd := .tidy [31, 32] [] [] none
def boxes_Take.c9 : Cd := .ret
def boxes_Take.c8 : Cd := .seq (.seq (.reg false [⟨some 31, .load (.d tWorld) (.t 4), none, [], []⟩,
    ⟨some 32, .move (.t 12), none, [], []⟩,
    ⟨none, .store (.d tWorld) (.t 8) (.t 31), none, [], []⟩,
    ⟨some 9, .move (.t 32), none, [], []⟩]) (boxes_Take.c10)) (boxes_Take.c9)
def boxes_Take.c11 : Cd := .skip
def boxes_Take.c6 : Cd := .cond (.t 30) (.seq (.tidy [30] [] [] none) (boxes_Take.c8)) (.seq (.tidy [30] [] [] none) (boxes_Take.c11))
def boxes_Take.c13 : Cd := .tidy [33, 34, 35, 36] [] [] none
def boxes_Take.c12 : Cd := .ret
def boxes_Take.c5 : Cd := .seq (.seq (.reg false [⟨some 33, .load (.d tWorld) (.t 4), none, [], []⟩,
    ⟨some 34, .load (.d (.int .i64)) (.t 6), none, [], []⟩,
    ⟨some 35, .load (.d tPlace) (.t 10), none, [], []⟩,
    ⟨some 36, .call (.f 37) [(.t 33), (.t 34), (.t 35)] [.d tWorld] [] false, none, [], []⟩,
    ⟨none, .store (.d tWorld) (.t 8) (.t 36), none, [], []⟩,
    ⟨some 9, .move (.c (.int .i64) (0 : Int)), none, [], []⟩]) (boxes_Take.c13)) (boxes_Take.c12)
def boxes_Take.c3 : Cd := .seq (.seq (.seq (.reg false [⟨some 29, .move (.t 12), none, [], []⟩,
    ⟨some 30, .bin .neq (.t 29) (.c (.int .i64) (0 : Int)), none, [], []⟩]) (boxes_Take.c7)) (boxes_Take.c6)) (boxes_Take.c5)
def boxes_Take.c1 : Cd := .seq (.seq (.reg false [⟨some 17, .func 41 [(.t 4), (.t 6), (.t 7)], none, [], []⟩,
    ⟨some 18, .buildv [1, 1] [(.t 17), (.c (.int .i64) (3 : Int))], none, [], []⟩,
    ⟨some 19, .func 42 [(.t 4), (.t 5), (.t 7)], none, [], []⟩,
    ⟨some 20, .buildv [1, 1] [(.t 19), (.c (.int .i64) (5 : Int))], none, [], []⟩,
    ⟨some 21, .func 43 [(.t 4), (.t 7)], none, [], []⟩,
    ⟨some 22, .buildv [1, 1] [(.t 21), (.c (.int .i64) (6 : Int))], none, [], []⟩,
    ⟨some 23, .func 44 [(.t 4), (.t 6), (.t 11)], none, [], []⟩,
    ⟨some 24, .buildv [1, 1] [(.t 23), (.c (.int .i64) (5 : Int))], none, [], []⟩,
    ⟨some 25, .func 45 [(.t 4), (.t 10)], none, [], []⟩,
    ⟨some 26, .buildv [1, 1] [(.t 25), (.c (.int .i64) (9 : Int))], none, [], []⟩,
    ⟨some 27, .slicev 2 [(.t 18), (.t 20), (.t 22), (.t 24), (.t 26)], none, [], []⟩,
    ⟨some 28, .call (.f 25) [(.t 27)] [.d (.int .i64)] [] false, none, [], []⟩,
    ⟨some 12, .move (.t 28), none, [], []⟩]) (boxes_Take.c4)) (boxes_Take.c3)
def boxes_Take.c0 : Cd := .seq (.seq (.reg true [⟨some 13, .load (.d (.int .i64)) (.t 5), none, [1], []⟩,
    ⟨some 14, .build tPlace [(0, (.c (.int .i64) (1 : Int))), (1, (.t 13))] [], none, [], []⟩,
    ⟨some 15, .load (.d (.int .i64)) (.t 7), none, [3], []⟩,
    ⟨some 16, .build tPlace [(0, (.c (.int .i64) (2 : Int))), (1, (.t 15))] [], none, [], []⟩,
    ⟨some 10, .newbox 5 tPlace [], none, [], [5]⟩,
    ⟨some 11, .newbox 6 tPlace [], none, [], [6]⟩,
    ⟨none, .store (.d tPlace) (.t 10) (.t 14), none, [], [5]⟩,
    ⟨none, .store (.d tPlace) (.t 11) (.t 16), none, [], [6]⟩]) (boxes_Take.c2)) (boxes_Take.c1)
def boxes_Take.fn : Fn := ⟨4, [.cell 8 (.d tWorld), .tmp 9], .seq (.reg false [⟨some 4, .box 0 (.t 0), none, [], []⟩,
    ⟨some 5, .box 1 (.t 1), none, [], []⟩,
    ⟨some 6, .box 2 (.t 2), none, [], []⟩,
    ⟨some 7, .box 3 (.t 3), none, [], []⟩,
    ⟨some 8, .newbox 4 tWorld [], none, [], []⟩,
    ⟨some 9, .move (.c (.int .i64) (0 : Int)), none, [], []⟩]) (boxes_Take.c0)⟩
def innkeepref03_Ints.c3 : Cd := .tidy [6, 7, 8, 9] [] [] none
def innkeepref03_Ints.c5 : Cd := .ret
def innkeepref03_Ints.c4 : Cd := .seq (.reg false [⟨some 4, .move (.c .bool false), none, [], []⟩]) (innkeepref03_Ints.c5)
def innkeepref03_Ints.c6 : Cd := .skip
def innkeepref03_Ints.c2 : Cd := .cond (.t 10) (.seq (.tidy [10] [] [] none) (innkeepref03_Ints.c4)) (.seq (.tidy [10] [] [] none) (innkeepref03_Ints.c6))
def innkeepref03_Ints.c13 : Cd := .tidy [11, 12, 13] [] [] none
def innkeepref03_Ints.c14 : Cd := .skip
def innkeepref03_Ints.c22 : Cd := .exit 0
def innkeepref03_Ints.c12 : Cd := .cond (.t 14) (.seq (.tidy [14] [] [] none) (innkeepref03_Ints.c14)) (.seq (.tidy [14] [] [] none) (innkeepref03_Ints.c22))
def innkeepref03_Ints.c17 : Cd := .tidy [17, 18, 19, 20, 21, 22, 23, 24] [] [] none
def innkeepref03_Ints.c19 : Cd := .ret
def innkeepref03_Ints.c18 : Cd := .seq (.reg false [⟨some 4, .move (.c .bool false), none, [], []⟩]) (innkeepref03_Ints.c19)
def innkeepref03_Ints.c20 : Cd := .skip
def innkeepref03_Ints.c16 : Cd := .cond (.t 25) (.seq (.tidy [25] [] [] none) (innkeepref03_Ints.c18)) (.seq (.tidy [25] [] [] none) (innkeepref03_Ints.c20))
def innkeepref03_Ints.c21 : Cd := .tidy [15, 16] [] [] none
def innkeepref03_Ints.c15 : Cd := .seq (.reg false [⟨some 15, .move (.t 5), none, [], []⟩,
    ⟨some 16, .bin .add (.t 15) (.c (.int .i64) (1 : Int)), none, [], []⟩,
    ⟨some 5, .move (.t 16), none, [], []⟩]) (innkeepref03_Ints.c21)
def innkeepref03_Ints.c11 : Cd := .seq (.block 1 (.seq (.seq (.reg true [⟨some 17, .move (.t 0), none, [], []⟩,
    ⟨some 18, .move (.t 5), none, [], []⟩,
    ⟨some 19, .index (.sl (.int .i64)) (.t 17) (.t 18), none, [], []⟩,
    ⟨some 20, .load (.d (.int .i64)) (.t 19), none, [], []⟩,
    ⟨some 21, .move (.t 1), none, [], []⟩,
    ⟨some 22, .move (.t 5), none, [], []⟩,
    ⟨some 23, .index (.sl (.int .i64)) (.t 21) (.t 22), none, [], []⟩,
    ⟨some 24, .load (.d (.int .i64)) (.t 23), none, [], []⟩,
    ⟨some 25, .bin .neq (.t 20) (.t 24), none, [], []⟩]) (innkeepref03_Ints.c17)) (innkeepref03_Ints.c16))) (innkeepref03_Ints.c15)
def innkeepref03_Ints.c10 : Cd := .tidy [] [] [] (some 0)
def innkeepref03_Ints.c9 : Cd := .seq (.seq (.seq (.seq (.reg false [⟨some 11, .move (.t 5), none, [], []⟩,
    ⟨some 12, .move (.t 0), none, [], []⟩,
    ⟨some 13, .len (.t 12), none, [], []⟩,
    ⟨some 14, .bin .lss (.t 11) (.t 13), none, [], []⟩]) (innkeepref03_Ints.c13)) (innkeepref03_Ints.c12)) (innkeepref03_Ints.c11)) (innkeepref03_Ints.c10)
def innkeepref03_Ints.c8 : Cd := .block 0 (.loop (innkeepref03_Ints.c9))
def innkeepref03_Ints.c23 : Cd := .ret
def innkeepref03_Ints.c7 : Cd := .seq (.reg false [⟨some 4, .move (.c .bool true), none, [], []⟩]) (innkeepref03_Ints.c23)
def innkeepref03_Ints.c1 : Cd := .seq (.seq (.reg false [⟨some 5, .move (.c (.int .i64) (0 : Int)), none, [], []⟩]) (innkeepref03_Ints.c8)) (innkeepref03_Ints.c7)
def innkeepref03_Ints.c0 : Cd := .seq (.seq (.seq (.reg false [⟨some 6, .move (.t 0), none, [], []⟩,
    ⟨some 7, .len (.t 6), none, [], []⟩,
    ⟨some 8, .move (.t 1), none, [], []⟩,
    ⟨some 9, .len (.t 8), none, [], []⟩,
    ⟨some 10, .bin .neq (.t 7) (.t 9), none, [], []⟩]) (innkeepref03_Ints.c3)) (innkeepref03_Ints.c2)) (innkeepref03_Ints.c1)
def innkeepref03_Ints.fn : Fn := ⟨2, [.tmp 4], .seq (.reg false [⟨some 4, .move (.c .bool false), none, [], []⟩]) (innkeepref03_Ints.c0)⟩
def innkeepref06_Places.c3 : Cd := .tidy [6, 7, 8, 9] [] [] none
def innkeepref06_Places.c5 : Cd := .ret
def innkeepref06_Places.c4 : Cd := .seq (.reg false [⟨some 4, .move (.c .bool false), none, [], []⟩]) (innkeepref06_Places.c5)
def innkeepref06_Places.c6 : Cd := .skip
def innkeepref06_Places.c2 : Cd := .cond (.t 10) (.seq (.tidy [10] [] [] none) (innkeepref06_Places.c4)) (.seq (.tidy [10] [] [] none) (innkeepref06_Places.c6))
def innkeepref06_Places.c13 : Cd := .tidy [11, 12, 13] [] [] none
def innkeepref06_Places.c14 : Cd := .skip
def innkeepref06_Places.c22 : Cd := .exit 0
def innkeepref06_Places.c12 : Cd := .cond (.t 14) (.seq (.tidy [14] [] [] none) (innkeepref06_Places.c14)) (.seq (.tidy [14] [] [] none) (innkeepref06_Places.c22))
def innkeepref06_Places.c17 : Cd := .tidy [17, 18, 19, 20, 21, 22, 23, 24] [] [] none
def innkeepref06_Places.c19 : Cd := .ret
def innkeepref06_Places.c18 : Cd := .seq (.reg false [⟨some 4, .move (.c .bool false), none, [], []⟩]) (innkeepref06_Places.c19)
def innkeepref06_Places.c20 : Cd := .skip
def innkeepref06_Places.c16 : Cd := .cond (.t 25) (.seq (.tidy [25] [] [] none) (innkeepref06_Places.c18)) (.seq (.tidy [25] [] [] none) (innkeepref06_Places.c20))
def innkeepref06_Places.c21 : Cd := .tidy [15, 16] [] [] none
def innkeepref06_Places.c15 : Cd := .seq (.reg false [⟨some 15, .move (.t 5), none, [], []⟩,
    ⟨some 16, .bin .add (.t 15) (.c (.int .i64) (1 : Int)), none, [], []⟩,
    ⟨some 5, .move (.t 16), none, [], []⟩]) (innkeepref06_Places.c21)
def innkeepref06_Places.c11 : Cd := .seq (.block 1 (.seq (.seq (.reg true [⟨some 17, .move (.t 0), none, [], []⟩,
    ⟨some 18, .move (.t 5), none, [], []⟩,
    ⟨some 19, .index (.sl tPlace) (.t 17) (.t 18), none, [], []⟩,
    ⟨some 20, .load (.d tPlace) (.t 19), none, [], []⟩,
    ⟨some 21, .move (.t 1), none, [], []⟩,
    ⟨some 22, .move (.t 5), none, [], []⟩,
    ⟨some 23, .index (.sl tPlace) (.t 21) (.t 22), none, [], []⟩,
    ⟨some 24, .load (.d tPlace) (.t 23), none, [], []⟩,
    ⟨some 25, .eqs tPlace true (.t 20) (.t 24), none, [], []⟩]) (innkeepref06_Places.c17)) (innkeepref06_Places.c16))) (innkeepref06_Places.c15)
def innkeepref06_Places.c10 : Cd := .tidy [] [] [] (some 0)
def innkeepref06_Places.c9 : Cd := .seq (.seq (.seq (.seq (.reg false [⟨some 11, .move (.t 5), none, [], []⟩,
    ⟨some 12, .move (.t 0), none, [], []⟩,
    ⟨some 13, .len (.t 12), none, [], []⟩,
    ⟨some 14, .bin .lss (.t 11) (.t 13), none, [], []⟩]) (innkeepref06_Places.c13)) (innkeepref06_Places.c12)) (innkeepref06_Places.c11)) (innkeepref06_Places.c10)
def innkeepref06_Places.c8 : Cd := .block 0 (.loop (innkeepref06_Places.c9))
def innkeepref06_Places.c23 : Cd := .ret
def innkeepref06_Places.c7 : Cd := .seq (.reg false [⟨some 4, .move (.c .bool true), none, [], []⟩]) (innkeepref06_Places.c23)
def innkeepref06_Places.c1 : Cd := .seq (.seq (.reg false [⟨some 5, .move (.c (.int .i64) (0 : Int)), none, [], []⟩]) (innkeepref06_Places.c8)) (innkeepref06_Places.c7)
def innkeepref06_Places.c0 : Cd := .seq (.seq (.seq (.reg false [⟨some 6, .move (.t 0), none, [], []⟩,
    ⟨some 7, .len (.t 6), none, [], []⟩,
    ⟨some 8, .move (.t 1), none, [], []⟩,
    ⟨some 9, .len (.t 8), none, [], []⟩,
    ⟨some 10, .bin .neq (.t 7) (.t 9), none, [], []⟩]) (innkeepref06_Places.c3)) (innkeepref06_Places.c2)) (innkeepref06_Places.c1)
def innkeepref06_Places.fn : Fn := ⟨2, [.tmp 4], .seq (.reg false [⟨some 4, .move (.c .bool false), none, [], []⟩]) (innkeepref06_Places.c0)⟩
def innkeepref06_Same.c2 : Cd := .tidy [9, 10] [] [] none
def innkeepref06_Same.c4 : Cd := .tidy [11, 12] [] [] none
def innkeepref06_Same.c7 : Cd := .tidy [13, 14, 15, 16, 17, 18, 19, 20, 21, 22, 23, 24, 25, 26, 27, 28, 29, 30, 31, 32, 33, 34, 35, 36, 37, 38, 39, 40, 41, 42, 43, 44, 45, 46, 47, 48] [] [] none
def innkeepref06_Same.c9 : Cd := .ret
def innkeepref06_Same.c8 : Cd := .seq (.reg false [⟨some 4, .move (.c .bool false), none, [], []⟩]) (innkeepref06_Same.c9)
def innkeepref06_Same.c10 : Cd := .skip
def innkeepref06_Same.c6 : Cd := .cond (.t 49) (.seq (.tidy [49] [] [] none) (innkeepref06_Same.c8)) (.seq (.tidy [49] [] [] none) (innkeepref06_Same.c10))
def innkeepref06_Same.c17 : Cd := .tidy [50, 51, 52, 53] [] [] none
def innkeepref06_Same.c18 : Cd := .skip
def innkeepref06_Same.c26 : Cd := .exit 0
def innkeepref06_Same.c16 : Cd := .cond (.t 54) (.seq (.tidy [54] [] [] none) (innkeepref06_Same.c18)) (.seq (.tidy [54] [] [] none) (innkeepref06_Same.c26))
def innkeepref06_Same.c21 : Cd := .tidy [57, 58, 59, 60, 61, 62, 63, 64, 65, 66] [] [] none
def innkeepref06_Same.c23 : Cd := .ret
def innkeepref06_Same.c22 : Cd := .seq (.reg false [⟨some 4, .move (.c .bool false), none, [], []⟩]) (innkeepref06_Same.c23)
def innkeepref06_Same.c24 : Cd := .skip
def innkeepref06_Same.c20 : Cd := .cond (.t 67) (.seq (.tidy [67] [] [] none) (innkeepref06_Same.c22)) (.seq (.tidy [67] [] [] none) (innkeepref06_Same.c24))
def innkeepref06_Same.c25 : Cd := .tidy [55, 56] [] [] none
def innkeepref06_Same.c19 : Cd := .seq (.reg false [⟨some 55, .move (.t 7), none, [], []⟩,
    ⟨some 56, .bin .add (.t 55) (.c (.int .i64) (1 : Int)), none, [], []⟩,
    ⟨some 7, .move (.t 56), none, [], []⟩]) (innkeepref06_Same.c25)
def innkeepref06_Same.c15 : Cd := .seq (.block 1 (.seq (.seq (.reg true [⟨some 57, .fieldAddr (.d tDesc) 0 (.t 5), none, [2], []⟩,
    ⟨some 58, .load (.d (.sl (.arr 4 (.int .i64)))) (.t 57), none, [2], []⟩,
    ⟨some 59, .move (.t 7), none, [], []⟩,
    ⟨some 60, .index (.sl (.arr 4 (.int .i64))) (.t 58) (.t 59), none, [], []⟩,
    ⟨some 61, .load (.d (.arr 4 (.int .i64))) (.t 60), none, [], []⟩,
    ⟨some 62, .fieldAddr (.d tDesc) 0 (.t 6), none, [3], []⟩,
    ⟨some 63, .load (.d (.sl (.arr 4 (.int .i64)))) (.t 62), none, [3], []⟩,
    ⟨some 64, .move (.t 7), none, [], []⟩,
    ⟨some 65, .index (.sl (.arr 4 (.int .i64))) (.t 63) (.t 64), none, [], []⟩,
    ⟨some 66, .load (.d (.arr 4 (.int .i64))) (.t 65), none, [], []⟩,
    ⟨some 67, .eqs (.arr 4 (.int .i64)) true (.t 61) (.t 66), none, [], []⟩]) (innkeepref06_Same.c21)) (innkeepref06_Same.c20))) (innkeepref06_Same.c19)
def innkeepref06_Same.c14 : Cd := .tidy [] [] [] (some 4)
def innkeepref06_Same.c13 : Cd := .seq (.seq (.seq (.seq (.reg false [⟨some 50, .move (.t 7), none, [], []⟩,
    ⟨some 51, .fieldAddr (.d tDesc) 0 (.t 5), none, [], []⟩,
    ⟨some 52, .load (.d (.sl (.arr 4 (.int .i64)))) (.t 51), none, [], []⟩,
    ⟨some 53, .len (.t 52), none, [], []⟩,
    ⟨some 54, .bin .lss (.t 50) (.t 53), none, [], []⟩]) (innkeepref06_Same.c17)) (innkeepref06_Same.c16)) (innkeepref06_Same.c15)) (innkeepref06_Same.c14)
def innkeepref06_Same.c12 : Cd := .block 0 (.loop (innkeepref06_Same.c13))
def innkeepref06_Same.c33 : Cd := .tidy [68, 69, 70, 71] [] [] none
def innkeepref06_Same.c34 : Cd := .skip
def innkeepref06_Same.c42 : Cd := .exit 2
def innkeepref06_Same.c32 : Cd := .cond (.t 72) (.seq (.tidy [72] [] [] none) (innkeepref06_Same.c34)) (.seq (.tidy [72] [] [] none) (innkeepref06_Same.c42))
def innkeepref06_Same.c37 : Cd := .tidy [75, 76, 77, 78, 79, 80, 81, 82, 83, 84] [] [] none
def innkeepref06_Same.c39 : Cd := .ret
def innkeepref06_Same.c38 : Cd := .seq (.reg false [⟨some 4, .move (.c .bool false), none, [], []⟩]) (innkeepref06_Same.c39)
def innkeepref06_Same.c40 : Cd := .skip
def innkeepref06_Same.c36 : Cd := .cond (.t 85) (.seq (.tidy [85] [] [] none) (innkeepref06_Same.c38)) (.seq (.tidy [85] [] [] none) (innkeepref06_Same.c40))
def innkeepref06_Same.c41 : Cd := .tidy [73, 74] [] [] none
def innkeepref06_Same.c35 : Cd := .seq (.reg false [⟨some 73, .move (.t 8), none, [], []⟩,
    ⟨some 74, .bin .add (.t 73) (.c (.int .i64) (1 : Int)), none, [], []⟩,
    ⟨some 8, .move (.t 74), none, [], []⟩]) (innkeepref06_Same.c41)
def innkeepref06_Same.c31 : Cd := .seq (.block 3 (.seq (.seq (.reg true [⟨some 75, .fieldAddr (.d tDesc) 4 (.t 5), none, [2], []⟩,
    ⟨some 76, .load (.d (.sl .bool)) (.t 75), none, [2], []⟩,
    ⟨some 77, .move (.t 8), none, [], []⟩,
    ⟨some 78, .index (.sl .bool) (.t 76) (.t 77), none, [], []⟩,
    ⟨some 79, .load (.d .bool) (.t 78), none, [], []⟩,
    ⟨some 80, .fieldAddr (.d tDesc) 4 (.t 6), none, [3], []⟩,
    ⟨some 81, .load (.d (.sl .bool)) (.t 80), none, [3], []⟩,
    ⟨some 82, .move (.t 8), none, [], []⟩,
    ⟨some 83, .index (.sl .bool) (.t 81) (.t 82), none, [], []⟩,
    ⟨some 84, .load (.d .bool) (.t 83), none, [], []⟩,
    ⟨some 85, .eqs .bool true (.t 79) (.t 84), none, [], []⟩]) (innkeepref06_Same.c37)) (innkeepref06_Same.c36))) (innkeepref06_Same.c35)
def innkeepref06_Same.c30 : Cd := .tidy [] [] [] (some 4)
def innkeepref06_Same.c29 : Cd := .seq (.seq (.seq (.seq (.reg false [⟨some 68, .move (.t 8), none, [], []⟩,
    ⟨some 69, .fieldAddr (.d tDesc) 4 (.t 5), none, [], []⟩,
    ⟨some 70, .load (.d (.sl .bool)) (.t 69), none, [], []⟩,
    ⟨some 71, .len (.t 70), none, [], []⟩,
    ⟨some 72, .bin .lss (.t 68) (.t 71), none, [], []⟩]) (innkeepref06_Same.c33)) (innkeepref06_Same.c32)) (innkeepref06_Same.c31)) (innkeepref06_Same.c30)
def innkeepref06_Same.c28 : Cd := .block 2 (.loop (innkeepref06_Same.c29))
def innkeepref06_Same.c44 : Cd := .tidy [86, 87, 88, 89, 90, 91, 92, 93, 94, 95, 96, 97, 98, 99, 100, 101, 102, 103, 104, 105, 106, 107, 108, 109, 110, 111, 112, 113, 114, 115, 116, 117, 118, 119, 120, 121, 122, 123, 124, 125] [] [] none
def innkeepref06_Same.c43 : Cd := .ret
def innkeepref06_Same.c27 : Cd := .seq (.seq (.reg false [⟨some 86, .fieldAddr (.d tDesc) 1 (.t 5), none, [], []⟩,
    ⟨some 87, .load (.d (.sl (.int .i64))) (.t 86), none, [], []⟩,
    ⟨some 88, .fieldAddr (.d tDesc) 1 (.t 6), none, [], []⟩,
    ⟨some 89, .load (.d (.sl (.int .i64))) (.t 88), none, [], []⟩,
    ⟨some 90, .call (.f 46) [(.t 87), (.t 89)] [.d .bool] [] false, none, [], []⟩,
    ⟨some 91, .move (.t 90), none, [], []⟩,
    ⟨some 92, .fieldAddr (.d tDesc) 2 (.t 5), some (91, true), [], []⟩,
    ⟨some 93, .load (.d (.sl (.int .i64))) (.t 92), some (91, true), [], []⟩,
    ⟨some 94, .fieldAddr (.d tDesc) 2 (.t 6), some (91, true), [], []⟩,
    ⟨some 95, .load (.d (.sl (.int .i64))) (.t 94), some (91, true), [], []⟩,
    ⟨some 96, .call (.f 46) [(.t 93), (.t 95)] [.d .bool] [] false, some (91, true), [], []⟩,
    ⟨some 97, .pick (.t 91) (.t 96) (.c .bool false), none, [], []⟩,
    ⟨some 98, .move (.t 97), none, [], []⟩,
    ⟨some 99, .fieldAddr (.d tDesc) 3 (.t 5), some (98, true), [], []⟩,
    ⟨some 100, .load (.d (.sl (.int .i64))) (.t 99), some (98, true), [], []⟩,
    ⟨some 101, .fieldAddr (.d tDesc) 3 (.t 6), some (98, true), [], []⟩,
    ⟨some 102, .load (.d (.sl (.int .i64))) (.t 101), some (98, true), [], []⟩,
    ⟨some 103, .call (.f 46) [(.t 100), (.t 102)] [.d .bool] [] false, some (98, true), [], []⟩,
    ⟨some 104, .pick (.t 98) (.t 103) (.c .bool false), none, [], []⟩,
    ⟨some 105, .move (.t 104), none, [], []⟩,
    ⟨some 106, .fieldAddr (.d tWorld) 1 (.t 2), some (105, true), [], []⟩,
    ⟨some 107, .load (.d (.sl (.int .i64))) (.t 106), some (105, true), [], []⟩,
    ⟨some 108, .fieldAddr (.d tWorld) 1 (.t 3), some (105, true), [], []⟩,
    ⟨some 109, .load (.d (.sl (.int .i64))) (.t 108), some (105, true), [], []⟩,
    ⟨some 110, .call (.f 46) [(.t 107), (.t 109)] [.d .bool] [] false, some (105, true), [], []⟩,
    ⟨some 111, .pick (.t 105) (.t 110) (.c .bool false), none, [], []⟩,
    ⟨some 112, .move (.t 111), none, [], []⟩,
    ⟨some 113, .fieldAddr (.d tWorld) 2 (.t 2), some (112, true), [], []⟩,
    ⟨some 114, .load (.d (.sl (.int .i64))) (.t 113), some (112, true), [], []⟩,
    ⟨some 115, .fieldAddr (.d tWorld) 2 (.t 3), some (112, true), [], []⟩,
    ⟨some 116, .load (.d (.sl (.int .i64))) (.t 115), some (112, true), [], []⟩,
    ⟨some 117, .call (.f 46) [(.t 114), (.t 116)] [.d .bool] [] false, some (112, true), [], []⟩,
    ⟨some 118, .pick (.t 112) (.t 117) (.c .bool false), none, [], []⟩,
    ⟨some 119, .move (.t 118), none, [], []⟩,
    ⟨some 120, .fieldAddr (.d tWorld) 3 (.t 2), some (119, true), [], []⟩,
    ⟨some 121, .load (.d (.sl tPlace)) (.t 120), some (119, true), [], []⟩,
    ⟨some 122, .fieldAddr (.d tWorld) 3 (.t 3), some (119, true), [], []⟩,
    ⟨some 123, .load (.d (.sl tPlace)) (.t 122), some (119, true), [], []⟩,
    ⟨some 124, .call (.f 47) [(.t 121), (.t 123)] [.d .bool] [] false, some (119, true), [], []⟩,
    ⟨some 125, .pick (.t 119) (.t 124) (.c .bool false), none, [], []⟩,
    ⟨some 4, .move (.t 125), none, [], []⟩]) (innkeepref06_Same.c44)) (innkeepref06_Same.c43)
def innkeepref06_Same.c11 : Cd := .seq (.seq (.reg false [⟨some 8, .move (.c (.int .i64) (0 : Int)), none, [], []⟩]) (innkeepref06_Same.c28)) (innkeepref06_Same.c27)
def innkeepref06_Same.c5 : Cd := .seq (.seq (.reg false [⟨some 7, .move (.c (.int .i64) (0 : Int)), none, [], []⟩]) (innkeepref06_Same.c12)) (innkeepref06_Same.c11)
def innkeepref06_Same.c3 : Cd := .seq (.seq (.seq (.reg false [⟨some 13, .fieldAddr (.d tDesc) 5 (.t 5), none, [], []⟩,
    ⟨some 14, .load (.d (.int .i64)) (.t 13), none, [], []⟩,
    ⟨some 15, .fieldAddr (.d tDesc) 5 (.t 6), none, [], []⟩,
    ⟨some 16, .load (.d (.int .i64)) (.t 15), none, [], []⟩,
    ⟨some 17, .bin .neq (.t 14) (.t 16), none, [], []⟩,
    ⟨some 18, .move (.t 17), none, [], []⟩,
    ⟨some 19, .fieldAddr (.d tDesc) 6 (.t 5), some (18, false), [], []⟩,
    ⟨some 20, .load (.d (.int .i64)) (.t 19), some (18, false), [], []⟩,
    ⟨some 21, .fieldAddr (.d tDesc) 6 (.t 6), some (18, false), [], []⟩,
    ⟨some 22, .load (.d (.int .i64)) (.t 21), some (18, false), [], []⟩,
    ⟨some 23, .bin .neq (.t 20) (.t 22), some (18, false), [], []⟩,
    ⟨some 24, .pick (.t 18) (.c .bool true) (.t 23), none, [], []⟩,
    ⟨some 25, .move (.t 24), none, [], []⟩,
    ⟨some 26, .fieldAddr (.d tDesc) 7 (.t 5), some (25, false), [], []⟩,
    ⟨some 27, .load (.d (.int .i64)) (.t 26), some (25, false), [], []⟩,
    ⟨some 28, .fieldAddr (.d tDesc) 7 (.t 6), some (25, false), [], []⟩,
    ⟨some 29, .load (.d (.int .i64)) (.t 28), some (25, false), [], []⟩,
    ⟨some 30, .bin .neq (.t 27) (.t 29), some (25, false), [], []⟩,
    ⟨some 31, .pick (.t 25) (.c .bool true) (.t 30), none, [], []⟩,
    ⟨some 32, .move (.t 31), none, [], []⟩,
    ⟨some 33, .fieldAddr (.d tDesc) 0 (.t 5), some (32, false), [], []⟩,
    ⟨some 34, .load (.d (.sl (.arr 4 (.int .i64)))) (.t 33), some (32, false), [], []⟩,
    ⟨some 35, .len (.t 34), some (32, false), [], []⟩,
    ⟨some 36, .fieldAddr (.d tDesc) 0 (.t 6), some (32, false), [], []⟩,
    ⟨some 37, .load (.d (.sl (.arr 4 (.int .i64)))) (.t 36), some (32, false), [], []⟩,
    ⟨some 38, .len (.t 37), some (32, false), [], []⟩,
    ⟨some 39, .bin .neq (.t 35) (.t 38), some (32, false), [], []⟩,
    ⟨some 40, .pick (.t 32) (.c .bool true) (.t 39), none, [], []⟩,
    ⟨some 41, .move (.t 40), none, [], []⟩,
    ⟨some 42, .fieldAddr (.d tDesc) 4 (.t 5), some (41, false), [], []⟩,
    ⟨some 43, .load (.d (.sl .bool)) (.t 42), some (41, false), [], []⟩,
    ⟨some 44, .len (.t 43), some (41, false), [], []⟩,
    ⟨some 45, .fieldAddr (.d tDesc) 4 (.t 6), some (41, false), [], []⟩,
    ⟨some 46, .load (.d (.sl .bool)) (.t 45), some (41, false), [], []⟩,
    ⟨some 47, .len (.t 46), some (41, false), [], []⟩,
    ⟨some 48, .bin .neq (.t 44) (.t 47), some (41, false), [], []⟩,
    ⟨some 49, .pick (.t 41) (.c .bool true) (.t 48), none, [], []⟩]) (innkeepref06_Same.c7)) (innkeepref06_Same.c6)) (innkeepref06_Same.c5)
def innkeepref06_Same.c1 : Cd := .seq (.seq (.reg false [⟨some 11, .fieldAddr (.d tWorld) 0 (.t 3), none, [], []⟩,
    ⟨some 12, .load (.d tDesc) (.t 11), none, [], []⟩,
    ⟨some 6, .newbox 3 tDesc [], none, [], []⟩,
    ⟨none, .store (.d tDesc) (.t 6) (.t 12), none, [], []⟩]) (innkeepref06_Same.c4)) (innkeepref06_Same.c3)
def innkeepref06_Same.c0 : Cd := .seq (.seq (.reg false [⟨some 9, .fieldAddr (.d tWorld) 0 (.t 2), none, [], []⟩,
    ⟨some 10, .load (.d tDesc) (.t 9), none, [], []⟩,
    ⟨some 5, .newbox 2 tDesc [], none, [], []⟩,
    ⟨none, .store (.d tDesc) (.t 5) (.t 10), none, [], []⟩]) (innkeepref06_Same.c2)) (innkeepref06_Same.c1)
def innkeepref06_Same.fn : Fn := ⟨2, [.tmp 4], .seq (.reg false [⟨some 2, .box 0 (.t 0), none, [], []⟩,
    ⟨some 3, .box 1 (.t 1), none, [], []⟩,
    ⟨some 4, .move (.c .bool false), none, [], []⟩]) (innkeepref06_Same.c0)⟩
def innkeeplaw10_awake.c2 : Cd := .tidy [18, 19, 20, 21, 22, 23, 24] [] [] none
def innkeeplaw10_awake.c4 : Cd := .tidy [25, 26, 27, 28] [] [] none
def innkeeplaw10_awake.c6 : Cd := .tidy [29, 30, 31, 32] [] [] none
def innkeeplaw10_awake.c8 : Cd := .tidy [33, 34, 35, 36, 37] [] [] none
def innkeeplaw10_awake.c10 : Cd := .tidy [4, 38, 39, 40, 41, 42] [] [] none
def innkeeplaw10_awake.c12 : Cd := .tidy [6, 43, 44, 45, 46, 47] [] [] none
def innkeeplaw10_awake.c14 : Cd := .tidy [8, 48, 49, 50, 51, 52] [] [] none
def innkeeplaw10_awake.c16 : Cd := .tidy [10, 53, 54, 55, 56, 57] [] [] none
def innkeeplaw10_awake.c18 : Cd := .tidy [58, 59, 60, 61, 62] [] [] none
def innkeeplaw10_awake.c20 : Cd := .tidy [14, 63, 64, 65, 66, 67] [] [] none
def innkeeplaw10_awake.c22 : Cd := .tidy [16, 68, 69, 70, 71, 72] [] [] none
def innkeeplaw10_awake.c24 : Cd := .tidy [73, 74, 75, 76, 77, 78, 79, 80, 81, 82, 83, 84, 85, 86, 87, 88, 89, 90, 91, 92, 93, 94, 95, 96, 97, 98, 99, 100, 101, 102, 103, 104, 105, 106, 107, 108, 109, 110, 111, 112, 113, 114, 115, 116, 117, 118, 119, 120, 121, 122, 123, 124, 125, 126, 127, 128, 129, 130] [] [] none
def innkeeplaw10_awake.c23 : Cd := .ret
def innkeeplaw10_awake.c21 : Cd := .seq (.seq (.reg false [⟨some 73, .move (.t 3), none, [], []⟩,
    ⟨some 74, .bin .eql (.t 73) (.c (.int .i64) (0 : Int)), none, [], []⟩,
    ⟨some 75, .move (.t 74), none, [], []⟩,
    ⟨some 76, .fieldAddr (.d tWorld) 3 (.t 2), some (75, true), [], []⟩,
    ⟨some 77, .load (.d (.sl tPlace)) (.t 76), some (75, true), [], []⟩,
    ⟨some 78, .len (.t 77), some (75, true), [], []⟩,
    ⟨some 79, .bin .eql (.t 78) (.c (.int .i64) (4 : Int)), some (75, true), [], []⟩,
    ⟨some 80, .pick (.t 75) (.t 79) (.c .bool false), none, [], []⟩,
    ⟨some 81, .move (.t 80), none, [], []⟩,
    ⟨some 82, .fieldAddr (.d tWorld) 3 (.t 2), some (81, true), [], []⟩,
    ⟨some 83, .load (.d (.sl tPlace)) (.t 82), some (81, true), [], []⟩,
    ⟨some 84, .index (.sl tPlace) (.t 83) (.c (.int .i64) (1 : Int)), some (81, true), [], []⟩,
    ⟨some 85, .load (.d tPlace) (.t 84), some (81, true), [], []⟩,
    ⟨some 86, .build tPlace [(0, (.c (.int .i64) (2 : Int)))] [], some (81, true), [], []⟩,
    ⟨some 87, .eqs tPlace false (.t 85) (.t 86), some (81, true), [], []⟩,
    ⟨some 88, .pick (.t 81) (.t 87) (.c .bool false), none, [], []⟩,
    ⟨some 89, .move (.t 88), none, [], []⟩,
    ⟨some 90, .move (.t 5), some (89, true), [], []⟩,
    ⟨some 91, .bin .eql (.t 90) (.c (.int .i64) (9 : Int)), some (89, true), [], []⟩,
    ⟨some 92, .pick (.t 89) (.t 91) (.c .bool false), none, [], []⟩,
    ⟨some 93, .move (.t 92), none, [], []⟩,
    ⟨some 94, .move (.t 7), some (93, true), [], []⟩,
    ⟨some 95, .bin .eql (.t 94) (.c (.int .i64) (7 : Int)), some (93, true), [], []⟩,
    ⟨some 96, .pick (.t 93) (.t 95) (.c .bool false), none, [], []⟩,
    ⟨some 97, .move (.t 96), none, [], []⟩,
    ⟨some 98, .move (.t 9), some (97, true), [], []⟩,
    ⟨some 99, .bin .eql (.t 98) (.c (.int .i64) (6 : Int)), some (97, true), [], []⟩,
    ⟨some 100, .pick (.t 97) (.t 99) (.c .bool false), none, [], []⟩,
    ⟨some 101, .move (.t 100), none, [], []⟩,
    ⟨some 102, .move (.t 11), some (101, true), [], []⟩,
    ⟨some 103, .bin .eql (.t 102) (.c (.int .i64) (5 : Int)), some (101, true), [], []⟩,
    ⟨some 104, .pick (.t 101) (.t 103) (.c .bool false), none, [], []⟩,
    ⟨some 105, .move (.t 104), none, [], []⟩,
    ⟨some 106, .move (.t 13), some (105, true), [], []⟩,
    ⟨some 107, .bin .eql (.t 106) (.c (.int .i64) (0 : Int)), some (105, true), [], []⟩,
    ⟨some 108, .pick (.t 105) (.t 107) (.c .bool false), none, [], []⟩,
    ⟨some 109, .move (.t 108), none, [], []⟩,
    ⟨some 110, .load (.d tWorld) (.t 12), some (109, true), [], []⟩,
    ⟨some 111, .load (.d tWorld) (.t 1), some (109, true), [], []⟩,
    ⟨some 112, .call (.f 14) [(.t 110), (.t 111)] [.d .bool] [] false, some (109, true), [], []⟩,
    ⟨some 113, .pick (.t 109) (.t 112) (.c .bool false), none, [], []⟩,
    ⟨some 114, .move (.t 113), none, [], []⟩,
    ⟨some 115, .move (.t 15), some (114, true), [], []⟩,
    ⟨some 116, .bin .eql (.t 115) (.c (.int .i64) (5 : Int)), some (114, true), [], []⟩,
    ⟨some 117, .pick (.t 114) (.t 116) (.c .bool false), none, [], []⟩,
    ⟨some 118, .move (.t 117), none, [], []⟩,
    ⟨some 119, .move (.t 17), some (118, true), [], []⟩,
    ⟨some 120, .bin .eql (.t 119) (.c (.int .i64) (5 : Int)), some (118, true), [], []⟩,
    ⟨some 121, .pick (.t 118) (.t 120) (.c .bool false), none, [], []⟩,
    ⟨some 122, .move (.t 121), none, [], []⟩,
    ⟨some 123, .load (.d tWorld) (.t 1), some (122, true), [], []⟩,
    ⟨some 124, .call (.f 15) [(.t 123), (.c (.int .i64) (0 : Int)), (.c (.int .i64) (0 : Int))] [.d .bool] [] false, some (122, true), [], []⟩,
    ⟨some 125, .pick (.t 122) (.t 124) (.c .bool false), none, [], []⟩,
    ⟨some 126, .move (.t 125), none, [], []⟩,
    ⟨some 127, .load (.d tWorld) (.t 1), some (126, true), [], []⟩,
    ⟨some 128, .call (.f 15) [(.t 127), (.c (.int .i64) (1 : Int)), (.c (.int .i64) (0 : Int))] [.d .bool] [] false, some (126, true), [], []⟩,
    ⟨some 129, .not (.t 128), some (126, true), [], []⟩,
    ⟨some 130, .pick (.t 126) (.t 129) (.c .bool false), none, [], []⟩,
    ⟨some 0, .move (.t 130), none, [], []⟩]) (innkeeplaw10_awake.c24)) (innkeeplaw10_awake.c23)
def innkeeplaw10_awake.c19 : Cd := .seq (.seq (.reg false [⟨some 69, .load (.d tWorld) (.t 2), none, [], []⟩,
    ⟨some 70, .call (.f 12) [(.t 69), (.c (.int .i64) (1 : Int)), (.c (.int .i64) (1 : Int)), (.c (.int .i64) (0 : Int))] [.d tWorld, .d (.int .i64)] [] false, none, [], []⟩,
    ⟨some 68, .move (.t 70), none, [], []⟩,
    ⟨some 71, .extract (.t 68) 0, none, [], []⟩,
    ⟨some 72, .extract (.t 68) 1, none, [], []⟩,
    ⟨some 16, .newbox 13 tWorld [], none, [], []⟩,
    ⟨none, .store (.d tWorld) (.t 16) (.t 71), none, [], []⟩,
    ⟨some 17, .move (.t 72), none, [], []⟩]) (innkeeplaw10_awake.c22)) (innkeeplaw10_awake.c21)
def innkeeplaw10_awake.c17 : Cd := .seq (.seq (.reg false [⟨some 64, .load (.d tWorld) (.t 2), none, [], []⟩,
    ⟨some 65, .call (.f 12) [(.t 64), (.c (.int .i64) (0 : Int)), (.c (.int .i64) (1 : Int)), (.c (.int .i64) (3 : Int))] [.d tWorld, .d (.int .i64)] [] false, none, [], []⟩,
    ⟨some 63, .move (.t 65), none, [], []⟩,
    ⟨some 66, .extract (.t 63) 0, none, [], []⟩,
    ⟨some 67, .extract (.t 63) 1, none, [], []⟩,
    ⟨some 14, .newbox 12 tWorld [], none, [], []⟩,
    ⟨none, .store (.d tWorld) (.t 14) (.t 66), none, [], []⟩,
    ⟨some 15, .move (.t 67), none, [], []⟩]) (innkeeplaw10_awake.c20)) (innkeeplaw10_awake.c19)
def innkeeplaw10_awake.c15 : Cd := .seq (.seq (.reg false [⟨some 59, .load (.d tWorld) (.t 2), none, [], []⟩,
    ⟨some 60, .call (.f 12) [(.t 59), (.c (.int .i64) (0 : Int)), (.c (.int .i64) (1 : Int)), (.c (.int .i64) (0 : Int))] [.d tWorld, .d (.int .i64)] [] false, none, [], []⟩,
    ⟨some 58, .move (.t 60), none, [], []⟩,
    ⟨some 61, .extract (.t 58) 0, none, [], []⟩,
    ⟨some 62, .extract (.t 58) 1, none, [], []⟩,
    ⟨some 12, .newbox 11 tWorld [], none, [], []⟩,
    ⟨none, .store (.d tWorld) (.t 12) (.t 61), none, [], []⟩,
    ⟨some 13, .move (.t 62), none, [], []⟩]) (innkeeplaw10_awake.c18)) (innkeeplaw10_awake.c17)
def innkeeplaw10_awake.c13 : Cd := .seq (.seq (.reg false [⟨some 54, .load (.d tWorld) (.t 1), none, [], []⟩,
    ⟨some 55, .call (.f 10) [(.t 54), (.c (.int .i64) (0 : Int)), (.c (.int .i64) (1 : Int)), (.c (.int .i64) (2 : Int))] [.d tWorld, .d (.int .i64)] [] false, none, [], []⟩,
    ⟨some 53, .move (.t 55), none, [], []⟩,
    ⟨some 56, .extract (.t 53) 0, none, [], []⟩,
    ⟨some 57, .extract (.t 53) 1, none, [], []⟩,
    ⟨some 10, .newbox 10 tWorld [], none, [], []⟩,
    ⟨none, .store (.d tWorld) (.t 10) (.t 56), none, [], []⟩,
    ⟨some 11, .move (.t 57), none, [], []⟩]) (innkeeplaw10_awake.c16)) (innkeeplaw10_awake.c15)
def innkeeplaw10_awake.c11 : Cd := .seq (.seq (.reg false [⟨some 49, .load (.d tWorld) (.t 1), none, [], []⟩,
    ⟨some 50, .call (.f 10) [(.t 49), (.c (.int .i64) (0 : Int)), (.c (.int .i64) (3 : Int)), (.c (.int .i64) (1 : Int))] [.d tWorld, .d (.int .i64)] [] false, none, [], []⟩,
    ⟨some 48, .move (.t 50), none, [], []⟩,
    ⟨some 51, .extract (.t 48) 0, none, [], []⟩,
    ⟨some 52, .extract (.t 48) 1, none, [], []⟩,
    ⟨some 8, .newbox 9 tWorld [], none, [], []⟩,
    ⟨none, .store (.d tWorld) (.t 8) (.t 51), none, [], []⟩,
    ⟨some 9, .move (.t 52), none, [], []⟩]) (innkeeplaw10_awake.c14)) (innkeeplaw10_awake.c13)
def innkeeplaw10_awake.c9 : Cd := .seq (.seq (.reg false [⟨some 44, .load (.d tWorld) (.t 1), none, [], []⟩,
    ⟨some 45, .call (.f 10) [(.t 44), (.c (.int .i64) (0 : Int)), (.c (.int .i64) (3 : Int)), (.c (.int .i64) (3 : Int))] [.d tWorld, .d (.int .i64)] [] false, none, [], []⟩,
    ⟨some 43, .move (.t 45), none, [], []⟩,
    ⟨some 46, .extract (.t 43) 0, none, [], []⟩,
    ⟨some 47, .extract (.t 43) 1, none, [], []⟩,
    ⟨some 6, .newbox 8 tWorld [], none, [], []⟩,
    ⟨none, .store (.d tWorld) (.t 6) (.t 46), none, [], []⟩,
    ⟨some 7, .move (.t 47), none, [], []⟩]) (innkeeplaw10_awake.c12)) (innkeeplaw10_awake.c11)
def innkeeplaw10_awake.c7 : Cd := .seq (.seq (.reg false [⟨some 39, .load (.d tWorld) (.t 2), none, [], []⟩,
    ⟨some 40, .call (.f 10) [(.t 39), (.c (.int .i64) (0 : Int)), (.c (.int .i64) (3 : Int)), (.c (.int .i64) (0 : Int))] [.d tWorld, .d (.int .i64)] [] false, none, [], []⟩,
    ⟨some 38, .move (.t 40), none, [], []⟩,
    ⟨some 41, .extract (.t 38) 0, none, [], []⟩,
    ⟨some 42, .extract (.t 38) 1, none, [], []⟩,
    ⟨some 4, .newbox 7 tWorld [], none, [], []⟩,
    ⟨none, .store (.d tWorld) (.t 4) (.t 41), none, [], []⟩,
    ⟨some 5, .move (.t 42), none, [], []⟩]) (innkeeplaw10_awake.c10)) (innkeeplaw10_awake.c9)
def innkeeplaw10_awake.c5 : Cd := .seq (.seq (.reg false [⟨some 34, .load (.d tWorld) (.t 1), none, [], []⟩,
    ⟨some 35, .call (.f 10) [(.t 34), (.c (.int .i64) (0 : Int)), (.c (.int .i64) (1 : Int)), (.c (.int .i64) (0 : Int))] [.d tWorld, .d (.int .i64)] [] false, none, [], []⟩,
    ⟨some 33, .move (.t 35), none, [], []⟩,
    ⟨some 36, .extract (.t 33) 0, none, [], []⟩,
    ⟨some 37, .extract (.t 33) 1, none, [], []⟩,
    ⟨some 2, .newbox 6 tWorld [], none, [], []⟩,
    ⟨none, .store (.d tWorld) (.t 2) (.t 36), none, [], []⟩,
    ⟨some 3, .move (.t 37), none, [], []⟩]) (innkeeplaw10_awake.c8)) (innkeeplaw10_awake.c7)
def innkeeplaw10_awake.c3 : Cd := .seq (.seq (.reg false [⟨some 29, .fieldAddr (.d tWorld) 3 (.t 1), none, [], []⟩,
    ⟨some 30, .load (.d (.sl tPlace)) (.t 29), none, [], []⟩,
    ⟨some 31, .build tPlace [(0, (.c (.int .i64) (1 : Int)))] [], none, [], []⟩,
    ⟨some 32, .index (.sl tPlace) (.t 30) (.c (.int .i64) (3 : Int)), none, [], []⟩,
    ⟨none, .store (.d tPlace) (.t 32) (.t 31), none, [], []⟩]) (innkeeplaw10_awake.c6)) (innkeeplaw10_awake.c5)
def innkeeplaw10_awake.c1 : Cd := .seq (.seq (.reg false [⟨some 25, .fieldAddr (.d tWorld) 3 (.t 1), none, [], []⟩,
    ⟨some 26, .load (.d (.sl tPlace)) (.t 25), none, [], []⟩,
    ⟨some 27, .build tPlace [(0, (.c (.int .i64) (1 : Int)))] [], none, [], []⟩,
    ⟨some 28, .index (.sl tPlace) (.t 26) (.c (.int .i64) (1 : Int)), none, [], []⟩,
    ⟨none, .store (.d tPlace) (.t 28) (.t 27), none, [], []⟩]) (innkeeplaw10_awake.c4)) (innkeeplaw10_awake.c3)
def innkeeplaw10_awake.c0 : Cd := .seq (.seq (.reg false [⟨some 18, .make 0 (.arr 4 (.int .i64)) (.c (.int .i64) (2 : Int)), none, [], []⟩,
    ⟨some 19, .slice 1 (.int .i64) [(.c (.int .i64) (0 : Int)), (.c (.int .i64) (1 : Int))], none, [], []⟩,
    ⟨some 20, .slice 2 (.int .i64) [(.c (.int .i64) (5 : Int)), (.c (.int .i64) (5 : Int))], none, [], []⟩,
    ⟨some 21, .slice 3 (.int .i64) [(.c (.int .i64) (0 : Int)), (.c (.int .i64) (0 : Int)), (.c (.int .i64) (1 : Int)), (.c (.int .i64) (0 : Int))], none, [], []⟩,
    ⟨some 22, .slice 4 .bool [(.c .bool true), (.c .bool false), (.c .bool true), (.c .bool true)], none, [], []⟩,
    ⟨some 23, .build tDesc [(0, (.t 18)), (1, (.t 19)), (2, (.t 20)), (3, (.t 21)), (4, (.t 22)), (5, (.c (.int .i64) (4 : Int))), (6, (.c (.int .i64) (3 : Int))), (7, (.c (.int .i64) (1 : Int)))] [], none, [], []⟩,
    ⟨some 24, .call (.f 23) [(.t 23)] [.d tWorld] [((0, [3]), 14)] false, none, [], []⟩,
    ⟨some 1, .newbox 5 tWorld [], none, [], []⟩,
    ⟨none, .store (.d tWorld) (.t 1) (.t 24), none, [], []⟩]) (innkeeplaw10_awake.c2)) (innkeeplaw10_awake.c1)
def innkeeplaw10_awake.fn : Fn := ⟨0, [.tmp 0], .seq (.reg false [⟨some 0, .move (.c .bool false), none, [], []⟩]) (innkeeplaw10_awake.c0)⟩
def innkeepref06_Few.c2 : Cd := .tidy [4, 5] [] [] none
def innkeepref06_Few.c4 : Cd := .tidy [6, 7, 8, 9, 10, 11, 12, 13, 14, 15, 16, 17, 18, 19, 20, 21, 22, 23, 24, 25, 26, 27, 28, 29, 30, 31, 32, 33, 34, 35, 36, 37, 38, 39, 40, 41, 42, 43, 44, 45, 46, 47, 48, 49, 50, 51] [] [] none
def innkeepref06_Few.c3 : Cd := .ret
def innkeepref06_Few.c1 : Cd := .seq (.seq (.reg false [⟨some 6, .fieldAddr (.d tDesc) 0 (.t 3), none, [], []⟩,
    ⟨some 7, .load (.d (.sl (.arr 4 (.int .i64)))) (.t 6), none, [], []⟩,
    ⟨some 8, .len (.t 7), none, [], []⟩,
    ⟨some 9, .bin .leq (.t 8) (.c (.int .i64) (20 : Int)), none, [], []⟩,
    ⟨some 10, .move (.t 9), none, [], []⟩,
    ⟨some 11, .fieldAddr (.d tDesc) 1 (.t 3), some (10, true), [], []⟩,
    ⟨some 12, .load (.d (.sl (.int .i64))) (.t 11), some (10, true), [], []⟩,
    ⟨some 13, .len (.t 12), some (10, true), [], []⟩,
    ⟨some 14, .bin .leq (.t 13) (.c (.int .i64) (20 : Int)), some (10, true), [], []⟩,
    ⟨some 15, .pick (.t 10) (.t 14) (.c .bool false), none, [], []⟩,
    ⟨some 16, .move (.t 15), none, [], []⟩,
    ⟨some 17, .fieldAddr (.d tDesc) 2 (.t 3), some (16, true), [], []⟩,
    ⟨some 18, .load (.d (.sl (.int .i64))) (.t 17), some (16, true), [], []⟩,
    ⟨some 19, .len (.t 18), some (16, true), [], []⟩,
    ⟨some 20, .bin .leq (.t 19) (.c (.int .i64) (20 : Int)), some (16, true), [], []⟩,
    ⟨some 21, .pick (.t 16) (.t 20) (.c .bool false), none, [], []⟩,
    ⟨some 22, .move (.t 21), none, [], []⟩,
    ⟨some 23, .fieldAddr (.d tDesc) 3 (.t 3), some (22, true), [], []⟩,
    ⟨some 24, .load (.d (.sl (.int .i64))) (.t 23), some (22, true), [], []⟩,
    ⟨some 25, .len (.t 24), some (22, true), [], []⟩,
    ⟨some 26, .bin .leq (.t 25) (.c (.int .i64) (40 : Int)), some (22, true), [], []⟩,
    ⟨some 27, .pick (.t 22) (.t 26) (.c .bool false), none, [], []⟩,
    ⟨some 28, .move (.t 27), none, [], []⟩,
    ⟨some 29, .fieldAddr (.d tDesc) 4 (.t 3), some (28, true), [], []⟩,
    ⟨some 30, .load (.d (.sl .bool)) (.t 29), some (28, true), [], []⟩,
    ⟨some 31, .len (.t 30), some (28, true), [], []⟩,
    ⟨some 32, .bin .leq (.t 31) (.c (.int .i64) (40 : Int)), some (28, true), [], []⟩,
    ⟨some 33, .pick (.t 28) (.t 32) (.c .bool false), none, [], []⟩,
    ⟨some 34, .move (.t 33), none, [], []⟩,
    ⟨some 35, .fieldAddr (.d tWorld) 1 (.t 1), some (34, true), [], []⟩,
    ⟨some 36, .load (.d (.sl (.int .i64))) (.t 35), some (34, true), [], []⟩,
    ⟨some 37, .len (.t 36), some (34, true), [], []⟩,
    ⟨some 38, .bin .leq (.t 37) (.c (.int .i64) (40 : Int)), some (34, true), [], []⟩,
    ⟨some 39, .pick (.t 34) (.t 38) (.c .bool false), none, [], []⟩,
    ⟨some 40, .move (.t 39), none, [], []⟩,
    ⟨some 41, .fieldAddr (.d tWorld) 2 (.t 1), some (40, true), [], []⟩,
    ⟨some 42, .load (.d (.sl (.int .i64))) (.t 41), some (40, true), [], []⟩,
    ⟨some 43, .len (.t 42), some (40, true), [], []⟩,
    ⟨some 44, .bin .leq (.t 43) (.c (.int .i64) (40 : Int)), some (40, true), [], []⟩,
    ⟨some 45, .pick (.t 40) (.t 44) (.c .bool false), none, [], []⟩,
    ⟨some 46, .move (.t 45), none, [], []⟩,
    ⟨some 47, .fieldAddr (.d tWorld) 3 (.t 1), some (46, true), [], []⟩,
    ⟨some 48, .load (.d (.sl tPlace)) (.t 47), some (46, true), [], []⟩,
    ⟨some 49, .len (.t 48), some (46, true), [], []⟩,
    ⟨some 50, .bin .leq (.t 49) (.c (.int .i64) (40 : Int)), some (46, true), [], []⟩,
    ⟨some 51, .pick (.t 46) (.t 50) (.c .bool false), none, [], []⟩,
    ⟨some 2, .move (.t 51), none, [], []⟩]) (innkeepref06_Few.c4)) (innkeepref06_Few.c3)
def innkeepref06_Few.c0 : Cd := .seq (.seq (.reg false [⟨some 4, .fieldAddr (.d tWorld) 0 (.t 1), none, [], []⟩,
    ⟨some 5, .load (.d tDesc) (.t 4), none, [], []⟩,
    ⟨some 3, .newbox 1 tDesc [], none, [], []⟩,
    ⟨none, .store (.d tDesc) (.t 3) (.t 5), none, [], []⟩]) (innkeepref06_Few.c2)) (innkeepref06_Few.c1)
def innkeepref06_Few.fn : Fn := ⟨1, [.tmp 2], .seq (.reg false [⟨some 1, .box 0 (.t 0), none, [], []⟩,
    ⟨some 2, .move (.c .bool false), none, [], []⟩]) (innkeepref06_Few.c0)⟩
def innkeepref06_in.c2 : Cd := .tidy [5, 6, 7, 8, 9, 10, 11] [] [] none
def innkeepref06_in.c1 : Cd := .ret
def innkeepref06_in.c0 : Cd := .seq (.seq (.reg false [⟨some 5, .move (.t 0), none, [], []⟩,
    ⟨some 6, .bin .geq (.t 5) (.c (.int .i64) (0 : Int)), none, [], []⟩,
    ⟨some 7, .move (.t 6), none, [], []⟩,
    ⟨some 8, .move (.t 0), some (7, true), [], []⟩,
    ⟨some 9, .move (.t 1), some (7, true), [], []⟩,
    ⟨some 10, .bin .lss (.t 8) (.t 9), some (7, true), [], []⟩,
    ⟨some 11, .pick (.t 7) (.t 10) (.c .bool false), none, [], []⟩,
    ⟨some 4, .move (.t 11), none, [], []⟩]) (innkeepref06_in.c2)) (innkeepref06_in.c1)
def innkeepref06_in.fn : Fn := ⟨2, [.tmp 4], .seq (.reg false [⟨some 4, .move (.c .bool false), none, [], []⟩]) (innkeepref06_in.c0)⟩
def innkeepref01_Is.c2 : Cd := .tidy [3, 4, 5, 6, 7, 8] [] [] none
def innkeepref01_Is.c1 : Cd := .ret
def innkeepref01_Is.c0 : Cd := .seq (.seq (.reg false [⟨some 3, .move (.t 0), none, [], []⟩,
    ⟨some 4, .bin .leq (.c (.int .i64) (0 : Int)) (.t 3), none, [], []⟩,
    ⟨some 5, .move (.t 4), none, [], []⟩,
    ⟨some 6, .move (.t 0), some (5, true), [], []⟩,
    ⟨some 7, .bin .leq (.t 6) (.c (.int .i64) (1073741824 : Int)), some (5, true), [], []⟩,
    ⟨some 8, .pick (.t 5) (.t 7) (.c .bool false), none, [], []⟩,
    ⟨some 2, .move (.t 8), none, [], []⟩]) (innkeepref01_Is.c2)) (innkeepref01_Is.c1)
def innkeepref01_Is.fn : Fn := ⟨1, [.tmp 2], .seq (.reg false [⟨some 2, .move (.c .bool false), none, [], []⟩]) (innkeepref01_Is.c0)⟩
def innkeepref06_May.c2 : Cd := .tidy [10, 11, 12] [] [] none
def innkeepref06_May.c5 : Cd := .tidy [13, 14, 15, 16, 17, 18, 19, 20, 21, 22, 23, 24, 25, 26, 27, 28, 29, 30, 31, 32, 33, 34, 35, 36, 37, 38, 39, 40, 41, 42, 43, 44, 45, 46, 47, 48, 49, 50, 51, 52, 53] [] [] none
def innkeepref06_May.c7 : Cd := .ret
def innkeepref06_May.c6 : Cd := .seq (.reg false [⟨some 2, .move (.c .bool false), none, [], []⟩]) (innkeepref06_May.c7)
def innkeepref06_May.c8 : Cd := .skip
def innkeepref06_May.c4 : Cd := .cond (.t 54) (.seq (.tidy [54] [] [] none) (innkeepref06_May.c6)) (.seq (.tidy [54] [] [] none) (innkeepref06_May.c8))
def innkeepref06_May.c11 : Cd := .tidy [55, 56, 57, 58, 59, 60, 61, 62, 63, 64, 65, 66, 67, 68, 69] [] [] none
def innkeepref06_May.c13 : Cd := .ret
def innkeepref06_May.c12 : Cd := .seq (.reg false [⟨some 2, .move (.c .bool false), none, [], []⟩]) (innkeepref06_May.c13)
def innkeepref06_May.c14 : Cd := .skip
def innkeepref06_May.c10 : Cd := .cond (.t 70) (.seq (.tidy [70] [] [] none) (innkeepref06_May.c12)) (.seq (.tidy [70] [] [] none) (innkeepref06_May.c14))
def innkeepref06_May.c21 : Cd := .tidy [71, 72] [] [] none
def innkeepref06_May.c22 : Cd := .skip
def innkeepref06_May.c63 : Cd := .exit 0
def innkeepref06_May.c20 : Cd := .cond (.t 73) (.seq (.tidy [73] [] [] none) (innkeepref06_May.c22)) (.seq (.tidy [73] [] [] none) (innkeepref06_May.c63))
def innkeepref06_May.c30 : Cd := .tidy [76] [] [] none
def innkeepref06_May.c31 : Cd := .skip
def innkeepref06_May.c39 : Cd := .exit 2
def innkeepref06_May.c29 : Cd := .cond (.t 77) (.seq (.tidy [77] [] [] none) (innkeepref06_May.c31)) (.seq (.tidy [77] [] [] none) (innkeepref06_May.c39))
def innkeepref06_May.c34 : Cd := .tidy [80, 81, 82, 83, 84, 85, 86, 87, 88, 89, 90, 91, 92, 93, 94, 95, 96, 97, 98] [] [] none
def innkeepref06_May.c36 : Cd := .ret
def innkeepref06_May.c35 : Cd := .seq (.reg false [⟨some 2, .move (.c .bool false), none, [], []⟩]) (innkeepref06_May.c36)
def innkeepref06_May.c37 : Cd := .skip
def innkeepref06_May.c33 : Cd := .cond (.t 99) (.seq (.tidy [99] [] [] none) (innkeepref06_May.c35)) (.seq (.tidy [99] [] [] none) (innkeepref06_May.c37))
def innkeepref06_May.c38 : Cd := .tidy [78, 79] [] [] none
def innkeepref06_May.c32 : Cd := .seq (.reg false [⟨some 78, .move (.t 5), none, [], []⟩,
    ⟨some 79, .bin .add (.t 78) (.c (.int .i64) (1 : Int)), none, [], []⟩,
    ⟨some 5, .move (.t 79), none, [], []⟩]) (innkeepref06_May.c38)
def innkeepref06_May.c28 : Cd := .seq (.block 3 (.seq (.seq (.reg false [⟨some 80, .fieldAddr (.d tDesc) 0 (.t 1), none, [], []⟩,
    ⟨some 81, .load (.d (.sl (.arr 4 (.int .i64)))) (.t 80), none, [], []⟩,
    ⟨some 82, .move (.t 4), none, [], []⟩,
    ⟨some 83, .move (.t 5), none, [], []⟩,
    ⟨some 84, .index (.sl (.arr 4 (.int .i64))) (.t 81) (.t 82), none, [], []⟩,
    ⟨some 85, .index (.arr 4 (.int .i64)) (.t 84) (.t 83), none, [], []⟩,
    ⟨some 86, .load (.d (.int .i64)) (.t 85), none, [], []⟩,
    ⟨some 87, .bin .neq (.t 86) (.c (.int .i64) ((-1) : Int)), none, [], []⟩,
    ⟨some 88, .move (.t 87), none, [], []⟩,
    ⟨some 89, .fieldAddr (.d tDesc) 0 (.t 1), some (88, true), [], []⟩,
    ⟨some 90, .load (.d (.sl (.arr 4 (.int .i64)))) (.t 89), some (88, true), [], []⟩,
    ⟨some 91, .move (.t 4), some (88, true), [], []⟩,
    ⟨some 92, .move (.t 5), some (88, true), [], []⟩,
    ⟨some 93, .index (.sl (.arr 4 (.int .i64))) (.t 90) (.t 91), some (88, true), [], []⟩,
    ⟨some 94, .index (.arr 4 (.int .i64)) (.t 93) (.t 92), some (88, true), [], []⟩,
    ⟨some 95, .load (.d (.int .i64)) (.t 94), some (88, true), [], []⟩,
    ⟨some 96, .move (.t 3), some (88, true), [], []⟩,
    ⟨some 97, .call (.f 50) [(.t 95), (.t 96)] [.d .bool] [] false, some (88, true), [], []⟩,
    ⟨some 98, .not (.t 97), some (88, true), [], []⟩,
    ⟨some 99, .pick (.t 88) (.t 98) (.c .bool false), none, [], []⟩]) (innkeepref06_May.c34)) (innkeepref06_May.c33))) (innkeepref06_May.c32)
def innkeepref06_May.c27 : Cd := .tidy [] [] [] (some 1)
def innkeepref06_May.c26 : Cd := .seq (.seq (.seq (.seq (.reg false [⟨some 76, .move (.t 5), none, [], []⟩,
    ⟨some 77, .bin .lss (.t 76) (.c (.int .i64) (4 : Int)), none, [], []⟩]) (innkeepref06_May.c30)) (innkeepref06_May.c29)) (innkeepref06_May.c28)) (innkeepref06_May.c27)
def innkeepref06_May.c25 : Cd := .block 2 (.loop (innkeepref06_May.c26))
def innkeepref06_May.c47 : Cd := .tidy [100, 101, 102, 103] [] [] none
def innkeepref06_May.c48 : Cd := .skip
def innkeepref06_May.c56 : Cd := .exit 4
def innkeepref06_May.c46 : Cd := .cond (.t 104) (.seq (.tidy [104] [] [] none) (innkeepref06_May.c48)) (.seq (.tidy [104] [] [] none) (innkeepref06_May.c56))
def innkeepref06_May.c51 : Cd := .tidy [107, 108, 109, 110, 111, 112] [] [] none
def innkeepref06_May.c53 : Cd := .tidy [114, 115] [] [] none
def innkeepref06_May.c52 : Cd := .seq (.reg false [⟨some 114, .move (.t 6), none, [], []⟩,
    ⟨some 115, .bin .add (.t 114) (.c (.int .i64) (1 : Int)), none, [], []⟩,
    ⟨some 6, .move (.t 115), none, [], []⟩]) (innkeepref06_May.c53)
def innkeepref06_May.c55 : Cd := .skip
def innkeepref06_May.c50 : Cd := .cond (.t 113) (.seq (.tidy [113] [] [] none) (innkeepref06_May.c52)) (.seq (.tidy [113] [] [] none) (innkeepref06_May.c55))
def innkeepref06_May.c54 : Cd := .tidy [105, 106] [] [] none
def innkeepref06_May.c49 : Cd := .seq (.reg false [⟨some 105, .move (.t 7), none, [], []⟩,
    ⟨some 106, .bin .add (.t 105) (.c (.int .i64) (1 : Int)), none, [], []⟩,
    ⟨some 7, .move (.t 106), none, [], []⟩]) (innkeepref06_May.c54)
def innkeepref06_May.c45 : Cd := .seq (.block 5 (.seq (.seq (.reg false [⟨some 107, .fieldAddr (.d tDesc) 3 (.t 1), none, [], []⟩,
    ⟨some 108, .load (.d (.sl (.int .i64))) (.t 107), none, [], []⟩,
    ⟨some 109, .move (.t 7), none, [], []⟩,
    ⟨some 110, .index (.sl (.int .i64)) (.t 108) (.t 109), none, [], []⟩,
    ⟨some 111, .load (.d (.int .i64)) (.t 110), none, [], []⟩,
    ⟨some 112, .move (.t 4), none, [], []⟩,
    ⟨some 113, .bin .eql (.t 111) (.t 112), none, [], []⟩]) (innkeepref06_May.c51)) (innkeepref06_May.c50))) (innkeepref06_May.c49)
def innkeepref06_May.c44 : Cd := .tidy [] [] [] (some 1)
def innkeepref06_May.c43 : Cd := .seq (.seq (.seq (.seq (.reg false [⟨some 100, .move (.t 7), none, [], []⟩,
    ⟨some 101, .fieldAddr (.d tDesc) 3 (.t 1), none, [], []⟩,
    ⟨some 102, .load (.d (.sl (.int .i64))) (.t 101), none, [], []⟩,
    ⟨some 103, .len (.t 102), none, [], []⟩,
    ⟨some 104, .bin .lss (.t 100) (.t 103), none, [], []⟩]) (innkeepref06_May.c47)) (innkeepref06_May.c46)) (innkeepref06_May.c45)) (innkeepref06_May.c44)
def innkeepref06_May.c42 : Cd := .block 4 (.loop (innkeepref06_May.c43))
def innkeepref06_May.c58 : Cd := .tidy [116, 117, 118] [] [] none
def innkeepref06_May.c60 : Cd := .ret
def innkeepref06_May.c59 : Cd := .seq (.reg false [⟨some 2, .move (.c .bool false), none, [], []⟩]) (innkeepref06_May.c60)
def innkeepref06_May.c61 : Cd := .skip
def innkeepref06_May.c57 : Cd := .cond (.t 119) (.seq (.tidy [119] [] [] none) (innkeepref06_May.c59)) (.seq (.tidy [119] [] [] none) (innkeepref06_May.c61))
def innkeepref06_May.c41 : Cd := .seq (.seq (.reg false [⟨some 116, .move (.t 6), none, [], []⟩,
    ⟨some 117, .fieldAddr (.d tDesc) 5 (.t 1), none, [], []⟩,
    ⟨some 118, .load (.d (.int .i64)) (.t 117), none, [], []⟩,
    ⟨some 119, .bin .gtr (.t 116) (.t 118), none, [], []⟩]) (innkeepref06_May.c58)) (innkeepref06_May.c57)
def innkeepref06_May.c40 : Cd := .seq (.seq (.reg false [⟨some 7, .move (.c (.int .i64) (0 : Int)), none, [], []⟩]) (innkeepref06_May.c42)) (innkeepref06_May.c41)
def innkeepref06_May.c24 : Cd := .seq (.reg false [⟨some 6, .move (.c (.int .i64) (0 : Int)), none, [], []⟩]) (innkeepref06_May.c40)
def innkeepref06_May.c62 : Cd := .tidy [74, 75] [] [] none
def innkeepref06_May.c23 : Cd := .seq (.reg false [⟨some 74, .move (.t 4), none, [], []⟩,
    ⟨some 75, .bin .add (.t 74) (.c (.int .i64) (1 : Int)), none, [], []⟩,
    ⟨some 4, .move (.t 75), none, [], []⟩]) (innkeepref06_May.c62)
def innkeepref06_May.c19 : Cd := .seq (.block 1 (.seq (.seq (.reg false [⟨some 5, .move (.c (.int .i64) (0 : Int)), none, [], []⟩]) (innkeepref06_May.c25)) (innkeepref06_May.c24))) (innkeepref06_May.c23)
def innkeepref06_May.c18 : Cd := .tidy [5, 6, 7] [] [] (some 1)
def innkeepref06_May.c17 : Cd := .seq (.seq (.seq (.seq (.reg false [⟨some 71, .move (.t 4), none, [], []⟩,
    ⟨some 72, .move (.t 3), none, [], []⟩,
    ⟨some 73, .bin .lss (.t 71) (.t 72), none, [], []⟩]) (innkeepref06_May.c21)) (innkeepref06_May.c20)) (innkeepref06_May.c19)) (innkeepref06_May.c18)
def innkeepref06_May.c16 : Cd := .block 0 (.loop (innkeepref06_May.c17))
def innkeepref06_May.c70 : Cd := .tidy [120, 121, 122, 123] [] [] none
def innkeepref06_May.c71 : Cd := .skip
def innkeepref06_May.c79 : Cd := .exit 6
def innkeepref06_May.c69 : Cd := .cond (.t 124) (.seq (.tidy [124] [] [] none) (innkeepref06_May.c71)) (.seq (.tidy [124] [] [] none) (innkeepref06_May.c79))
def innkeepref06_May.c74 : Cd := .tidy [127, 128, 129, 130, 131, 132, 133, 134, 135, 136, 137, 138, 139, 140, 141, 142] [] [] none
def innkeepref06_May.c76 : Cd := .ret
def innkeepref06_May.c75 : Cd := .seq (.reg false [⟨some 2, .move (.c .bool false), none, [], []⟩]) (innkeepref06_May.c76)
def innkeepref06_May.c77 : Cd := .skip
def innkeepref06_May.c73 : Cd := .cond (.t 143) (.seq (.tidy [143] [] [] none) (innkeepref06_May.c75)) (.seq (.tidy [143] [] [] none) (innkeepref06_May.c77))
def innkeepref06_May.c78 : Cd := .tidy [125, 126] [] [] none
def innkeepref06_May.c72 : Cd := .seq (.reg false [⟨some 125, .move (.t 8), none, [], []⟩,
    ⟨some 126, .bin .add (.t 125) (.c (.int .i64) (1 : Int)), none, [], []⟩,
    ⟨some 8, .move (.t 126), none, [], []⟩]) (innkeepref06_May.c78)
def innkeepref06_May.c68 : Cd := .seq (.block 7 (.seq (.seq (.reg false [⟨some 127, .fieldAddr (.d tDesc) 1 (.t 1), none, [], []⟩,
    ⟨some 128, .load (.d (.sl (.int .i64))) (.t 127), none, [], []⟩,
    ⟨some 129, .move (.t 8), none, [], []⟩,
    ⟨some 130, .index (.sl (.int .i64)) (.t 128) (.t 129), none, [], []⟩,
    ⟨some 131, .load (.d (.int .i64)) (.t 130), none, [], []⟩,
    ⟨some 132, .move (.t 3), none, [], []⟩,
    ⟨some 133, .call (.f 50) [(.t 131), (.t 132)] [.d .bool] [] false, none, [], []⟩,
    ⟨some 134, .not (.t 133), none, [], []⟩,
    ⟨some 135, .move (.t 134), none, [], []⟩,
    ⟨some 136, .fieldAddr (.d tDesc) 2 (.t 1), some (135, false), [], []⟩,
    ⟨some 137, .load (.d (.sl (.int .i64))) (.t 136), some (135, false), [], []⟩,
    ⟨some 138, .move (.t 8), some (135, false), [], []⟩,
    ⟨some 139, .index (.sl (.int .i64)) (.t 137) (.t 138), some (135, false), [], []⟩,
    ⟨some 140, .load (.d (.int .i64)) (.t 139), some (135, false), [], []⟩,
    ⟨some 141, .call (.f 51) [(.t 140)] [.d .bool] [] false, some (135, false), [], []⟩,
    ⟨some 142, .not (.t 141), some (135, false), [], []⟩,
    ⟨some 143, .pick (.t 135) (.c .bool true) (.t 142), none, [], []⟩]) (innkeepref06_May.c74)) (innkeepref06_May.c73))) (innkeepref06_May.c72)
def innkeepref06_May.c67 : Cd := .tidy [] [] [] (some 1)
def innkeepref06_May.c66 : Cd := .seq (.seq (.seq (.seq (.reg false [⟨some 120, .move (.t 8), none, [], []⟩,
    ⟨some 121, .fieldAddr (.d tDesc) 1 (.t 1), none, [], []⟩,
    ⟨some 122, .load (.d (.sl (.int .i64))) (.t 121), none, [], []⟩,
    ⟨some 123, .len (.t 122), none, [], []⟩,
    ⟨some 124, .bin .lss (.t 120) (.t 123), none, [], []⟩]) (innkeepref06_May.c70)) (innkeepref06_May.c69)) (innkeepref06_May.c68)) (innkeepref06_May.c67)
def innkeepref06_May.c65 : Cd := .block 6 (.loop (innkeepref06_May.c66))
def innkeepref06_May.c86 : Cd := .tidy [144, 145, 146, 147] [] [] none
def innkeepref06_May.c87 : Cd := .skip
def innkeepref06_May.c95 : Cd := .exit 8
def innkeepref06_May.c85 : Cd := .cond (.t 148) (.seq (.tidy [148] [] [] none) (innkeepref06_May.c87)) (.seq (.tidy [148] [] [] none) (innkeepref06_May.c95))
def innkeepref06_May.c90 : Cd := .tidy [151, 152, 153, 154, 155, 156, 157] [] [] none
def innkeepref06_May.c92 : Cd := .ret
def innkeepref06_May.c91 : Cd := .seq (.reg false [⟨some 2, .move (.c .bool false), none, [], []⟩]) (innkeepref06_May.c92)
def innkeepref06_May.c93 : Cd := .skip
def innkeepref06_May.c89 : Cd := .cond (.t 158) (.seq (.tidy [158] [] [] none) (innkeepref06_May.c91)) (.seq (.tidy [158] [] [] none) (innkeepref06_May.c93))
def innkeepref06_May.c94 : Cd := .tidy [149, 150] [] [] none
def innkeepref06_May.c88 : Cd := .seq (.reg false [⟨some 149, .move (.t 9), none, [], []⟩,
    ⟨some 150, .bin .add (.t 149) (.c (.int .i64) (1 : Int)), none, [], []⟩,
    ⟨some 9, .move (.t 150), none, [], []⟩]) (innkeepref06_May.c94)
def innkeepref06_May.c84 : Cd := .seq (.block 9 (.seq (.seq (.reg false [⟨some 151, .fieldAddr (.d tDesc) 3 (.t 1), none, [], []⟩,
    ⟨some 152, .load (.d (.sl (.int .i64))) (.t 151), none, [], []⟩,
    ⟨some 153, .move (.t 9), none, [], []⟩,
    ⟨some 154, .index (.sl (.int .i64)) (.t 152) (.t 153), none, [], []⟩,
    ⟨some 155, .load (.d (.int .i64)) (.t 154), none, [], []⟩,
    ⟨some 156, .move (.t 3), none, [], []⟩,
    ⟨some 157, .call (.f 50) [(.t 155), (.t 156)] [.d .bool] [] false, none, [], []⟩,
    ⟨some 158, .not (.t 157), none, [], []⟩]) (innkeepref06_May.c90)) (innkeepref06_May.c89))) (innkeepref06_May.c88)
def innkeepref06_May.c83 : Cd := .tidy [] [] [] (some 1)
def innkeepref06_May.c82 : Cd := .seq (.seq (.seq (.seq (.reg false [⟨some 144, .move (.t 9), none, [], []⟩,
    ⟨some 145, .fieldAddr (.d tDesc) 3 (.t 1), none, [], []⟩,
    ⟨some 146, .load (.d (.sl (.int .i64))) (.t 145), none, [], []⟩,
    ⟨some 147, .len (.t 146), none, [], []⟩,
    ⟨some 148, .bin .lss (.t 144) (.t 147), none, [], []⟩]) (innkeepref06_May.c86)) (innkeepref06_May.c85)) (innkeepref06_May.c84)) (innkeepref06_May.c83)
def innkeepref06_May.c81 : Cd := .block 8 (.loop (innkeepref06_May.c82))
def innkeepref06_May.c96 : Cd := .ret
def innkeepref06_May.c80 : Cd := .seq (.reg false [⟨some 2, .move (.c .bool true), none, [], []⟩]) (innkeepref06_May.c96)
def innkeepref06_May.c64 : Cd := .seq (.seq (.reg false [⟨some 9, .move (.c (.int .i64) (0 : Int)), none, [], []⟩]) (innkeepref06_May.c81)) (innkeepref06_May.c80)
def innkeepref06_May.c15 : Cd := .seq (.seq (.reg false [⟨some 8, .move (.c (.int .i64) (0 : Int)), none, [], []⟩]) (innkeepref06_May.c65)) (innkeepref06_May.c64)
def innkeepref06_May.c9 : Cd := .seq (.seq (.reg false [⟨some 4, .move (.c (.int .i64) (0 : Int)), none, [], []⟩]) (innkeepref06_May.c16)) (innkeepref06_May.c15)
def innkeepref06_May.c3 : Cd := .seq (.seq (.seq (.reg false [⟨some 55, .fieldAddr (.d tDesc) 5 (.t 1), none, [], []⟩,
    ⟨some 56, .load (.d (.int .i64)) (.t 55), none, [], []⟩,
    ⟨some 57, .call (.f 50) [(.t 56), (.c (.int .i64) (65 : Int))] [.d .bool] [] false, none, [], []⟩,
    ⟨some 58, .not (.t 57), none, [], []⟩,
    ⟨some 59, .move (.t 58), none, [], []⟩,
    ⟨some 60, .fieldAddr (.d tDesc) 6 (.t 1), some (59, false), [], []⟩,
    ⟨some 61, .load (.d (.int .i64)) (.t 60), some (59, false), [], []⟩,
    ⟨some 62, .call (.f 50) [(.t 61), (.c (.int .i64) (65 : Int))] [.d .bool] [] false, some (59, false), [], []⟩,
    ⟨some 63, .not (.t 62), some (59, false), [], []⟩,
    ⟨some 64, .pick (.t 59) (.c .bool true) (.t 63), none, [], []⟩,
    ⟨some 65, .move (.t 64), none, [], []⟩,
    ⟨some 66, .fieldAddr (.d tDesc) 7 (.t 1), some (65, false), [], []⟩,
    ⟨some 67, .load (.d (.int .i64)) (.t 66), some (65, false), [], []⟩,
    ⟨some 68, .call (.f 50) [(.t 67), (.c (.int .i64) (65 : Int))] [.d .bool] [] false, some (65, false), [], []⟩,
    ⟨some 69, .not (.t 68), some (65, false), [], []⟩,
    ⟨some 70, .pick (.t 65) (.c .bool true) (.t 69), none, [], []⟩]) (innkeepref06_May.c11)) (innkeepref06_May.c10)) (innkeepref06_May.c9)
def innkeepref06_May.c1 : Cd := .seq (.seq (.seq (.reg false [⟨some 13, .move (.t 3), none, [], []⟩,
    ⟨some 14, .bin .lss (.t 13) (.c (.int .i64) (1 : Int)), none, [], []⟩,
    ⟨some 15, .move (.t 14), none, [], []⟩,
    ⟨some 16, .move (.t 3), some (15, false), [], []⟩,
    ⟨some 17, .bin .gtr (.t 16) (.c (.int .i64) (8 : Int)), some (15, false), [], []⟩,
    ⟨some 18, .pick (.t 15) (.c .bool true) (.t 17), none, [], []⟩,
    ⟨some 19, .move (.t 18), none, [], []⟩,
    ⟨some 20, .fieldAddr (.d tDesc) 1 (.t 1), some (19, false), [], []⟩,
    ⟨some 21, .load (.d (.sl (.int .i64))) (.t 20), some (19, false), [], []⟩,
    ⟨some 22, .len (.t 21), some (19, false), [], []⟩,
    ⟨some 23, .bin .lss (.t 22) (.c (.int .i64) (1 : Int)), some (19, false), [], []⟩,
    ⟨some 24, .pick (.t 19) (.c .bool true) (.t 23), none, [], []⟩,
    ⟨some 25, .move (.t 24), none, [], []⟩,
    ⟨some 26, .fieldAddr (.d tDesc) 1 (.t 1), some (25, false), [], []⟩,
    ⟨some 27, .load (.d (.sl (.int .i64))) (.t 26), some (25, false), [], []⟩,
    ⟨some 28, .len (.t 27), some (25, false), [], []⟩,
    ⟨some 29, .bin .gtr (.t 28) (.c (.int .i64) (6 : Int)), some (25, false), [], []⟩,
    ⟨some 30, .pick (.t 25) (.c .bool true) (.t 29), none, [], []⟩,
    ⟨some 31, .move (.t 30), none, [], []⟩,
    ⟨some 32, .fieldAddr (.d tDesc) 2 (.t 1), some (31, false), [], []⟩,
    ⟨some 33, .load (.d (.sl (.int .i64))) (.t 32), some (31, false), [], []⟩,
    ⟨some 34, .len (.t 33), some (31, false), [], []⟩,
    ⟨some 35, .fieldAddr (.d tDesc) 1 (.t 1), some (31, false), [], []⟩,
    ⟨some 36, .load (.d (.sl (.int .i64))) (.t 35), some (31, false), [], []⟩,
    ⟨some 37, .len (.t 36), some (31, false), [], []⟩,
    ⟨some 38, .bin .neq (.t 34) (.t 37), some (31, false), [], []⟩,
    ⟨some 39, .pick (.t 31) (.c .bool true) (.t 38), none, [], []⟩,
    ⟨some 40, .move (.t 39), none, [], []⟩,
    ⟨some 41, .fieldAddr (.d tDesc) 3 (.t 1), some (40, false), [], []⟩,
    ⟨some 42, .load (.d (.sl (.int .i64))) (.t 41), some (40, false), [], []⟩,
    ⟨some 43, .len (.t 42), some (40, false), [], []⟩,
    ⟨some 44, .bin .gtr (.t 43) (.c (.int .i64) (16 : Int)), some (40, false), [], []⟩,
    ⟨some 45, .pick (.t 40) (.c .bool true) (.t 44), none, [], []⟩,
    ⟨some 46, .move (.t 45), none, [], []⟩,
    ⟨some 47, .fieldAddr (.d tDesc) 4 (.t 1), some (46, false), [], []⟩,
    ⟨some 48, .load (.d (.sl .bool)) (.t 47), some (46, false), [], []⟩,
    ⟨some 49, .len (.t 48), some (46, false), [], []⟩,
    ⟨some 50, .fieldAddr (.d tDesc) 3 (.t 1), some (46, false), [], []⟩,
    ⟨some 51, .load (.d (.sl (.int .i64))) (.t 50), some (46, false), [], []⟩,
    ⟨some 52, .len (.t 51), some (46, false), [], []⟩,
    ⟨some 53, .bin .neq (.t 49) (.t 52), some (46, false), [], []⟩,
    ⟨some 54, .pick (.t 46) (.c .bool true) (.t 53), none, [], []⟩]) (innkeepref06_May.c5)) (innkeepref06_May.c4)) (innkeepref06_May.c3)
def innkeepref06_May.c0 : Cd := .seq (.seq (.reg false [⟨some 10, .fieldAddr (.d tDesc) 0 (.t 1), none, [], []⟩,
    ⟨some 11, .load (.d (.sl (.arr 4 (.int .i64)))) (.t 10), none, [], []⟩,
    ⟨some 12, .len (.t 11), none, [], []⟩,
    ⟨some 3, .move (.t 12), none, [], []⟩]) (innkeepref06_May.c2)) (innkeepref06_May.c1)
def innkeepref06_May.fn : Fn := ⟨1, [.tmp 2], .seq (.reg false [⟨some 1, .box 0 (.t 0), none, [], []⟩,
    ⟨some 2, .move (.c .bool false), none, [], []⟩]) (innkeepref06_May.c0)⟩
def innkeepref06_Depth.c7 : Cd := .tidy [6, 7] [] [] none
def innkeepref06_Depth.c8 : Cd := .skip
def innkeepref06_Depth.c18 : Cd := .exit 0
def innkeepref06_Depth.c6 : Cd := .cond (.t 8) (.seq (.tidy [8] [] [] none) (innkeepref06_Depth.c8)) (.seq (.tidy [8] [] [] none) (innkeepref06_Depth.c18))
def innkeepref06_Depth.c10 : Cd := .tidy [9, 10] [] [] none
def innkeepref06_Depth.c13 : Cd := .tidy [11] [] [] none
def innkeepref06_Depth.c15 : Cd := .ret
def innkeepref06_Depth.c14 : Cd := .seq (.reg false [⟨some 4, .move (.c (.int .i64) (99 : Int)), none, [], []⟩]) (innkeepref06_Depth.c15)
def innkeepref06_Depth.c16 : Cd := .skip
def innkeepref06_Depth.c12 : Cd := .cond (.t 12) (.seq (.tidy [12] [] [] none) (innkeepref06_Depth.c14)) (.seq (.tidy [12] [] [] none) (innkeepref06_Depth.c16))
def innkeepref06_Depth.c17 : Cd := .tidy [13, 14, 15, 16, 17, 18] [] [] none
def innkeepref06_Depth.c11 : Cd := .seq (.reg false [⟨some 13, .fieldAddr (.d tWorld) 3 (.t 2), none, [], []⟩,
    ⟨some 14, .load (.d (.sl tPlace)) (.t 13), none, [], []⟩,
    ⟨some 15, .fieldAddr (.d tPlace) 1 (.t 3), none, [], []⟩,
    ⟨some 16, .load (.d (.int .i64)) (.t 15), none, [], []⟩,
    ⟨some 17, .index (.sl tPlace) (.t 14) (.t 16), none, [], []⟩,
    ⟨some 18, .load (.d tPlace) (.t 17), none, [], []⟩,
    ⟨none, .store (.d tPlace) (.t 3) (.t 18), none, [], []⟩]) (innkeepref06_Depth.c17)
def innkeepref06_Depth.c9 : Cd := .seq (.seq (.seq (.reg false [⟨some 11, .move (.t 5), none, [], []⟩,
    ⟨some 12, .bin .gtr (.t 11) (.c (.int .i64) (50 : Int)), none, [], []⟩]) (innkeepref06_Depth.c13)) (innkeepref06_Depth.c12)) (innkeepref06_Depth.c11)
def innkeepref06_Depth.c5 : Cd := .block 1 (.seq (.seq (.reg false [⟨some 9, .move (.t 5), none, [], []⟩,
    ⟨some 10, .bin .add (.t 9) (.c (.int .i64) (1 : Int)), none, [], []⟩,
    ⟨some 5, .move (.t 10), none, [], []⟩]) (innkeepref06_Depth.c10)) (innkeepref06_Depth.c9))
def innkeepref06_Depth.c4 : Cd := .tidy [] [] [] (some 2)
def innkeepref06_Depth.c3 : Cd := .seq (.seq (.seq (.seq (.reg false [⟨some 6, .fieldAddr (.d tPlace) 0 (.t 3), none, [], []⟩,
    ⟨some 7, .load (.d (.int .i64)) (.t 6), none, [], []⟩,
    ⟨some 8, .bin .eql (.t 7) (.c (.int .i64) (2 : Int)), none, [], []⟩]) (innkeepref06_Depth.c7)) (innkeepref06_Depth.c6)) (innkeepref06_Depth.c5)) (innkeepref06_Depth.c4)
def innkeepref06_Depth.c20 : Cd := .tidy [19] [] [] none
def innkeepref06_Depth.c19 : Cd := .ret
def innkeepref06_Depth.c2 : Cd := .seq (.seq (.reg false [⟨some 19, .move (.t 5), none, [], []⟩,
    ⟨some 4, .move (.t 19), none, [], []⟩]) (innkeepref06_Depth.c20)) (innkeepref06_Depth.c19)
def innkeepref06_Depth.c1 : Cd := .seq (.block 0 (.loop (innkeepref06_Depth.c3))) (innkeepref06_Depth.c2)
def innkeepref06_Depth.c0 : Cd := .seq (.reg false [⟨some 5, .move (.c (.int .i64) (0 : Int)), none, [], []⟩]) (innkeepref06_Depth.c1)
def innkeepref06_Depth.fn : Fn := ⟨2, [.tmp 4], .seq (.reg false [⟨some 2, .box 0 (.t 0), none, [], []⟩,
    ⟨some 3, .box 1 (.t 1), none, [], []⟩,
    ⟨some 4, .move (.c (.int .i64) (0 : Int)), none, [], []⟩]) (innkeepref06_Depth.c0)⟩
def innkeepref06_Many.c8 : Cd := .tidy [7, 8, 9, 10] [] [] none
def innkeepref06_Many.c9 : Cd := .skip
def innkeepref06_Many.c17 : Cd := .exit 0
def innkeepref06_Many.c7 : Cd := .cond (.t 11) (.seq (.tidy [11] [] [] none) (innkeepref06_Many.c9)) (.seq (.tidy [11] [] [] none) (innkeepref06_Many.c17))
def innkeepref06_Many.c12 : Cd := .tidy [14, 15, 16, 17, 18, 19] [] [] none
def innkeepref06_Many.c14 : Cd := .tidy [21, 22] [] [] none
def innkeepref06_Many.c13 : Cd := .seq (.reg false [⟨some 21, .move (.t 5), none, [], []⟩,
    ⟨some 22, .bin .add (.t 21) (.c (.int .i64) (1 : Int)), none, [], []⟩,
    ⟨some 5, .move (.t 22), none, [], []⟩]) (innkeepref06_Many.c14)
def innkeepref06_Many.c16 : Cd := .skip
def innkeepref06_Many.c11 : Cd := .cond (.t 20) (.seq (.tidy [20] [] [] none) (innkeepref06_Many.c13)) (.seq (.tidy [20] [] [] none) (innkeepref06_Many.c16))
def innkeepref06_Many.c15 : Cd := .tidy [12, 13] [] [] none
def innkeepref06_Many.c10 : Cd := .seq (.reg false [⟨some 12, .move (.t 6), none, [], []⟩,
    ⟨some 13, .bin .add (.t 12) (.c (.int .i64) (1 : Int)), none, [], []⟩,
    ⟨some 6, .move (.t 13), none, [], []⟩]) (innkeepref06_Many.c15)
def innkeepref06_Many.c6 : Cd := .seq (.block 1 (.seq (.seq (.reg true [⟨some 14, .fieldAddr (.d tWorld) 3 (.t 2), none, [0], []⟩,
    ⟨some 15, .load (.d (.sl tPlace)) (.t 14), none, [0], []⟩,
    ⟨some 16, .move (.t 6), none, [], []⟩,
    ⟨some 17, .index (.sl tPlace) (.t 15) (.t 16), none, [], []⟩,
    ⟨some 18, .load (.d tPlace) (.t 17), none, [], []⟩,
    ⟨some 19, .load (.d tPlace) (.t 3), none, [1], []⟩,
    ⟨some 20, .eqs tPlace false (.t 18) (.t 19), none, [], []⟩]) (innkeepref06_Many.c12)) (innkeepref06_Many.c11))) (innkeepref06_Many.c10)
def innkeepref06_Many.c5 : Cd := .tidy [] [] [] (some 2)
def innkeepref06_Many.c4 : Cd := .seq (.seq (.seq (.seq (.reg false [⟨some 7, .move (.t 6), none, [], []⟩,
    ⟨some 8, .fieldAddr (.d tWorld) 3 (.t 2), none, [], []⟩,
    ⟨some 9, .load (.d (.sl tPlace)) (.t 8), none, [], []⟩,
    ⟨some 10, .len (.t 9), none, [], []⟩,
    ⟨some 11, .bin .lss (.t 7) (.t 10), none, [], []⟩]) (innkeepref06_Many.c8)) (innkeepref06_Many.c7)) (innkeepref06_Many.c6)) (innkeepref06_Many.c5)
def innkeepref06_Many.c3 : Cd := .block 0 (.loop (innkeepref06_Many.c4))
def innkeepref06_Many.c19 : Cd := .tidy [23] [] [] none
def innkeepref06_Many.c18 : Cd := .ret
def innkeepref06_Many.c2 : Cd := .seq (.seq (.reg false [⟨some 23, .move (.t 5), none, [], []⟩,
    ⟨some 4, .move (.t 23), none, [], []⟩]) (innkeepref06_Many.c19)) (innkeepref06_Many.c18)
def innkeepref06_Many.c1 : Cd := .seq (.seq (.reg false [⟨some 6, .move (.c (.int .i64) (0 : Int)), none, [], []⟩]) (innkeepref06_Many.c3)) (innkeepref06_Many.c2)
def innkeepref06_Many.c0 : Cd := .seq (.reg false [⟨some 5, .move (.c (.int .i64) (0 : Int)), none, [], []⟩]) (innkeepref06_Many.c1)
def innkeepref06_Many.fn : Fn := ⟨2, [.tmp 4], .seq (.reg false [⟨some 2, .box 0 (.t 0), none, [], []⟩,
    ⟨some 3, .box 1 (.t 1), none, [], []⟩,
    ⟨some 4, .move (.c (.int .i64) (0 : Int)), none, [], []⟩]) (innkeepref06_Many.c0)⟩
def innkeepref06_Cap.c2 : Cd := .tidy [5, 6, 7, 8, 9, 10, 11, 12, 13, 14, 15, 16, 17, 18] [] [] none
def innkeepref06_Cap.c1 : Cd := .ret
def innkeepref06_Cap.c0 : Cd := .seq (.seq (.reg false [⟨some 5, .fieldAddr (.d tWorld) 0 (.t 2), none, [], []⟩,
    ⟨some 6, .fieldAddr (.d tDesc) 5 (.t 5), none, [], []⟩,
    ⟨some 7, .load (.d (.int .i64)) (.t 6), none, [], []⟩,
    ⟨some 8, .fieldAddr (.d tWorld) 0 (.t 2), none, [], []⟩,
    ⟨some 9, .fieldAddr (.d tDesc) 6 (.t 8), none, [], []⟩,
    ⟨some 10, .load (.d (.int .i64)) (.t 9), none, [], []⟩,
    ⟨some 11, .fieldAddr (.d tWorld) 0 (.t 2), none, [], []⟩,
    ⟨some 12, .fieldAddr (.d tDesc) 7 (.t 11), none, [], []⟩,
    ⟨some 13, .load (.d (.int .i64)) (.t 12), none, [], []⟩,
    ⟨some 14, .slice 2 (.int .i64) [(.t 7), (.t 10), (.t 13)], none, [], []⟩,
    ⟨some 15, .fieldAddr (.d tPlace) 0 (.t 3), none, [], []⟩,
    ⟨some 16, .load (.d (.int .i64)) (.t 15), none, [], []⟩,
    ⟨some 17, .index (.sl (.int .i64)) (.t 14) (.t 16), none, [], []⟩,
    ⟨some 18, .load (.d (.int .i64)) (.t 17), none, [], []⟩,
    ⟨some 4, .move (.t 18), none, [], []⟩]) (innkeepref06_Cap.c2)) (innkeepref06_Cap.c1)
def innkeepref06_Cap.fn : Fn := ⟨2, [.tmp 4], .seq (.reg false [⟨some 2, .box 0 (.t 0), none, [], []⟩,
    ⟨some 3, .box 1 (.t 1), none, [], []⟩,
    ⟨some 4, .move (.c (.int .i64) (0 : Int)), none, [], []⟩]) (innkeepref06_Cap.c0)⟩
def innkeepref06_Right.c2 : Cd := .tidy [9, 10] [] [] none
def innkeepref06_Right.c5 : Cd := .tidy [11, 12, 13, 14, 15, 16, 17, 18, 19, 20, 21, 22, 23, 24, 25, 26, 27, 28, 29, 30, 31, 32, 33, 34, 35, 36, 37, 38, 39] [] [] none
def innkeepref06_Right.c7 : Cd := .ret
def innkeepref06_Right.c6 : Cd := .seq (.reg false [⟨some 2, .move (.c .bool false), none, [], []⟩]) (innkeepref06_Right.c7)
def innkeepref06_Right.c8 : Cd := .skip
def innkeepref06_Right.c4 : Cd := .cond (.t 40) (.seq (.tidy [40] [] [] none) (innkeepref06_Right.c6)) (.seq (.tidy [40] [] [] none) (innkeepref06_Right.c8))
def innkeepref06_Right.c15 : Cd := .tidy [41, 42, 43, 44] [] [] none
def innkeepref06_Right.c16 : Cd := .skip
def innkeepref06_Right.c24 : Cd := .exit 0
def innkeepref06_Right.c14 : Cd := .cond (.t 45) (.seq (.tidy [45] [] [] none) (innkeepref06_Right.c16)) (.seq (.tidy [45] [] [] none) (innkeepref06_Right.c24))
def innkeepref06_Right.c19 : Cd := .tidy [48, 49, 50, 51, 52, 53, 54, 55, 56, 57, 58, 59, 60, 61, 62, 63, 64, 65] [] [] none
def innkeepref06_Right.c21 : Cd := .ret
def innkeepref06_Right.c20 : Cd := .seq (.reg false [⟨some 2, .move (.c .bool false), none, [], []⟩]) (innkeepref06_Right.c21)
def innkeepref06_Right.c22 : Cd := .skip
def innkeepref06_Right.c18 : Cd := .cond (.t 66) (.seq (.tidy [66] [] [] none) (innkeepref06_Right.c20)) (.seq (.tidy [66] [] [] none) (innkeepref06_Right.c22))
def innkeepref06_Right.c23 : Cd := .tidy [46, 47] [] [] none
def innkeepref06_Right.c17 : Cd := .seq (.reg false [⟨some 46, .move (.t 4), none, [], []⟩,
    ⟨some 47, .bin .add (.t 46) (.c (.int .i64) (1 : Int)), none, [], []⟩,
    ⟨some 4, .move (.t 47), none, [], []⟩]) (innkeepref06_Right.c23)
def innkeepref06_Right.c13 : Cd := .seq (.block 1 (.seq (.seq (.reg true [⟨some 48, .fieldAddr (.d tWorld) 1 (.t 1), none, [0], []⟩,
    ⟨some 49, .load (.d (.sl (.int .i64))) (.t 48), none, [0], []⟩,
    ⟨some 50, .move (.t 4), none, [], []⟩,
    ⟨some 51, .index (.sl (.int .i64)) (.t 49) (.t 50), none, [], []⟩,
    ⟨some 52, .load (.d (.int .i64)) (.t 51), none, [], []⟩,
    ⟨some 53, .fieldAddr (.d tDesc) 0 (.t 3), none, [1], []⟩,
    ⟨some 54, .load (.d (.sl (.arr 4 (.int .i64)))) (.t 53), none, [1], []⟩,
    ⟨some 55, .len (.t 54), none, [], []⟩,
    ⟨some 56, .call (.f 50) [(.t 52), (.t 55)] [.d .bool] [] false, none, [], []⟩,
    ⟨some 57, .not (.t 56), none, [], []⟩,
    ⟨some 58, .move (.t 57), none, [], []⟩,
    ⟨some 59, .fieldAddr (.d tWorld) 2 (.t 1), some (58, false), [0], []⟩,
    ⟨some 60, .load (.d (.sl (.int .i64))) (.t 59), some (58, false), [0], []⟩,
    ⟨some 61, .move (.t 4), some (58, false), [], []⟩,
    ⟨some 62, .index (.sl (.int .i64)) (.t 60) (.t 61), some (58, false), [], []⟩,
    ⟨some 63, .load (.d (.int .i64)) (.t 62), some (58, false), [], []⟩,
    ⟨some 64, .call (.f 51) [(.t 63)] [.d .bool] [] false, some (58, false), [], []⟩,
    ⟨some 65, .not (.t 64), some (58, false), [], []⟩,
    ⟨some 66, .pick (.t 58) (.c .bool true) (.t 65), none, [], []⟩]) (innkeepref06_Right.c19)) (innkeepref06_Right.c18))) (innkeepref06_Right.c17)
def innkeepref06_Right.c12 : Cd := .tidy [] [] [] (some 2)
def innkeepref06_Right.c11 : Cd := .seq (.seq (.seq (.seq (.reg false [⟨some 41, .move (.t 4), none, [], []⟩,
    ⟨some 42, .fieldAddr (.d tWorld) 1 (.t 1), none, [], []⟩,
    ⟨some 43, .load (.d (.sl (.int .i64))) (.t 42), none, [], []⟩,
    ⟨some 44, .len (.t 43), none, [], []⟩,
    ⟨some 45, .bin .lss (.t 41) (.t 44), none, [], []⟩]) (innkeepref06_Right.c15)) (innkeepref06_Right.c14)) (innkeepref06_Right.c13)) (innkeepref06_Right.c12)
def innkeepref06_Right.c10 : Cd := .block 0 (.loop (innkeepref06_Right.c11))
def innkeepref06_Right.c31 : Cd := .tidy [67, 68, 69, 70] [] [] none
def innkeepref06_Right.c32 : Cd := .skip
def innkeepref06_Right.c44 : Cd := .exit 2
def innkeepref06_Right.c30 : Cd := .cond (.t 71) (.seq (.tidy [71] [] [] none) (innkeepref06_Right.c32)) (.seq (.tidy [71] [] [] none) (innkeepref06_Right.c44))
def innkeepref06_Right.c35 : Cd := .tidy [74, 75, 76, 77, 78] [] [] none
def innkeepref06_Right.c37 : Cd := .tidy [79, 80, 81, 82, 83, 84, 85, 86, 87, 88, 89, 90, 91, 92, 93, 94, 95, 96, 97, 98, 99, 100, 101, 102, 103, 104, 105, 106, 107, 108, 109, 110, 111, 112, 113, 114, 115, 116, 117, 118, 119, 120, 121, 122, 123] [] [] none
def innkeepref06_Right.c39 : Cd := .tidy [124] [] [] none
def innkeepref06_Right.c43 : Cd := .ret
def innkeepref06_Right.c42 : Cd := .seq (.reg false [⟨some 2, .move (.c .bool false), none, [], []⟩]) (innkeepref06_Right.c43)
def innkeepref06_Right.c40 : Cd := .skip
def innkeepref06_Right.c38 : Cd := .cond (.t 125) (.seq (.tidy [125] [] [] none) (innkeepref06_Right.c42)) (.seq (.tidy [125] [] [] none) (innkeepref06_Right.c40))
def innkeepref06_Right.c36 : Cd := .seq (.seq (.reg false [⟨some 124, .move (.t 7), none, [], []⟩,
    ⟨some 125, .not (.t 124), none, [], []⟩]) (innkeepref06_Right.c39)) (innkeepref06_Right.c38)
def innkeepref06_Right.c34 : Cd := .seq (.seq (.reg false [⟨some 79, .fieldAddr (.d tPlace) 0 (.t 6), none, [], []⟩,
    ⟨some 80, .load (.d (.int .i64)) (.t 79), none, [], []⟩,
    ⟨some 81, .bin .eql (.t 80) (.c (.int .i64) (0 : Int)), none, [], []⟩,
    ⟨some 82, .move (.t 81), none, [], []⟩,
    ⟨some 83, .fieldAddr (.d tPlace) 1 (.t 6), some (82, true), [], []⟩,
    ⟨some 84, .load (.d (.int .i64)) (.t 83), some (82, true), [], []⟩,
    ⟨some 85, .fieldAddr (.d tDesc) 0 (.t 3), some (82, true), [], []⟩,
    ⟨some 86, .load (.d (.sl (.arr 4 (.int .i64)))) (.t 85), some (82, true), [], []⟩,
    ⟨some 87, .len (.t 86), some (82, true), [], []⟩,
    ⟨some 88, .call (.f 50) [(.t 84), (.t 87)] [.d .bool] [] false, some (82, true), [], []⟩,
    ⟨some 89, .pick (.t 82) (.t 88) (.c .bool false), none, [], []⟩,
    ⟨some 90, .move (.t 89), none, [], []⟩,
    ⟨some 91, .fieldAddr (.d tPlace) 0 (.t 6), some (90, false), [], []⟩,
    ⟨some 92, .load (.d (.int .i64)) (.t 91), some (90, false), [], []⟩,
    ⟨some 93, .bin .eql (.t 92) (.c (.int .i64) (1 : Int)), some (90, false), [], []⟩,
    ⟨some 94, .move (.t 93), some (90, false), [], []⟩,
    ⟨some 95, .fieldAddr (.d tPlace) 1 (.t 6), some (94, true), [], []⟩,
    ⟨some 96, .load (.d (.int .i64)) (.t 95), some (94, true), [], []⟩,
    ⟨some 97, .fieldAddr (.d tDesc) 1 (.t 3), some (94, true), [], []⟩,
    ⟨some 98, .load (.d (.sl (.int .i64))) (.t 97), some (94, true), [], []⟩,
    ⟨some 99, .len (.t 98), some (94, true), [], []⟩,
    ⟨some 100, .call (.f 50) [(.t 96), (.t 99)] [.d .bool] [] false, some (94, true), [], []⟩,
    ⟨some 101, .pick (.t 94) (.t 100) (.c .bool false), some (90, false), [], []⟩,
    ⟨some 102, .pick (.t 90) (.c .bool true) (.t 101), none, [], []⟩,
    ⟨some 103, .move (.t 102), none, [], []⟩,
    ⟨some 104, .fieldAddr (.d tPlace) 0 (.t 6), some (103, false), [], []⟩,
    ⟨some 105, .load (.d (.int .i64)) (.t 104), some (103, false), [], []⟩,
    ⟨some 106, .bin .eql (.t 105) (.c (.int .i64) (2 : Int)), some (103, false), [], []⟩,
    ⟨some 107, .move (.t 106), some (103, false), [], []⟩,
    ⟨some 108, .fieldAddr (.d tPlace) 1 (.t 6), some (107, true), [], []⟩,
    ⟨some 109, .load (.d (.int .i64)) (.t 108), some (107, true), [], []⟩,
    ⟨some 110, .fieldAddr (.d tDesc) 3 (.t 3), some (107, true), [], []⟩,
    ⟨some 111, .load (.d (.sl (.int .i64))) (.t 110), some (107, true), [], []⟩,
    ⟨some 112, .len (.t 111), some (107, true), [], []⟩,
    ⟨some 113, .call (.f 50) [(.t 109), (.t 112)] [.d .bool] [] false, some (107, true), [], []⟩,
    ⟨some 114, .pick (.t 107) (.t 113) (.c .bool false), some (103, false), [], []⟩,
    ⟨some 115, .move (.t 114), some (103, false), [], []⟩,
    ⟨some 116, .fieldAddr (.d tDesc) 4 (.t 3), some (115, true), [], []⟩,
    ⟨some 117, .load (.d (.sl .bool)) (.t 116), some (115, true), [], []⟩,
    ⟨some 118, .fieldAddr (.d tPlace) 1 (.t 6), some (115, true), [], []⟩,
    ⟨some 119, .load (.d (.int .i64)) (.t 118), some (115, true), [], []⟩,
    ⟨some 120, .index (.sl .bool) (.t 117) (.t 119), some (115, true), [], []⟩,
    ⟨some 121, .load (.d .bool) (.t 120), some (115, true), [], []⟩,
    ⟨some 122, .pick (.t 115) (.t 121) (.c .bool false), some (103, false), [], []⟩,
    ⟨some 123, .pick (.t 103) (.c .bool true) (.t 122), none, [], []⟩,
    ⟨some 7, .move (.t 123), none, [], []⟩]) (innkeepref06_Right.c37)) (innkeepref06_Right.c36)
def innkeepref06_Right.c41 : Cd := .tidy [72, 73] [] [] none
def innkeepref06_Right.c33 : Cd := .seq (.reg false [⟨some 72, .move (.t 5), none, [], []⟩,
    ⟨some 73, .bin .add (.t 72) (.c (.int .i64) (1 : Int)), none, [], []⟩,
    ⟨some 5, .move (.t 73), none, [], []⟩]) (innkeepref06_Right.c41)
def innkeepref06_Right.c29 : Cd := .seq (.block 3 (.seq (.seq (.reg false [⟨some 74, .fieldAddr (.d tWorld) 3 (.t 1), none, [], []⟩,
    ⟨some 75, .load (.d (.sl tPlace)) (.t 74), none, [], []⟩,
    ⟨some 76, .move (.t 5), none, [], []⟩,
    ⟨some 77, .index (.sl tPlace) (.t 75) (.t 76), none, [], []⟩,
    ⟨some 78, .load (.d tPlace) (.t 77), none, [], []⟩,
    ⟨some 6, .newbox 2 tPlace [], none, [], []⟩,
    ⟨none, .store (.d tPlace) (.t 6) (.t 78), none, [], []⟩]) (innkeepref06_Right.c35)) (innkeepref06_Right.c34))) (innkeepref06_Right.c33)
def innkeepref06_Right.c28 : Cd := .tidy [6, 7] [] [] (some 2)
def innkeepref06_Right.c27 : Cd := .seq (.seq (.seq (.seq (.reg false [⟨some 67, .move (.t 5), none, [], []⟩,
    ⟨some 68, .fieldAddr (.d tWorld) 3 (.t 1), none, [], []⟩,
    ⟨some 69, .load (.d (.sl tPlace)) (.t 68), none, [], []⟩,
    ⟨some 70, .len (.t 69), none, [], []⟩,
    ⟨some 71, .bin .lss (.t 67) (.t 70), none, [], []⟩]) (innkeepref06_Right.c31)) (innkeepref06_Right.c30)) (innkeepref06_Right.c29)) (innkeepref06_Right.c28)
def innkeepref06_Right.c26 : Cd := .block 2 (.loop (innkeepref06_Right.c27))
def innkeepref06_Right.c51 : Cd := .tidy [126, 127, 128, 129] [] [] none
def innkeepref06_Right.c52 : Cd := .skip
def innkeepref06_Right.c60 : Cd := .exit 4
def innkeepref06_Right.c50 : Cd := .cond (.t 130) (.seq (.tidy [130] [] [] none) (innkeepref06_Right.c52)) (.seq (.tidy [130] [] [] none) (innkeepref06_Right.c60))
def innkeepref06_Right.c55 : Cd := .tidy [133, 134, 135, 136, 137, 138, 139, 140, 141, 142, 143, 144, 145, 146, 147, 148, 149, 150, 151, 152, 153, 154, 155, 156] [] [] none
def innkeepref06_Right.c57 : Cd := .ret
def innkeepref06_Right.c56 : Cd := .seq (.reg false [⟨some 2, .move (.c .bool false), none, [], []⟩]) (innkeepref06_Right.c57)
def innkeepref06_Right.c58 : Cd := .skip
def innkeepref06_Right.c54 : Cd := .cond (.t 157) (.seq (.tidy [157] [] [] none) (innkeepref06_Right.c56)) (.seq (.tidy [157] [] [] none) (innkeepref06_Right.c58))
def innkeepref06_Right.c59 : Cd := .tidy [131, 132] [] [] none
def innkeepref06_Right.c53 : Cd := .seq (.reg false [⟨some 131, .move (.t 8), none, [], []⟩,
    ⟨some 132, .bin .add (.t 131) (.c (.int .i64) (1 : Int)), none, [], []⟩,
    ⟨some 8, .move (.t 132), none, [], []⟩]) (innkeepref06_Right.c59)
def innkeepref06_Right.c49 : Cd := .seq (.block 5 (.seq (.seq (.reg true [⟨some 133, .load (.d tWorld) (.t 1), none, [0], []⟩,
    ⟨some 134, .fieldAddr (.d tWorld) 3 (.t 1), none, [0], []⟩,
    ⟨some 135, .load (.d (.sl tPlace)) (.t 134), none, [0], []⟩,
    ⟨some 136, .move (.t 8), none, [], []⟩,
    ⟨some 137, .index (.sl tPlace) (.t 135) (.t 136), none, [], []⟩,
    ⟨some 138, .load (.d tPlace) (.t 137), none, [], []⟩,
    ⟨some 139, .call (.f 40) [(.t 133), (.t 138)] [.d (.int .i64)] [] false, none, [], []⟩,
    ⟨some 140, .bin .gtr (.t 139) (.c (.int .i64) (4 : Int)), none, [], []⟩,
    ⟨some 141, .move (.t 140), none, [], []⟩,
    ⟨some 142, .load (.d tWorld) (.t 1), some (141, false), [0], []⟩,
    ⟨some 143, .fieldAddr (.d tWorld) 3 (.t 1), some (141, false), [0], []⟩,
    ⟨some 144, .load (.d (.sl tPlace)) (.t 143), some (141, false), [0], []⟩,
    ⟨some 145, .move (.t 8), some (141, false), [], []⟩,
    ⟨some 146, .index (.sl tPlace) (.t 144) (.t 145), some (141, false), [], []⟩,
    ⟨some 147, .load (.d tPlace) (.t 146), some (141, false), [], []⟩,
    ⟨some 148, .call (.f 52) [(.t 142), (.t 147)] [.d (.int .i64)] [] false, some (141, false), [], []⟩,
    ⟨some 149, .load (.d tWorld) (.t 1), some (141, false), [0], []⟩,
    ⟨some 150, .fieldAddr (.d tWorld) 3 (.t 1), some (141, false), [0], []⟩,
    ⟨some 151, .load (.d (.sl tPlace)) (.t 150), some (141, false), [0], []⟩,
    ⟨some 152, .move (.t 8), some (141, false), [], []⟩,
    ⟨some 153, .index (.sl tPlace) (.t 151) (.t 152), some (141, false), [], []⟩,
    ⟨some 154, .load (.d tPlace) (.t 153), some (141, false), [], []⟩,
    ⟨some 155, .call (.f 53) [(.t 149), (.t 154)] [.d (.int .i64)] [] false, some (141, false), [], []⟩,
    ⟨some 156, .bin .gtr (.t 148) (.t 155), some (141, false), [], []⟩,
    ⟨some 157, .pick (.t 141) (.c .bool true) (.t 156), none, [], []⟩]) (innkeepref06_Right.c55)) (innkeepref06_Right.c54))) (innkeepref06_Right.c53)
def innkeepref06_Right.c48 : Cd := .tidy [] [] [] (some 2)
def innkeepref06_Right.c47 : Cd := .seq (.seq (.seq (.seq (.reg false [⟨some 126, .move (.t 8), none, [], []⟩,
    ⟨some 127, .fieldAddr (.d tWorld) 3 (.t 1), none, [], []⟩,
    ⟨some 128, .load (.d (.sl tPlace)) (.t 127), none, [], []⟩,
    ⟨some 129, .len (.t 128), none, [], []⟩,
    ⟨some 130, .bin .lss (.t 126) (.t 129), none, [], []⟩]) (innkeepref06_Right.c51)) (innkeepref06_Right.c50)) (innkeepref06_Right.c49)) (innkeepref06_Right.c48)
def innkeepref06_Right.c46 : Cd := .block 4 (.loop (innkeepref06_Right.c47))
def innkeepref06_Right.c61 : Cd := .ret
def innkeepref06_Right.c45 : Cd := .seq (.reg false [⟨some 2, .move (.c .bool true), none, [], []⟩]) (innkeepref06_Right.c61)
def innkeepref06_Right.c25 : Cd := .seq (.seq (.reg false [⟨some 8, .move (.c (.int .i64) (0 : Int)), none, [], []⟩]) (innkeepref06_Right.c46)) (innkeepref06_Right.c45)
def innkeepref06_Right.c9 : Cd := .seq (.seq (.reg false [⟨some 5, .move (.c (.int .i64) (0 : Int)), none, [], []⟩]) (innkeepref06_Right.c26)) (innkeepref06_Right.c25)
def innkeepref06_Right.c3 : Cd := .seq (.seq (.reg false [⟨some 4, .move (.c (.int .i64) (0 : Int)), none, [], []⟩]) (innkeepref06_Right.c10)) (innkeepref06_Right.c9)
def innkeepref06_Right.c1 : Cd := .seq (.seq (.seq (.reg false [⟨some 11, .load (.d tDesc) (.t 3), none, [], []⟩,
    ⟨some 12, .call (.f 49) [(.t 11)] [.d .bool] [] false, none, [], []⟩,
    ⟨some 13, .not (.t 12), none, [], []⟩,
    ⟨some 14, .move (.t 13), none, [], []⟩,
    ⟨some 15, .fieldAddr (.d tWorld) 1 (.t 1), some (14, false), [], []⟩,
    ⟨some 16, .load (.d (.sl (.int .i64))) (.t 15), some (14, false), [], []⟩,
    ⟨some 17, .len (.t 16), some (14, false), [], []⟩,
    ⟨some 18, .fieldAddr (.d tDesc) 1 (.t 3), some (14, false), [], []⟩,
    ⟨some 19, .load (.d (.sl (.int .i64))) (.t 18), some (14, false), [], []⟩,
    ⟨some 20, .len (.t 19), some (14, false), [], []⟩,
    ⟨some 21, .bin .neq (.t 17) (.t 20), some (14, false), [], []⟩,
    ⟨some 22, .pick (.t 14) (.c .bool true) (.t 21), none, [], []⟩,
    ⟨some 23, .move (.t 22), none, [], []⟩,
    ⟨some 24, .fieldAddr (.d tWorld) 2 (.t 1), some (23, false), [], []⟩,
    ⟨some 25, .load (.d (.sl (.int .i64))) (.t 24), some (23, false), [], []⟩,
    ⟨some 26, .len (.t 25), some (23, false), [], []⟩,
    ⟨some 27, .fieldAddr (.d tDesc) 1 (.t 3), some (23, false), [], []⟩,
    ⟨some 28, .load (.d (.sl (.int .i64))) (.t 27), some (23, false), [], []⟩,
    ⟨some 29, .len (.t 28), some (23, false), [], []⟩,
    ⟨some 30, .bin .neq (.t 26) (.t 29), some (23, false), [], []⟩,
    ⟨some 31, .pick (.t 23) (.c .bool true) (.t 30), none, [], []⟩,
    ⟨some 32, .move (.t 31), none, [], []⟩,
    ⟨some 33, .fieldAddr (.d tWorld) 3 (.t 1), some (32, false), [], []⟩,
    ⟨some 34, .load (.d (.sl tPlace)) (.t 33), some (32, false), [], []⟩,
    ⟨some 35, .len (.t 34), some (32, false), [], []⟩,
    ⟨some 36, .fieldAddr (.d tDesc) 3 (.t 3), some (32, false), [], []⟩,
    ⟨some 37, .load (.d (.sl (.int .i64))) (.t 36), some (32, false), [], []⟩,
    ⟨some 38, .len (.t 37), some (32, false), [], []⟩,
    ⟨some 39, .bin .neq (.t 35) (.t 38), some (32, false), [], []⟩,
    ⟨some 40, .pick (.t 32) (.c .bool true) (.t 39), none, [], []⟩]) (innkeepref06_Right.c5)) (innkeepref06_Right.c4)) (innkeepref06_Right.c3)
def innkeepref06_Right.c0 : Cd := .seq (.seq (.reg false [⟨some 9, .fieldAddr (.d tWorld) 0 (.t 1), none, [], []⟩,
    ⟨some 10, .load (.d tDesc) (.t 9), none, [], []⟩,
    ⟨some 3, .newbox 1 tDesc [], none, [], []⟩,
    ⟨none, .store (.d tDesc) (.t 3) (.t 10), none, [], []⟩]) (innkeepref06_Right.c2)) (innkeepref06_Right.c1)
def innkeepref06_Right.fn : Fn := ⟨1, [.tmp 2], .seq (.reg false [⟨some 1, .box 0 (.t 0), none, [], []⟩,
    ⟨some 2, .move (.c .bool false), none, [], []⟩]) (innkeepref06_Right.c0)⟩
def innkeeplaw10_fits.c2 : Cd := .tidy [3, 4, 5, 6, 7, 8] [] [] none
def innkeeplaw10_fits.c1 : Cd := .ret
def innkeeplaw10_fits.c0 : Cd := .seq (.seq (.reg false [⟨some 3, .load (.d tWorld) (.t 1), none, [], []⟩,
    ⟨some 4, .call (.f 24) [(.t 3)] [.d .bool] [] false, none, [], []⟩,
    ⟨some 5, .move (.t 4), none, [], []⟩,
    ⟨some 6, .load (.d tWorld) (.t 1), some (5, true), [], []⟩,
    ⟨some 7, .call (.f 17) [(.t 6)] [.d .bool] [] false, some (5, true), [], []⟩,
    ⟨some 8, .pick (.t 5) (.t 7) (.c .bool false), none, [], []⟩,
    ⟨some 2, .move (.t 8), none, [], []⟩]) (innkeeplaw10_fits.c2)) (innkeeplaw10_fits.c1)
def innkeeplaw10_fits.fn : Fn := ⟨1, [.tmp 2], .seq (.reg false [⟨some 1, .box 0 (.t 0), none, [], []⟩,
    ⟨some 2, .move (.c .bool false), none, [], []⟩]) (innkeeplaw10_fits.c0)⟩
def innkeepref10_is.c2 : Cd := .tidy [5, 6, 7, 8, 9, 10, 11, 12, 13] [] [] none
def innkeepref10_is.c1 : Cd := .ret
def innkeepref10_is.c0 : Cd := .seq (.seq (.reg false [⟨some 5, .move (.t 1), none, [], []⟩,
    ⟨some 6, .bin .geq (.t 5) (.c (.int .i64) (0 : Int)), none, [], []⟩,
    ⟨some 7, .move (.t 6), none, [], []⟩,
    ⟨some 8, .move (.t 1), some (7, true), [], []⟩,
    ⟨some 9, .fieldAddr (.d tWorld) 3 (.t 2), some (7, true), [], []⟩,
    ⟨some 10, .load (.d (.sl tPlace)) (.t 9), some (7, true), [], []⟩,
    ⟨some 11, .len (.t 10), some (7, true), [], []⟩,
    ⟨some 12, .bin .lss (.t 8) (.t 11), some (7, true), [], []⟩,
    ⟨some 13, .pick (.t 7) (.t 12) (.c .bool false), none, [], []⟩,
    ⟨some 4, .move (.t 13), none, [], []⟩]) (innkeepref10_is.c2)) (innkeepref10_is.c1)
def innkeepref10_is.fn : Fn := ⟨2, [.tmp 4], .seq (.reg false [⟨some 2, .box 0 (.t 0), none, [], []⟩,
    ⟨some 4, .move (.c .bool false), none, [], []⟩]) (innkeepref10_is.c0)⟩
def innkeepref07_Root.c2 : Cd := .tidy [6, 7, 8, 9, 10] [] [] none
def innkeepref07_Root.c5 : Cd := .tidy [11, 12] [] [] none
def innkeepref07_Root.c8 : Cd := .tidy [14] [] [] none
def innkeepref07_Root.c7 : Cd := .ret
def innkeepref07_Root.c6 : Cd := .seq (.seq (.reg false [⟨some 14, .load (.d tPlace) (.t 5), none, [], []⟩,
    ⟨none, .store (.d tPlace) (.t 4) (.t 14), none, [], []⟩]) (innkeepref07_Root.c8)) (innkeepref07_Root.c7)
def innkeepref07_Root.c9 : Cd := .skip
def innkeepref07_Root.c4 : Cd := .cond (.t 13) (.seq (.tidy [13] [] [] none) (innkeepref07_Root.c6)) (.seq (.tidy [13] [] [] none) (innkeepref07_Root.c9))
def innkeepref07_Root.c11 : Cd := .tidy [15, 16, 17, 18] [] [] none
def innkeepref07_Root.c10 : Cd := .ret
def innkeepref07_Root.c3 : Cd := .seq (.seq (.reg false [⟨some 15, .load (.d tWorld) (.t 2), none, [], []⟩,
    ⟨some 16, .fieldAddr (.d tPlace) 1 (.t 5), none, [], []⟩,
    ⟨some 17, .load (.d (.int .i64)) (.t 16), none, [], []⟩,
    ⟨some 18, .call (.f 20) [(.t 15), (.t 17)] [.d tPlace] [] false, none, [], []⟩,
    ⟨none, .store (.d tPlace) (.t 4) (.t 18), none, [], []⟩]) (innkeepref07_Root.c11)) (innkeepref07_Root.c10)
def innkeepref07_Root.c1 : Cd := .seq (.seq (.seq (.reg false [⟨some 11, .fieldAddr (.d tPlace) 0 (.t 5), none, [], []⟩,
    ⟨some 12, .load (.d (.int .i64)) (.t 11), none, [], []⟩,
    ⟨some 13, .bin .neq (.t 12) (.c (.int .i64) (2 : Int)), none, [], []⟩]) (innkeepref07_Root.c5)) (innkeepref07_Root.c4)) (innkeepref07_Root.c3)
def innkeepref07_Root.c0 : Cd := .seq (.seq (.reg false [⟨some 6, .fieldAddr (.d tWorld) 3 (.t 2), none, [], []⟩,
    ⟨some 7, .load (.d (.sl tPlace)) (.t 6), none, [], []⟩,
    ⟨some 8, .move (.t 1), none, [], []⟩,
    ⟨some 9, .index (.sl tPlace) (.t 7) (.t 8), none, [], []⟩,
    ⟨some 10, .load (.d tPlace) (.t 9), none, [], []⟩,
    ⟨some 5, .newbox 2 tPlace [], none, [], []⟩,
    ⟨none, .store (.d tPlace) (.t 5) (.t 10), none, [], []⟩]) (innkeepref07_Root.c2)) (innkeepref07_Root.c1)
def innkeepref07_Root.fn : Fn := ⟨2, [.cell 4 (.d tPlace)], .seq (.reg false [⟨some 2, .box 0 (.t 0), none, [], []⟩,
    ⟨some 4, .newbox 1 tPlace [], none, [], []⟩]) (innkeepref07_Root.c0)⟩
def innkeepref10_Near.c2 : Cd := .tidy [8, 9, 10] [] [] none
def innkeepref10_Near.c4 : Cd := .tidy [11, 12, 13, 14, 15, 16, 17, 18, 19, 20, 21, 22, 23, 24, 25, 26, 27, 28, 29, 30, 31, 32, 33, 34] [] [] none
def innkeepref10_Near.c3 : Cd := .ret
def innkeepref10_Near.c1 : Cd := .seq (.seq (.reg true [⟨some 11, .fieldAddr (.d tPlace) 0 (.t 7), none, [1], []⟩,
    ⟨some 12, .load (.d (.int .i64)) (.t 11), none, [1], []⟩,
    ⟨some 13, .bin .eql (.t 12) (.c (.int .i64) (0 : Int)), none, [], []⟩,
    ⟨some 14, .move (.t 13), none, [], []⟩,
    ⟨some 15, .fieldAddr (.d tPlace) 1 (.t 7), some (14, true), [1], []⟩,
    ⟨some 16, .load (.d (.int .i64)) (.t 15), some (14, true), [1], []⟩,
    ⟨some 17, .fieldAddr (.d tWorld) 1 (.t 3), some (14, true), [0], []⟩,
    ⟨some 18, .load (.d (.sl (.int .i64))) (.t 17), some (14, true), [0], []⟩,
    ⟨some 19, .move (.t 1), some (14, true), [], []⟩,
    ⟨some 20, .index (.sl (.int .i64)) (.t 18) (.t 19), some (14, true), [], []⟩,
    ⟨some 21, .load (.d (.int .i64)) (.t 20), some (14, true), [], []⟩,
    ⟨some 22, .bin .eql (.t 16) (.t 21), some (14, true), [], []⟩,
    ⟨some 23, .pick (.t 14) (.t 22) (.c .bool false), none, [], []⟩,
    ⟨some 24, .move (.t 23), none, [], []⟩,
    ⟨some 25, .fieldAddr (.d tPlace) 0 (.t 7), some (24, false), [1], []⟩,
    ⟨some 26, .load (.d (.int .i64)) (.t 25), some (24, false), [1], []⟩,
    ⟨some 27, .bin .eql (.t 26) (.c (.int .i64) (1 : Int)), some (24, false), [], []⟩,
    ⟨some 28, .move (.t 27), some (24, false), [], []⟩,
    ⟨some 29, .fieldAddr (.d tPlace) 1 (.t 7), some (28, true), [1], []⟩,
    ⟨some 30, .load (.d (.int .i64)) (.t 29), some (28, true), [1], []⟩,
    ⟨some 31, .move (.t 1), some (28, true), [], []⟩,
    ⟨some 32, .bin .eql (.t 30) (.t 31), some (28, true), [], []⟩,
    ⟨some 33, .pick (.t 28) (.t 32) (.c .bool false), some (24, false), [], []⟩,
    ⟨some 34, .pick (.t 24) (.c .bool true) (.t 33), none, [], []⟩,
    ⟨some 6, .move (.t 34), none, [], []⟩]) (innkeepref10_Near.c4)) (innkeepref10_Near.c3)
def innkeepref10_Near.c0 : Cd := .seq (.seq (.reg false [⟨some 8, .load (.d tWorld) (.t 3), none, [], []⟩,
    ⟨some 9, .move (.t 2), none, [], []⟩,
    ⟨some 10, .call (.f 20) [(.t 8), (.t 9)] [.d tPlace] [] false, none, [], []⟩,
    ⟨some 7, .newbox 1 tPlace [], none, [], []⟩,
    ⟨none, .store (.d tPlace) (.t 7) (.t 10), none, [], []⟩]) (innkeepref10_Near.c2)) (innkeepref10_Near.c1)
def innkeepref10_Near.fn : Fn := ⟨3, [.tmp 6], .seq (.reg false [⟨some 3, .box 0 (.t 0), none, [], []⟩,
    ⟨some 6, .move (.c .bool false), none, [], []⟩]) (innkeepref10_Near.c0)⟩
def innkeepref07_Within.c3 : Cd := .tidy [8, 9] [] [] none
def innkeepref07_Within.c5 : Cd := .ret
def innkeepref07_Within.c4 : Cd := .seq (.reg false [⟨some 6, .move (.c .bool true), none, [], []⟩]) (innkeepref07_Within.c5)
def innkeepref07_Within.c6 : Cd := .skip
def innkeepref07_Within.c2 : Cd := .cond (.t 10) (.seq (.tidy [10] [] [] none) (innkeepref07_Within.c4)) (.seq (.tidy [10] [] [] none) (innkeepref07_Within.c6))
def innkeepref07_Within.c8 : Cd := .tidy [11, 12, 13, 14, 15] [] [] none
def innkeepref07_Within.c10 : Cd := .tidy [16, 17, 18, 19, 20, 21, 22, 23, 24, 25] [] [] none
def innkeepref07_Within.c9 : Cd := .ret
def innkeepref07_Within.c7 : Cd := .seq (.seq (.reg false [⟨some 16, .fieldAddr (.d tPlace) 0 (.t 7), none, [], []⟩,
    ⟨some 17, .load (.d (.int .i64)) (.t 16), none, [], []⟩,
    ⟨some 18, .bin .eql (.t 17) (.c (.int .i64) (2 : Int)), none, [], []⟩,
    ⟨some 19, .move (.t 18), none, [], []⟩,
    ⟨some 20, .load (.d tWorld) (.t 3), some (19, true), [], []⟩,
    ⟨some 21, .fieldAddr (.d tPlace) 1 (.t 7), some (19, true), [], []⟩,
    ⟨some 22, .load (.d (.int .i64)) (.t 21), some (19, true), [], []⟩,
    ⟨some 23, .move (.t 2), some (19, true), [], []⟩,
    ⟨some 24, .call (.f 19) [(.t 20), (.t 22), (.t 23)] [.d .bool] [] false, some (19, true), [], []⟩,
    ⟨some 25, .pick (.t 19) (.t 24) (.c .bool false), none, [], []⟩,
    ⟨some 6, .move (.t 25), none, [], []⟩]) (innkeepref07_Within.c10)) (innkeepref07_Within.c9)
def innkeepref07_Within.c1 : Cd := .seq (.seq (.reg false [⟨some 11, .fieldAddr (.d tWorld) 3 (.t 3), none, [], []⟩,
    ⟨some 12, .load (.d (.sl tPlace)) (.t 11), none, [], []⟩,
    ⟨some 13, .move (.t 1), none, [], []⟩,
    ⟨some 14, .index (.sl tPlace) (.t 12) (.t 13), none, [], []⟩,
    ⟨some 15, .load (.d tPlace) (.t 14), none, [], []⟩,
    ⟨some 7, .newbox 1 tPlace [], none, [], []⟩,
    ⟨none, .store (.d tPlace) (.t 7) (.t 15), none, [], []⟩]) (innkeepref07_Within.c8)) (innkeepref07_Within.c7)
def innkeepref07_Within.c0 : Cd := .seq (.seq (.seq (.reg false [⟨some 8, .move (.t 1), none, [], []⟩,
    ⟨some 9, .move (.t 2), none, [], []⟩,
    ⟨some 10, .bin .eql (.t 8) (.t 9), none, [], []⟩]) (innkeepref07_Within.c3)) (innkeepref07_Within.c2)) (innkeepref07_Within.c1)
def innkeepref07_Within.fn : Fn := ⟨3, [.tmp 6], .seq (.reg false [⟨some 3, .box 0 (.t 0), none, [], []⟩,
    ⟨some 6, .move (.c .bool false), none, [], []⟩]) (innkeepref07_Within.c0)⟩
def innkeepref06_Copied.c2 : Cd := .tidy [3, 4, 5, 6, 7] [] [] none
def innkeepref06_Copied.c4 : Cd := .tidy [8, 9, 10, 11, 12] [] [] none
def innkeepref06_Copied.c6 : Cd := .tidy [13, 14, 15, 16, 17] [] [] none
def innkeepref06_Copied.c8 : Cd := .tidy [18] [] [] none
def innkeepref06_Copied.c7 : Cd := .ret
def innkeepref06_Copied.c5 : Cd := .seq (.seq (.reg false [⟨some 18, .load (.d tWorld) (.t 1), none, [], []⟩,
    ⟨none, .store (.d tWorld) (.t 2) (.t 18), none, [], []⟩]) (innkeepref06_Copied.c8)) (innkeepref06_Copied.c7)
def innkeepref06_Copied.c3 : Cd := .seq (.seq (.reg false [⟨some 13, .slice 6 tPlace [], none, [], []⟩,
    ⟨some 14, .fieldAddr (.d tWorld) 3 (.t 1), none, [], []⟩,
    ⟨some 15, .load (.d (.sl tPlace)) (.t 14), none, [], []⟩,
    ⟨some 16, .append 7 tPlace (.t 13) (.t 15), none, [], []⟩,
    ⟨some 17, .fieldAddr (.d tWorld) 3 (.t 1), none, [], []⟩,
    ⟨none, .store (.d (.sl tPlace)) (.t 17) (.t 16), none, [], []⟩]) (innkeepref06_Copied.c6)) (innkeepref06_Copied.c5)
def innkeepref06_Copied.c1 : Cd := .seq (.seq (.reg false [⟨some 8, .slice 4 (.int .i64) [], none, [], []⟩,
    ⟨some 9, .fieldAddr (.d tWorld) 2 (.t 1), none, [], []⟩,
    ⟨some 10, .load (.d (.sl (.int .i64))) (.t 9), none, [], []⟩,
    ⟨some 11, .append 5 (.int .i64) (.t 8) (.t 10), none, [], []⟩,
    ⟨some 12, .fieldAddr (.d tWorld) 2 (.t 1), none, [], []⟩,
    ⟨none, .store (.d (.sl (.int .i64))) (.t 12) (.t 11), none, [], []⟩]) (innkeepref06_Copied.c4)) (innkeepref06_Copied.c3)
def innkeepref06_Copied.c0 : Cd := .seq (.seq (.reg false [⟨some 3, .slice 2 (.int .i64) [], none, [], []⟩,
    ⟨some 4, .fieldAddr (.d tWorld) 1 (.t 1), none, [], []⟩,
    ⟨some 5, .load (.d (.sl (.int .i64))) (.t 4), none, [], []⟩,
    ⟨some 6, .append 3 (.int .i64) (.t 3) (.t 5), none, [], []⟩,
    ⟨some 7, .fieldAddr (.d tWorld) 1 (.t 1), none, [], []⟩,
    ⟨none, .store (.d (.sl (.int .i64))) (.t 7) (.t 6), none, [], []⟩]) (innkeepref06_Copied.c2)) (innkeepref06_Copied.c1)
def innkeepref06_Copied.fn : Fn := ⟨1, [.cell 2 (.d tWorld)], .seq (.reg false [⟨some 1, .box 0 (.t 0), none, [], []⟩,
    ⟨some 2, .newbox 1 tWorld [], none, [], []⟩]) (innkeepref06_Copied.c0)⟩
def innkeepref09_To.c2 : Cd := .tidy [8, 9] [] [] none
def innkeepref09_To.c4 : Cd := .tidy [10, 11, 12, 13, 14] [] [] none
def innkeepref09_To.c6 : Cd := .tidy [15] [] [] none
def innkeepref09_To.c5 : Cd := .ret
def innkeepref09_To.c3 : Cd := .seq (.seq (.reg false [⟨some 15, .load (.d tWorld) (.t 7), none, [], []⟩,
    ⟨none, .store (.d tWorld) (.t 6) (.t 15), none, [], []⟩]) (innkeepref09_To.c6)) (innkeepref09_To.c5)
def innkeepref09_To.c1 : Cd := .seq (.seq (.reg false [⟨some 10, .fieldAddr (.d tWorld) 3 (.t 7), none, [], []⟩,
    ⟨some 11, .load (.d (.sl tPlace)) (.t 10), none, [], []⟩,
    ⟨some 12, .move (.t 1), none, [], []⟩,
    ⟨some 13, .load (.d tPlace) (.t 5), none, [], []⟩,
    ⟨some 14, .index (.sl tPlace) (.t 11) (.t 12), none, [], []⟩,
    ⟨none, .store (.d tPlace) (.t 14) (.t 13), none, [], []⟩]) (innkeepref09_To.c4)) (innkeepref09_To.c3)
def innkeepref09_To.c0 : Cd := .seq (.seq (.reg false [⟨some 8, .load (.d tWorld) (.t 3), none, [], []⟩,
    ⟨some 9, .call (.f 21) [(.t 8)] [.d tWorld] [((0, [3]), 4)] false, none, [], []⟩,
    ⟨some 7, .newbox 3 tWorld [], none, [], []⟩,
    ⟨none, .store (.d tWorld) (.t 7) (.t 9), none, [], []⟩]) (innkeepref09_To.c2)) (innkeepref09_To.c1)
def innkeepref09_To.fn : Fn := ⟨3, [.cell 6 (.d tWorld)], .seq (.reg false [⟨some 3, .box 0 (.t 0), none, [], []⟩,
    ⟨some 5, .box 1 (.t 2), none, [], []⟩,
    ⟨some 6, .newbox 2 tWorld [], none, [], []⟩]) (innkeepref09_To.c0)⟩
def innkeepref07_Room.c2 : Cd := .tidy [5, 6, 7, 8, 9, 10, 11] [] [] none
def innkeepref07_Room.c1 : Cd := .ret
def innkeepref07_Room.c0 : Cd := .seq (.seq (.reg true [⟨some 5, .load (.d tWorld) (.t 2), none, [0], []⟩,
    ⟨some 6, .load (.d tPlace) (.t 3), none, [1], []⟩,
    ⟨some 7, .call (.f 53) [(.t 5), (.t 6)] [.d (.int .i64)] [] false, none, [], []⟩,
    ⟨some 8, .load (.d tWorld) (.t 2), none, [0], []⟩,
    ⟨some 9, .load (.d tPlace) (.t 3), none, [1], []⟩,
    ⟨some 10, .call (.f 52) [(.t 8), (.t 9)] [.d (.int .i64)] [] false, none, [], []⟩,
    ⟨some 11, .bin .sub (.t 7) (.t 10), none, [], []⟩,
    ⟨some 4, .move (.t 11), none, [], []⟩]) (innkeepref07_Room.c2)) (innkeepref07_Room.c1)
def innkeepref07_Room.fn : Fn := ⟨2, [.tmp 4], .seq (.reg false [⟨some 2, .box 0 (.t 0), none, [], []⟩,
    ⟨some 3, .box 1 (.t 1), none, [], []⟩,
    ⟨some 4, .move (.c (.int .i64) (0 : Int)), none, [], []⟩]) (innkeepref07_Room.c0)⟩
def innkeepref10_Put.c3 : Cd := .tidy [12, 13, 14, 15, 16, 17, 18, 19, 20] [] [] none
def innkeepref10_Put.c6 : Cd := .tidy [22] [] [] none
def innkeepref10_Put.c5 : Cd := .ret
def innkeepref10_Put.c4 : Cd := .seq (.seq (.reg false [⟨some 22, .load (.d tWorld) (.t 4), none, [], []⟩,
    ⟨none, .store (.d tWorld) (.t 8) (.t 22), none, [], []⟩,
    ⟨some 9, .move (.c (.int .i64) (3 : Int)), none, [], []⟩]) (innkeepref10_Put.c6)) (innkeepref10_Put.c5)
def innkeepref10_Put.c7 : Cd := .skip
def innkeepref10_Put.c2 : Cd := .cond (.t 21) (.seq (.tidy [21] [] [] none) (innkeepref10_Put.c4)) (.seq (.tidy [21] [] [] none) (innkeepref10_Put.c7))
def innkeepref10_Put.c10 : Cd := .tidy [23, 24, 25, 26, 27, 28, 29, 30, 31, 32, 33, 34, 35, 36] [] [] none
def innkeepref10_Put.c13 : Cd := .tidy [38] [] [] none
def innkeepref10_Put.c12 : Cd := .ret
def innkeepref10_Put.c11 : Cd := .seq (.seq (.reg false [⟨some 38, .load (.d tWorld) (.t 4), none, [], []⟩,
    ⟨none, .store (.d tWorld) (.t 8) (.t 38), none, [], []⟩,
    ⟨some 9, .move (.c (.int .i64) (5 : Int)), none, [], []⟩]) (innkeepref10_Put.c13)) (innkeepref10_Put.c12)
def innkeepref10_Put.c14 : Cd := .skip
def innkeepref10_Put.c9 : Cd := .cond (.t 37) (.seq (.tidy [37] [] [] none) (innkeepref10_Put.c11)) (.seq (.tidy [37] [] [] none) (innkeepref10_Put.c14))
def innkeepref10_Put.c17 : Cd := .tidy [39, 40, 41, 42, 43, 44] [] [] none
def innkeepref10_Put.c20 : Cd := .tidy [46] [] [] none
def innkeepref10_Put.c19 : Cd := .ret
def innkeepref10_Put.c18 : Cd := .seq (.seq (.reg false [⟨some 46, .load (.d tWorld) (.t 4), none, [], []⟩,
    ⟨none, .store (.d tWorld) (.t 8) (.t 46), none, [], []⟩,
    ⟨some 9, .move (.c (.int .i64) (6 : Int)), none, [], []⟩]) (innkeepref10_Put.c20)) (innkeepref10_Put.c19)
def innkeepref10_Put.c21 : Cd := .skip
def innkeepref10_Put.c16 : Cd := .cond (.t 45) (.seq (.tidy [45] [] [] none) (innkeepref10_Put.c18)) (.seq (.tidy [45] [] [] none) (innkeepref10_Put.c21))
def innkeepref10_Put.c24 : Cd := .tidy [47, 48, 49] [] [] none
def innkeepref10_Put.c27 : Cd := .tidy [51] [] [] none
def innkeepref10_Put.c26 : Cd := .ret
def innkeepref10_Put.c25 : Cd := .seq (.seq (.reg false [⟨some 51, .load (.d tWorld) (.t 4), none, [], []⟩,
    ⟨none, .store (.d tWorld) (.t 8) (.t 51), none, [], []⟩,
    ⟨some 9, .move (.c (.int .i64) (7 : Int)), none, [], []⟩]) (innkeepref10_Put.c27)) (innkeepref10_Put.c26)
def innkeepref10_Put.c28 : Cd := .skip
def innkeepref10_Put.c23 : Cd := .cond (.t 50) (.seq (.tidy [50] [] [] none) (innkeepref10_Put.c25)) (.seq (.tidy [50] [] [] none) (innkeepref10_Put.c28))
def innkeepref10_Put.c30 : Cd := .tidy [52, 53, 54, 55, 56] [] [] none
def innkeepref10_Put.c37 : Cd := .tidy [57, 58, 59, 60] [] [] none
def innkeepref10_Put.c38 : Cd := .skip
def innkeepref10_Put.c47 : Cd := .exit 0
def innkeepref10_Put.c36 : Cd := .cond (.t 61) (.seq (.tidy [61] [] [] none) (innkeepref10_Put.c38)) (.seq (.tidy [61] [] [] none) (innkeepref10_Put.c47))
def innkeepref10_Put.c41 : Cd := .tidy [64, 65, 66, 67, 68, 69, 70] [] [] none
def innkeepref10_Put.c44 : Cd := .tidy [72] [] [] none
def innkeepref10_Put.c43 : Cd := .ret
def innkeepref10_Put.c42 : Cd := .seq (.seq (.reg false [⟨some 72, .load (.d tWorld) (.t 4), none, [], []⟩,
    ⟨none, .store (.d tWorld) (.t 8) (.t 72), none, [], []⟩,
    ⟨some 9, .move (.c (.int .i64) (8 : Int)), none, [], []⟩]) (innkeepref10_Put.c44)) (innkeepref10_Put.c43)
def innkeepref10_Put.c45 : Cd := .skip
def innkeepref10_Put.c40 : Cd := .cond (.t 71) (.seq (.tidy [71] [] [] none) (innkeepref10_Put.c42)) (.seq (.tidy [71] [] [] none) (innkeepref10_Put.c45))
def innkeepref10_Put.c46 : Cd := .tidy [62, 63] [] [] none
def innkeepref10_Put.c39 : Cd := .seq (.reg false [⟨some 62, .move (.t 11), none, [], []⟩,
    ⟨some 63, .bin .add (.t 62) (.c (.int .i64) (1 : Int)), none, [], []⟩,
    ⟨some 11, .move (.t 63), none, [], []⟩]) (innkeepref10_Put.c46)
def innkeepref10_Put.c35 : Cd := .seq (.block 1 (.seq (.seq (.reg true [⟨some 64, .load (.d tWorld) (.t 10), none, [2], []⟩,
    ⟨some 65, .fieldAddr (.d tWorld) 3 (.t 10), none, [2], []⟩,
    ⟨some 66, .load (.d (.sl tPlace)) (.t 65), none, [2], []⟩,
    ⟨some 67, .move (.t 11), none, [], []⟩,
    ⟨some 68, .index (.sl tPlace) (.t 66) (.t 67), none, [], []⟩,
    ⟨some 69, .load (.d tPlace) (.t 68), none, [], []⟩,
    ⟨some 70, .call (.f 40) [(.t 64), (.t 69)] [.d (.int .i64)] [] false, none, [], []⟩,
    ⟨some 71, .bin .gtr (.t 70) (.c (.int .i64) (4 : Int)), none, [], []⟩]) (innkeepref10_Put.c41)) (innkeepref10_Put.c40))) (innkeepref10_Put.c39)
def innkeepref10_Put.c34 : Cd := .tidy [] [] [] (some 3)
def innkeepref10_Put.c33 : Cd := .seq (.seq (.seq (.seq (.reg false [⟨some 57, .move (.t 11), none, [], []⟩,
    ⟨some 58, .fieldAddr (.d tWorld) 3 (.t 10), none, [], []⟩,
    ⟨some 59, .load (.d (.sl tPlace)) (.t 58), none, [], []⟩,
    ⟨some 60, .len (.t 59), none, [], []⟩,
    ⟨some 61, .bin .lss (.t 57) (.t 60), none, [], []⟩]) (innkeepref10_Put.c37)) (innkeepref10_Put.c36)) (innkeepref10_Put.c35)) (innkeepref10_Put.c34)
def innkeepref10_Put.c32 : Cd := .block 0 (.loop (innkeepref10_Put.c33))
def innkeepref10_Put.c50 : Cd := .tidy [73, 74, 75, 76] [] [] none
def innkeepref10_Put.c53 : Cd := .tidy [78] [] [] none
def innkeepref10_Put.c52 : Cd := .ret
def innkeepref10_Put.c51 : Cd := .seq (.seq (.reg false [⟨some 78, .load (.d tWorld) (.t 4), none, [], []⟩,
    ⟨none, .store (.d tWorld) (.t 8) (.t 78), none, [], []⟩,
    ⟨some 9, .move (.c (.int .i64) (9 : Int)), none, [], []⟩]) (innkeepref10_Put.c53)) (innkeepref10_Put.c52)
def innkeepref10_Put.c54 : Cd := .skip
def innkeepref10_Put.c49 : Cd := .cond (.t 77) (.seq (.tidy [77] [] [] none) (innkeepref10_Put.c51)) (.seq (.tidy [77] [] [] none) (innkeepref10_Put.c54))
def innkeepref10_Put.c56 : Cd := .tidy [79] [] [] none
def innkeepref10_Put.c55 : Cd := .ret
def innkeepref10_Put.c48 : Cd := .seq (.seq (.reg false [⟨some 79, .load (.d tWorld) (.t 10), none, [], []⟩,
    ⟨none, .store (.d tWorld) (.t 8) (.t 79), none, [], []⟩,
    ⟨some 9, .move (.c (.int .i64) (0 : Int)), none, [], []⟩]) (innkeepref10_Put.c56)) (innkeepref10_Put.c55)
def innkeepref10_Put.c31 : Cd := .seq (.seq (.seq (.reg false [⟨some 73, .load (.d tWorld) (.t 4), none, [], []⟩,
    ⟨some 74, .move (.t 3), none, [], []⟩,
    ⟨some 75, .build tPlace [(0, (.c (.int .i64) (2 : Int))), (1, (.t 74))] [], none, [], []⟩,
    ⟨some 76, .call (.f 22) [(.t 73), (.t 75)] [.d (.int .i64)] [] false, none, [], []⟩,
    ⟨some 77, .bin .eql (.t 76) (.c (.int .i64) (0 : Int)), none, [], []⟩]) (innkeepref10_Put.c50)) (innkeepref10_Put.c49)) (innkeepref10_Put.c48)
def innkeepref10_Put.c29 : Cd := .seq (.seq (.reg false [⟨some 11, .move (.c (.int .i64) (0 : Int)), none, [], []⟩]) (innkeepref10_Put.c32)) (innkeepref10_Put.c31)
def innkeepref10_Put.c22 : Cd := .seq (.seq (.reg false [⟨some 52, .load (.d tWorld) (.t 4), none, [], []⟩,
    ⟨some 53, .move (.t 2), none, [], []⟩,
    ⟨some 54, .move (.t 3), none, [], []⟩,
    ⟨some 55, .build tPlace [(0, (.c (.int .i64) (2 : Int))), (1, (.t 54))] [], none, [], []⟩,
    ⟨some 56, .call (.f 39) [(.t 52), (.t 53), (.t 55)] [.d tWorld] [] false, none, [], []⟩,
    ⟨some 10, .newbox 2 tWorld [], none, [], []⟩,
    ⟨none, .store (.d tWorld) (.t 10) (.t 56), none, [], []⟩]) (innkeepref10_Put.c30)) (innkeepref10_Put.c29)
def innkeepref10_Put.c15 : Cd := .seq (.seq (.seq (.reg false [⟨some 47, .load (.d tWorld) (.t 4), none, [], []⟩,
    ⟨some 48, .move (.t 3), none, [], []⟩,
    ⟨some 49, .move (.t 2), none, [], []⟩,
    ⟨some 50, .call (.f 19) [(.t 47), (.t 48), (.t 49)] [.d .bool] [] false, none, [], []⟩]) (innkeepref10_Put.c24)) (innkeepref10_Put.c23)) (innkeepref10_Put.c22)
def innkeepref10_Put.c8 : Cd := .seq (.seq (.seq (.reg false [⟨some 39, .fieldAddr (.d tWorld) 0 (.t 4), none, [], []⟩,
    ⟨some 40, .fieldAddr (.d tDesc) 4 (.t 39), none, [], []⟩,
    ⟨some 41, .load (.d (.sl .bool)) (.t 40), none, [], []⟩,
    ⟨some 42, .move (.t 3), none, [], []⟩,
    ⟨some 43, .index (.sl .bool) (.t 41) (.t 42), none, [], []⟩,
    ⟨some 44, .load (.d .bool) (.t 43), none, [], []⟩,
    ⟨some 45, .not (.t 44), none, [], []⟩]) (innkeepref10_Put.c17)) (innkeepref10_Put.c16)) (innkeepref10_Put.c15)
def innkeepref10_Put.c1 : Cd := .seq (.seq (.seq (.reg false [⟨some 23, .fieldAddr (.d tWorld) 3 (.t 4), none, [], []⟩,
    ⟨some 24, .load (.d (.sl tPlace)) (.t 23), none, [], []⟩,
    ⟨some 25, .move (.t 2), none, [], []⟩,
    ⟨some 26, .index (.sl tPlace) (.t 24) (.t 25), none, [], []⟩,
    ⟨some 27, .load (.d tPlace) (.t 26), none, [], []⟩,
    ⟨some 28, .move (.t 1), none, [], []⟩,
    ⟨some 29, .build tPlace [(0, (.c (.int .i64) (1 : Int))), (1, (.t 28))] [], none, [], []⟩,
    ⟨some 30, .eqs tPlace true (.t 27) (.t 29), none, [], []⟩,
    ⟨some 31, .move (.t 30), none, [], []⟩,
    ⟨some 32, .load (.d tWorld) (.t 4), some (31, false), [], []⟩,
    ⟨some 33, .move (.t 1), some (31, false), [], []⟩,
    ⟨some 34, .move (.t 3), some (31, false), [], []⟩,
    ⟨some 35, .call (.f 16) [(.t 32), (.t 33), (.t 34)] [.d .bool] [] false, some (31, false), [], []⟩,
    ⟨some 36, .not (.t 35), some (31, false), [], []⟩,
    ⟨some 37, .pick (.t 31) (.c .bool true) (.t 36), none, [], []⟩]) (innkeepref10_Put.c10)) (innkeepref10_Put.c9)) (innkeepref10_Put.c8)
def innkeepref10_Put.c0 : Cd := .seq (.seq (.seq (.reg false [⟨some 12, .load (.d tWorld) (.t 4), none, [], []⟩,
    ⟨some 13, .move (.t 2), none, [], []⟩,
    ⟨some 14, .call (.f 38) [(.t 12), (.t 13)] [.d .bool] [] false, none, [], []⟩,
    ⟨some 15, .not (.t 14), none, [], []⟩,
    ⟨some 16, .move (.t 15), none, [], []⟩,
    ⟨some 17, .load (.d tWorld) (.t 4), some (16, false), [], []⟩,
    ⟨some 18, .move (.t 3), some (16, false), [], []⟩,
    ⟨some 19, .call (.f 38) [(.t 17), (.t 18)] [.d .bool] [] false, some (16, false), [], []⟩,
    ⟨some 20, .not (.t 19), some (16, false), [], []⟩,
    ⟨some 21, .pick (.t 16) (.c .bool true) (.t 20), none, [], []⟩]) (innkeepref10_Put.c3)) (innkeepref10_Put.c2)) (innkeepref10_Put.c1)
def innkeepref10_Put.fn : Fn := ⟨4, [.cell 8 (.d tWorld), .tmp 9], .seq (.reg false [⟨some 4, .box 0 (.t 0), none, [], []⟩,
    ⟨some 8, .newbox 1 tWorld [], none, [], []⟩,
    ⟨some 9, .move (.c (.int .i64) (0 : Int)), none, [], []⟩]) (innkeepref10_Put.c0)⟩
def innkeepref10_Take.c3 : Cd := .tidy [10, 11, 12, 13, 14, 15, 16, 17, 18] [] [] none
def innkeepref10_Take.c6 : Cd := .tidy [20] [] [] none
def innkeepref10_Take.c5 : Cd := .ret
def innkeepref10_Take.c4 : Cd := .seq (.seq (.reg false [⟨some 20, .load (.d tWorld) (.t 4), none, [], []⟩,
    ⟨none, .store (.d tWorld) (.t 8) (.t 20), none, [], []⟩,
    ⟨some 9, .move (.c (.int .i64) (3 : Int)), none, [], []⟩]) (innkeepref10_Take.c6)) (innkeepref10_Take.c5)
def innkeepref10_Take.c7 : Cd := .skip
def innkeepref10_Take.c2 : Cd := .cond (.t 19) (.seq (.tidy [19] [] [] none) (innkeepref10_Take.c4)) (.seq (.tidy [19] [] [] none) (innkeepref10_Take.c7))
def innkeepref10_Take.c10 : Cd := .tidy [21, 22, 23, 24] [] [] none
def innkeepref10_Take.c13 : Cd := .tidy [26] [] [] none
def innkeepref10_Take.c12 : Cd := .ret
def innkeepref10_Take.c11 : Cd := .seq (.seq (.reg false [⟨some 26, .load (.d tWorld) (.t 4), none, [], []⟩,
    ⟨none, .store (.d tWorld) (.t 8) (.t 26), none, [], []⟩,
    ⟨some 9, .move (.c (.int .i64) (5 : Int)), none, [], []⟩]) (innkeepref10_Take.c13)) (innkeepref10_Take.c12)
def innkeepref10_Take.c14 : Cd := .skip
def innkeepref10_Take.c9 : Cd := .cond (.t 25) (.seq (.tidy [25] [] [] none) (innkeepref10_Take.c11)) (.seq (.tidy [25] [] [] none) (innkeepref10_Take.c14))
def innkeepref10_Take.c17 : Cd := .tidy [27, 28, 29, 30, 31, 32] [] [] none
def innkeepref10_Take.c20 : Cd := .tidy [34] [] [] none
def innkeepref10_Take.c19 : Cd := .ret
def innkeepref10_Take.c18 : Cd := .seq (.seq (.reg false [⟨some 34, .load (.d tWorld) (.t 4), none, [], []⟩,
    ⟨none, .store (.d tWorld) (.t 8) (.t 34), none, [], []⟩,
    ⟨some 9, .move (.c (.int .i64) (6 : Int)), none, [], []⟩]) (innkeepref10_Take.c20)) (innkeepref10_Take.c19)
def innkeepref10_Take.c21 : Cd := .skip
def innkeepref10_Take.c16 : Cd := .cond (.t 33) (.seq (.tidy [33] [] [] none) (innkeepref10_Take.c18)) (.seq (.tidy [33] [] [] none) (innkeepref10_Take.c21))
def innkeepref10_Take.c24 : Cd := .tidy [35, 36, 37, 38, 39, 40, 41] [] [] none
def innkeepref10_Take.c27 : Cd := .tidy [43] [] [] none
def innkeepref10_Take.c26 : Cd := .ret
def innkeepref10_Take.c25 : Cd := .seq (.seq (.reg false [⟨some 43, .load (.d tWorld) (.t 4), none, [], []⟩,
    ⟨none, .store (.d tWorld) (.t 8) (.t 43), none, [], []⟩,
    ⟨some 9, .move (.c (.int .i64) (5 : Int)), none, [], []⟩]) (innkeepref10_Take.c27)) (innkeepref10_Take.c26)
def innkeepref10_Take.c28 : Cd := .skip
def innkeepref10_Take.c23 : Cd := .cond (.t 42) (.seq (.tidy [42] [] [] none) (innkeepref10_Take.c25)) (.seq (.tidy [42] [] [] none) (innkeepref10_Take.c28))
def innkeepref10_Take.c31 : Cd := .tidy [44, 45, 46, 47] [] [] none
def innkeepref10_Take.c34 : Cd := .tidy [49] [] [] none
def innkeepref10_Take.c33 : Cd := .ret
def innkeepref10_Take.c32 : Cd := .seq (.seq (.reg false [⟨some 49, .load (.d tWorld) (.t 4), none, [], []⟩,
    ⟨none, .store (.d tWorld) (.t 8) (.t 49), none, [], []⟩,
    ⟨some 9, .move (.c (.int .i64) (9 : Int)), none, [], []⟩]) (innkeepref10_Take.c34)) (innkeepref10_Take.c33)
def innkeepref10_Take.c35 : Cd := .skip
def innkeepref10_Take.c30 : Cd := .cond (.t 48) (.seq (.tidy [48] [] [] none) (innkeepref10_Take.c32)) (.seq (.tidy [48] [] [] none) (innkeepref10_Take.c35))
def innkeepref10_Take.c37 : Cd := .tidy [50, 51, 52, 53, 54] [] [] none
def innkeepref10_Take.c36 : Cd := .ret
def innkeepref10_Take.c29 : Cd := .seq (.seq (.reg false [⟨some 50, .load (.d tWorld) (.t 4), none, [], []⟩,
    ⟨some 51, .move (.t 2), none, [], []⟩,
    ⟨some 52, .move (.t 1), none, [], []⟩,
    ⟨some 53, .build tPlace [(0, (.c (.int .i64) (1 : Int))), (1, (.t 52))] [], none, [], []⟩,
    ⟨some 54, .call (.f 39) [(.t 50), (.t 51), (.t 53)] [.d tWorld] [] false, none, [], []⟩,
    ⟨none, .store (.d tWorld) (.t 8) (.t 54), none, [], []⟩,
    ⟨some 9, .move (.c (.int .i64) (0 : Int)), none, [], []⟩]) (innkeepref10_Take.c37)) (innkeepref10_Take.c36)
def innkeepref10_Take.c22 : Cd := .seq (.seq (.seq (.reg false [⟨some 44, .load (.d tWorld) (.t 4), none, [], []⟩,
    ⟨some 45, .move (.t 1), none, [], []⟩,
    ⟨some 46, .build tPlace [(0, (.c (.int .i64) (1 : Int))), (1, (.t 45))] [], none, [], []⟩,
    ⟨some 47, .call (.f 22) [(.t 44), (.t 46)] [.d (.int .i64)] [] false, none, [], []⟩,
    ⟨some 48, .bin .eql (.t 47) (.c (.int .i64) (0 : Int)), none, [], []⟩]) (innkeepref10_Take.c31)) (innkeepref10_Take.c30)) (innkeepref10_Take.c29)
def innkeepref10_Take.c15 : Cd := .seq (.seq (.seq (.reg false [⟨some 35, .fieldAddr (.d tWorld) 3 (.t 4), none, [], []⟩,
    ⟨some 36, .load (.d (.sl tPlace)) (.t 35), none, [], []⟩,
    ⟨some 37, .move (.t 2), none, [], []⟩,
    ⟨some 38, .index (.sl tPlace) (.t 36) (.t 37), none, [], []⟩,
    ⟨some 39, .load (.d tPlace) (.t 38), none, [], []⟩,
    ⟨some 40, .move (.t 3), none, [], []⟩,
    ⟨some 41, .build tPlace [(0, (.c (.int .i64) (2 : Int))), (1, (.t 40))] [], none, [], []⟩,
    ⟨some 42, .eqs tPlace true (.t 39) (.t 41), none, [], []⟩]) (innkeepref10_Take.c24)) (innkeepref10_Take.c23)) (innkeepref10_Take.c22)
def innkeepref10_Take.c8 : Cd := .seq (.seq (.seq (.reg false [⟨some 27, .fieldAddr (.d tWorld) 0 (.t 4), none, [], []⟩,
    ⟨some 28, .fieldAddr (.d tDesc) 4 (.t 27), none, [], []⟩,
    ⟨some 29, .load (.d (.sl .bool)) (.t 28), none, [], []⟩,
    ⟨some 30, .move (.t 3), none, [], []⟩,
    ⟨some 31, .index (.sl .bool) (.t 29) (.t 30), none, [], []⟩,
    ⟨some 32, .load (.d .bool) (.t 31), none, [], []⟩,
    ⟨some 33, .not (.t 32), none, [], []⟩]) (innkeepref10_Take.c17)) (innkeepref10_Take.c16)) (innkeepref10_Take.c15)
def innkeepref10_Take.c1 : Cd := .seq (.seq (.seq (.reg false [⟨some 21, .load (.d tWorld) (.t 4), none, [], []⟩,
    ⟨some 22, .move (.t 1), none, [], []⟩,
    ⟨some 23, .move (.t 3), none, [], []⟩,
    ⟨some 24, .call (.f 16) [(.t 21), (.t 22), (.t 23)] [.d .bool] [] false, none, [], []⟩,
    ⟨some 25, .not (.t 24), none, [], []⟩]) (innkeepref10_Take.c10)) (innkeepref10_Take.c9)) (innkeepref10_Take.c8)
def innkeepref10_Take.c0 : Cd := .seq (.seq (.seq (.reg false [⟨some 10, .load (.d tWorld) (.t 4), none, [], []⟩,
    ⟨some 11, .move (.t 2), none, [], []⟩,
    ⟨some 12, .call (.f 38) [(.t 10), (.t 11)] [.d .bool] [] false, none, [], []⟩,
    ⟨some 13, .not (.t 12), none, [], []⟩,
    ⟨some 14, .move (.t 13), none, [], []⟩,
    ⟨some 15, .load (.d tWorld) (.t 4), some (14, false), [], []⟩,
    ⟨some 16, .move (.t 3), some (14, false), [], []⟩,
    ⟨some 17, .call (.f 38) [(.t 15), (.t 16)] [.d .bool] [] false, some (14, false), [], []⟩,
    ⟨some 18, .not (.t 17), some (14, false), [], []⟩,
    ⟨some 19, .pick (.t 14) (.c .bool true) (.t 18), none, [], []⟩]) (innkeepref10_Take.c3)) (innkeepref10_Take.c2)) (innkeepref10_Take.c1)
def innkeepref10_Take.fn : Fn := ⟨4, [.cell 8 (.d tWorld), .tmp 9], .seq (.reg false [⟨some 4, .box 0 (.t 0), none, [], []⟩,
    ⟨some 8, .newbox 1 tWorld [], none, [], []⟩,
    ⟨some 9, .move (.c (.int .i64) (0 : Int)), none, [], []⟩]) (innkeepref10_Take.c0)⟩
def innkeeplaw10_BoxesDo.c3 : Cd := .tidy [18, 19, 20, 21, 22, 23] [] [] none
def innkeeplaw10_BoxesDo.c6 : Cd := .tidy [25] [] [] none
def innkeeplaw10_BoxesDo.c5 : Cd := .ret
def innkeeplaw10_BoxesDo.c4 : Cd := .seq (.seq (.reg false [⟨some 25, .call (.f 8) [] [.d .bool] [] false, none, [], []⟩,
    ⟨some 8, .move (.t 25), none, [], []⟩]) (innkeeplaw10_BoxesDo.c6)) (innkeeplaw10_BoxesDo.c5)
def innkeeplaw10_BoxesDo.c7 : Cd := .skip
def innkeeplaw10_BoxesDo.c2 : Cd := .cond (.t 24) (.seq (.tidy [24] [] [] none) (innkeeplaw10_BoxesDo.c4)) (.seq (.tidy [24] [] [] none) (innkeeplaw10_BoxesDo.c7))
def innkeeplaw10_BoxesDo.c9 : Cd := .tidy [26, 27, 28, 29, 30, 31] [] [] none
def innkeeplaw10_BoxesDo.c11 : Cd := .tidy [32, 33, 34, 35, 36, 37, 38, 39] [] [] none
def innkeeplaw10_BoxesDo.c13 : Cd := .tidy [40, 41, 42, 43, 44, 45, 46, 47] [] [] none
def innkeeplaw10_BoxesDo.c15 : Cd := .tidy [48, 49, 50, 51, 52, 53, 54, 55] [] [] none
def innkeeplaw10_BoxesDo.c17 : Cd := .tidy [56, 57, 58, 59, 60, 61, 62, 63] [] [] none
def innkeeplaw10_BoxesDo.c20 : Cd := .tidy [64, 65, 66, 67, 68, 69, 70, 71, 72, 73, 74, 75, 76, 77, 78, 79, 80, 81, 82] [] [] none
def innkeeplaw10_BoxesDo.c22 : Cd := .ret
def innkeeplaw10_BoxesDo.c21 : Cd := .seq (.reg false [⟨some 8, .move (.c .bool false), none, [], []⟩]) (innkeeplaw10_BoxesDo.c22)
def innkeeplaw10_BoxesDo.c23 : Cd := .skip
def innkeeplaw10_BoxesDo.c19 : Cd := .cond (.t 83) (.seq (.tidy [83] [] [] none) (innkeeplaw10_BoxesDo.c21)) (.seq (.tidy [83] [] [] none) (innkeeplaw10_BoxesDo.c23))
def innkeeplaw10_BoxesDo.c25 : Cd := .tidy [84, 85, 86, 87, 88, 89, 90, 91, 92, 93, 94, 95, 96, 97, 98, 99, 100, 101, 102, 103] [] [] none
def innkeeplaw10_BoxesDo.c24 : Cd := .ret
def innkeeplaw10_BoxesDo.c18 : Cd := .seq (.seq (.reg true [⟨some 84, .move (.t 2), none, [], []⟩,
    ⟨some 85, .bin .lss (.t 84) (.c (.int .i64) (0 : Int)), none, [], []⟩,
    ⟨some 86, .move (.t 85), none, [], []⟩,
    ⟨some 87, .move (.t 2), some (86, false), [], []⟩,
    ⟨some 88, .fieldAddr (.d tWorld) 3 (.t 4), some (86, false), [0], []⟩,
    ⟨some 89, .load (.d (.sl tPlace)) (.t 88), some (86, false), [0], []⟩,
    ⟨some 90, .len (.t 89), some (86, false), [], []⟩,
    ⟨some 91, .bin .geq (.t 87) (.t 90), some (86, false), [], []⟩,
    ⟨some 92, .pick (.t 86) (.c .bool true) (.t 91), none, [], []⟩,
    ⟨some 93, .move (.t 92), none, [], []⟩,
    ⟨some 94, .load (.d tWorld) (.t 4), some (93, false), [0], []⟩,
    ⟨some 95, .move (.t 9), some (93, false), [], []⟩,
    ⟨some 96, .move (.t 2), some (93, false), [], []⟩,
    ⟨some 97, .call (.f 15) [(.t 94), (.t 95), (.t 96)] [.d .bool] [] false, some (93, false), [], []⟩,
    ⟨some 98, .load (.d tWorld) (.t 4), some (93, false), [0], []⟩,
    ⟨some 99, .move (.t 9), some (93, false), [], []⟩,
    ⟨some 100, .move (.t 2), some (93, false), [], []⟩,
    ⟨some 101, .call (.f 16) [(.t 98), (.t 99), (.t 100)] [.d .bool] [] false, some (93, false), [], []⟩,
    ⟨some 102, .eqs .bool false (.t 97) (.t 101), some (93, false), [], []⟩,
    ⟨some 103, .pick (.t 93) (.c .bool true) (.t 102), none, [], []⟩,
    ⟨some 8, .move (.t 103), none, [], []⟩]) (innkeeplaw10_BoxesDo.c25)) (innkeeplaw10_BoxesDo.c24)
def innkeeplaw10_BoxesDo.c16 : Cd := .seq (.seq (.seq (.reg false [⟨some 64, .load (.d tWorld) (.t 10), none, [], []⟩,
    ⟨some 65, .load (.d tWorld) (.t 12), none, [], []⟩,
    ⟨some 66, .call (.f 14) [(.t 64), (.t 65)] [.d .bool] [] false, none, [], []⟩,
    ⟨some 67, .not (.t 66), none, [], []⟩,
    ⟨some 68, .move (.t 67), none, [], []⟩,
    ⟨some 69, .move (.t 11), some (68, false), [], []⟩,
    ⟨some 70, .move (.t 13), some (68, false), [], []⟩,
    ⟨some 71, .bin .neq (.t 69) (.t 70), some (68, false), [], []⟩,
    ⟨some 72, .pick (.t 68) (.c .bool true) (.t 71), none, [], []⟩,
    ⟨some 73, .move (.t 72), none, [], []⟩,
    ⟨some 74, .load (.d tWorld) (.t 14), some (73, false), [], []⟩,
    ⟨some 75, .load (.d tWorld) (.t 16), some (73, false), [], []⟩,
    ⟨some 76, .call (.f 14) [(.t 74), (.t 75)] [.d .bool] [] false, some (73, false), [], []⟩,
    ⟨some 77, .not (.t 76), some (73, false), [], []⟩,
    ⟨some 78, .pick (.t 73) (.c .bool true) (.t 77), none, [], []⟩,
    ⟨some 79, .move (.t 78), none, [], []⟩,
    ⟨some 80, .move (.t 15), some (79, false), [], []⟩,
    ⟨some 81, .move (.t 17), some (79, false), [], []⟩,
    ⟨some 82, .bin .neq (.t 80) (.t 81), some (79, false), [], []⟩,
    ⟨some 83, .pick (.t 79) (.c .bool true) (.t 82), none, [], []⟩]) (innkeeplaw10_BoxesDo.c20)) (innkeeplaw10_BoxesDo.c19)) (innkeeplaw10_BoxesDo.c18)
def innkeeplaw10_BoxesDo.c14 : Cd := .seq (.seq (.reg false [⟨some 57, .load (.d tWorld) (.t 4), none, [], []⟩,
    ⟨some 58, .move (.t 9), none, [], []⟩,
    ⟨some 59, .move (.t 2), none, [], []⟩,
    ⟨some 60, .move (.t 3), none, [], []⟩,
    ⟨some 61, .call (.f 13) [(.t 57), (.t 58), (.t 59), (.t 60)] [.d tWorld, .d (.int .i64)] [] false, none, [], []⟩,
    ⟨some 56, .move (.t 61), none, [], []⟩,
    ⟨some 62, .extract (.t 56) 0, none, [], []⟩,
    ⟨some 63, .extract (.t 56) 1, none, [], []⟩,
    ⟨some 16, .newbox 4 tWorld [], none, [], []⟩,
    ⟨none, .store (.d tWorld) (.t 16) (.t 62), none, [], []⟩,
    ⟨some 17, .move (.t 63), none, [], []⟩]) (innkeeplaw10_BoxesDo.c17)) (innkeeplaw10_BoxesDo.c16)
def innkeeplaw10_BoxesDo.c12 : Cd := .seq (.seq (.reg false [⟨some 49, .load (.d tWorld) (.t 4), none, [], []⟩,
    ⟨some 50, .move (.t 9), none, [], []⟩,
    ⟨some 51, .move (.t 2), none, [], []⟩,
    ⟨some 52, .move (.t 3), none, [], []⟩,
    ⟨some 53, .call (.f 12) [(.t 49), (.t 50), (.t 51), (.t 52)] [.d tWorld, .d (.int .i64)] [] false, none, [], []⟩,
    ⟨some 48, .move (.t 53), none, [], []⟩,
    ⟨some 54, .extract (.t 48) 0, none, [], []⟩,
    ⟨some 55, .extract (.t 48) 1, none, [], []⟩,
    ⟨some 14, .newbox 3 tWorld [], none, [], []⟩,
    ⟨none, .store (.d tWorld) (.t 14) (.t 54), none, [], []⟩,
    ⟨some 15, .move (.t 55), none, [], []⟩]) (innkeeplaw10_BoxesDo.c15)) (innkeeplaw10_BoxesDo.c14)
def innkeeplaw10_BoxesDo.c10 : Cd := .seq (.seq (.reg false [⟨some 41, .load (.d tWorld) (.t 4), none, [], []⟩,
    ⟨some 42, .move (.t 9), none, [], []⟩,
    ⟨some 43, .move (.t 2), none, [], []⟩,
    ⟨some 44, .move (.t 3), none, [], []⟩,
    ⟨some 45, .call (.f 11) [(.t 41), (.t 42), (.t 43), (.t 44)] [.d tWorld, .d (.int .i64)] [] false, none, [], []⟩,
    ⟨some 40, .move (.t 45), none, [], []⟩,
    ⟨some 46, .extract (.t 40) 0, none, [], []⟩,
    ⟨some 47, .extract (.t 40) 1, none, [], []⟩,
    ⟨some 12, .newbox 2 tWorld [], none, [], []⟩,
    ⟨none, .store (.d tWorld) (.t 12) (.t 46), none, [], []⟩,
    ⟨some 13, .move (.t 47), none, [], []⟩]) (innkeeplaw10_BoxesDo.c13)) (innkeeplaw10_BoxesDo.c12)
def innkeeplaw10_BoxesDo.c8 : Cd := .seq (.seq (.reg false [⟨some 33, .load (.d tWorld) (.t 4), none, [], []⟩,
    ⟨some 34, .move (.t 9), none, [], []⟩,
    ⟨some 35, .move (.t 2), none, [], []⟩,
    ⟨some 36, .move (.t 3), none, [], []⟩,
    ⟨some 37, .call (.f 10) [(.t 33), (.t 34), (.t 35), (.t 36)] [.d tWorld, .d (.int .i64)] [] false, none, [], []⟩,
    ⟨some 32, .move (.t 37), none, [], []⟩,
    ⟨some 38, .extract (.t 32) 0, none, [], []⟩,
    ⟨some 39, .extract (.t 32) 1, none, [], []⟩,
    ⟨some 10, .newbox 1 tWorld [], none, [], []⟩,
    ⟨none, .store (.d tWorld) (.t 10) (.t 38), none, [], []⟩,
    ⟨some 11, .move (.t 39), none, [], []⟩]) (innkeeplaw10_BoxesDo.c11)) (innkeeplaw10_BoxesDo.c10)
def innkeeplaw10_BoxesDo.c1 : Cd := .seq (.seq (.reg false [⟨some 26, .move (.t 1), none, [], []⟩,
    ⟨some 27, .conv .i64 (.t 26), none, [], []⟩,
    ⟨some 28, .fieldAddr (.d tWorld) 1 (.t 4), none, [], []⟩,
    ⟨some 29, .load (.d (.sl (.int .i64))) (.t 28), none, [], []⟩,
    ⟨some 30, .len (.t 29), none, [], []⟩,
    ⟨some 31, .bin .rem (.t 27) (.t 30), none, [], []⟩,
    ⟨some 9, .move (.t 31), none, [], []⟩]) (innkeeplaw10_BoxesDo.c9)) (innkeeplaw10_BoxesDo.c8)
def innkeeplaw10_BoxesDo.c0 : Cd := .seq (.seq (.seq (.reg false [⟨some 18, .call (.f 8) [] [.d .bool] [] false, none, [], []⟩,
    ⟨some 19, .not (.t 18), none, [], []⟩,
    ⟨some 20, .move (.t 19), none, [], []⟩,
    ⟨some 21, .load (.d tWorld) (.t 4), some (20, false), [], []⟩,
    ⟨some 22, .call (.f 9) [(.t 21)] [.d .bool] [] false, some (20, false), [], []⟩,
    ⟨some 23, .not (.t 22), some (20, false), [], []⟩,
    ⟨some 24, .pick (.t 20) (.c .bool true) (.t 23), none, [], []⟩]) (innkeeplaw10_BoxesDo.c3)) (innkeeplaw10_BoxesDo.c2)) (innkeeplaw10_BoxesDo.c1)
def innkeeplaw10_BoxesDo.fn : Fn := ⟨4, [.tmp 8], .seq (.reg false [⟨some 4, .box 0 (.t 0), none, [], []⟩,
    ⟨some 8, .move (.c .bool false), none, [], []⟩]) (innkeeplaw10_BoxesDo.c0)⟩
def innkeepref09_Others.c2 : Cd := .tidy [9, 10] [] [] none
def innkeepref09_Others.c9 : Cd := .tidy [11, 12, 13] [] [] none
def innkeepref09_Others.c10 : Cd := .skip
def innkeepref09_Others.c20 : Cd := .exit 0
def innkeepref09_Others.c8 : Cd := .cond (.t 14) (.seq (.tidy [14] [] [] none) (innkeepref09_Others.c10)) (.seq (.tidy [14] [] [] none) (innkeepref09_Others.c20))
def innkeepref09_Others.c14 : Cd := .tidy [17, 18, 19, 20, 21, 22, 23, 24, 25, 26, 27, 28, 29, 30, 31, 32, 33, 34, 35, 36, 37, 38, 39] [] [] none
def innkeepref09_Others.c16 : Cd := .ret
def innkeepref09_Others.c15 : Cd := .seq (.reg false [⟨some 6, .move (.c .bool false), none, [], []⟩]) (innkeepref09_Others.c16)
def innkeepref09_Others.c17 : Cd := .skip
def innkeepref09_Others.c13 : Cd := .cond (.t 40) (.seq (.tidy [40] [] [] none) (innkeepref09_Others.c15)) (.seq (.tidy [40] [] [] none) (innkeepref09_Others.c17))
def innkeepref09_Others.c18 : Cd := .tidy [41, 42, 43, 44, 45, 46, 47, 48, 49, 50, 51, 52, 53, 54, 55] [] [] none
def innkeepref09_Others.c12 : Cd := .seq (.reg true [⟨some 41, .fieldAddr (.d tWorld) 3 (.t 7), none, [2], []⟩,
    ⟨some 42, .load (.d (.sl tPlace)) (.t 41), none, [2], []⟩,
    ⟨some 43, .move (.t 2), none, [], []⟩,
    ⟨some 44, .move (.t 8), none, [], []⟩,
    ⟨some 45, .index (.sl (.int .i64)) (.t 43) (.t 44), none, [], []⟩,
    ⟨some 46, .load (.d (.int .i64)) (.t 45), none, [], []⟩,
    ⟨some 47, .fieldAddr (.d tWorld) 3 (.t 4), none, [1], []⟩,
    ⟨some 48, .load (.d (.sl tPlace)) (.t 47), none, [1], []⟩,
    ⟨some 49, .move (.t 2), none, [], []⟩,
    ⟨some 50, .move (.t 8), none, [], []⟩,
    ⟨some 51, .index (.sl (.int .i64)) (.t 49) (.t 50), none, [], []⟩,
    ⟨some 52, .load (.d (.int .i64)) (.t 51), none, [], []⟩,
    ⟨some 53, .index (.sl tPlace) (.t 48) (.t 52), none, [], []⟩,
    ⟨some 54, .load (.d tPlace) (.t 53), none, [], []⟩,
    ⟨some 55, .index (.sl tPlace) (.t 42) (.t 46), none, [3], []⟩,
    ⟨none, .store (.d tPlace) (.t 55) (.t 54), none, [], [3]⟩]) (innkeepref09_Others.c18)
def innkeepref09_Others.c19 : Cd := .tidy [15, 16] [] [] none
def innkeepref09_Others.c11 : Cd := .seq (.reg false [⟨some 15, .move (.t 8), none, [], []⟩,
    ⟨some 16, .bin .add (.t 15) (.c (.int .i64) (1 : Int)), none, [], []⟩,
    ⟨some 8, .move (.t 16), none, [], []⟩]) (innkeepref09_Others.c19)
def innkeepref09_Others.c7 : Cd := .seq (.block 1 (.seq (.seq (.seq (.reg true [⟨some 17, .move (.t 2), none, [], []⟩,
    ⟨some 18, .move (.t 8), none, [], []⟩,
    ⟨some 19, .index (.sl (.int .i64)) (.t 17) (.t 18), none, [], []⟩,
    ⟨some 20, .load (.d (.int .i64)) (.t 19), none, [], []⟩,
    ⟨some 21, .bin .lss (.t 20) (.c (.int .i64) (0 : Int)), none, [], []⟩,
    ⟨some 22, .move (.t 21), none, [], []⟩,
    ⟨some 23, .move (.t 2), some (22, false), [], []⟩,
    ⟨some 24, .move (.t 8), some (22, false), [], []⟩,
    ⟨some 25, .index (.sl (.int .i64)) (.t 23) (.t 24), some (22, false), [], []⟩,
    ⟨some 26, .load (.d (.int .i64)) (.t 25), some (22, false), [], []⟩,
    ⟨some 27, .fieldAddr (.d tWorld) 3 (.t 7), some (22, false), [2], []⟩,
    ⟨some 28, .load (.d (.sl tPlace)) (.t 27), some (22, false), [2], []⟩,
    ⟨some 29, .len (.t 28), some (22, false), [3], []⟩,
    ⟨some 30, .bin .geq (.t 26) (.t 29), some (22, false), [], []⟩,
    ⟨some 31, .pick (.t 22) (.c .bool true) (.t 30), none, [], []⟩,
    ⟨some 32, .move (.t 31), none, [], []⟩,
    ⟨some 33, .fieldAddr (.d tWorld) 3 (.t 7), some (32, false), [2], []⟩,
    ⟨some 34, .load (.d (.sl tPlace)) (.t 33), some (32, false), [2], []⟩,
    ⟨some 35, .len (.t 34), some (32, false), [3], []⟩,
    ⟨some 36, .fieldAddr (.d tWorld) 3 (.t 4), some (32, false), [1], []⟩,
    ⟨some 37, .load (.d (.sl tPlace)) (.t 36), some (32, false), [1], []⟩,
    ⟨some 38, .len (.t 37), some (32, false), [], []⟩,
    ⟨some 39, .bin .neq (.t 35) (.t 38), some (32, false), [], []⟩,
    ⟨some 40, .pick (.t 32) (.c .bool true) (.t 39), none, [], []⟩]) (innkeepref09_Others.c14)) (innkeepref09_Others.c13)) (innkeepref09_Others.c12))) (innkeepref09_Others.c11)
def innkeepref09_Others.c6 : Cd := .tidy [] [] [] (some 4)
def innkeepref09_Others.c5 : Cd := .seq (.seq (.seq (.seq (.reg false [⟨some 11, .move (.t 8), none, [], []⟩,
    ⟨some 12, .move (.t 2), none, [], []⟩,
    ⟨some 13, .len (.t 12), none, [], []⟩,
    ⟨some 14, .bin .lss (.t 11) (.t 13), none, [], []⟩]) (innkeepref09_Others.c9)) (innkeepref09_Others.c8)) (innkeepref09_Others.c7)) (innkeepref09_Others.c6)
def innkeepref09_Others.c4 : Cd := .block 0 (.loop (innkeepref09_Others.c5))
def innkeepref09_Others.c22 : Cd := .tidy [56, 57, 58] [] [] none
def innkeepref09_Others.c21 : Cd := .ret
def innkeepref09_Others.c3 : Cd := .seq (.seq (.reg false [⟨some 56, .load (.d tWorld) (.t 7), none, [], []⟩,
    ⟨some 57, .load (.d tWorld) (.t 4), none, [], []⟩,
    ⟨some 58, .call (.f 14) [(.t 56), (.t 57)] [.d .bool] [] false, none, [], []⟩,
    ⟨some 6, .move (.t 58), none, [], []⟩]) (innkeepref09_Others.c22)) (innkeepref09_Others.c21)
def innkeepref09_Others.c1 : Cd := .seq (.seq (.reg false [⟨some 8, .move (.c (.int .i64) (0 : Int)), none, [], []⟩]) (innkeepref09_Others.c4)) (innkeepref09_Others.c3)
def innkeepref09_Others.c0 : Cd := .seq (.seq (.reg false [⟨some 9, .load (.d tWorld) (.t 3), none, [], []⟩,
    ⟨some 10, .call (.f 21) [(.t 9)] [.d tWorld] [((0, [3]), 3)] false, none, [], []⟩,
    ⟨some 7, .newbox 2 tWorld [], none, [], []⟩,
    ⟨none, .store (.d tWorld) (.t 7) (.t 10), none, [], []⟩]) (innkeepref09_Others.c2)) (innkeepref09_Others.c1)
def innkeepref09_Others.fn : Fn := ⟨3, [.tmp 6], .seq (.reg false [⟨some 3, .box 0 (.t 0), none, [], []⟩,
    ⟨some 4, .box 1 (.t 1), none, [], []⟩,
    ⟨some 6, .move (.c .bool false), none, [], []⟩]) (innkeepref09_Others.c0)⟩
def innkeeplaw10_BoxesKeep.c3 : Cd := .tidy [18, 19, 20, 21, 22, 23, 24, 25, 26, 27, 28, 29] [] [] none
def innkeeplaw10_BoxesKeep.c6 : Cd := .tidy [31] [] [] none
def innkeeplaw10_BoxesKeep.c5 : Cd := .ret
def innkeeplaw10_BoxesKeep.c4 : Cd := .seq (.seq (.reg false [⟨some 31, .call (.f 8) [] [.d .bool] [] false, none, [], []⟩,
    ⟨some 8, .move (.t 31), none, [], []⟩]) (innkeeplaw10_BoxesKeep.c6)) (innkeeplaw10_BoxesKeep.c5)
def innkeeplaw10_BoxesKeep.c7 : Cd := .skip
def innkeeplaw10_BoxesKeep.c2 : Cd := .cond (.t 30) (.seq (.tidy [30] [] [] none) (innkeeplaw10_BoxesKeep.c4)) (.seq (.tidy [30] [] [] none) (innkeeplaw10_BoxesKeep.c7))
def innkeeplaw10_BoxesKeep.c9 : Cd := .tidy [32, 33, 34, 35, 36, 37] [] [] none
def innkeeplaw10_BoxesKeep.c11 : Cd := .tidy [38, 39, 40, 41, 42, 43] [] [] none
def innkeeplaw10_BoxesKeep.c13 : Cd := .tidy [44, 45, 46, 47, 48, 49] [] [] none
def innkeeplaw10_BoxesKeep.c15 : Cd := .tidy [50, 51, 52, 53, 54, 55, 56, 57] [] [] none
def innkeeplaw10_BoxesKeep.c17 : Cd := .tidy [58, 59, 60, 61, 62, 63, 64, 65] [] [] none
def innkeeplaw10_BoxesKeep.c20 : Cd := .tidy [66, 67, 68, 69, 70, 71, 72, 73, 74, 75, 76, 77, 78, 79, 80, 81, 82, 83, 84, 85, 86, 87, 88, 89, 90] [] [] none
def innkeeplaw10_BoxesKeep.c22 : Cd := .ret
def innkeeplaw10_BoxesKeep.c21 : Cd := .seq (.reg false [⟨some 8, .move (.c .bool false), none, [], []⟩]) (innkeeplaw10_BoxesKeep.c22)
def innkeeplaw10_BoxesKeep.c23 : Cd := .skip
def innkeeplaw10_BoxesKeep.c19 : Cd := .cond (.t 91) (.seq (.tidy [91] [] [] none) (innkeeplaw10_BoxesKeep.c21)) (.seq (.tidy [91] [] [] none) (innkeeplaw10_BoxesKeep.c23))
def innkeeplaw10_BoxesKeep.c26 : Cd := .tidy [92] [] [] none
def innkeeplaw10_BoxesKeep.c29 : Cd := .tidy [94, 95, 96, 97, 98, 99, 100, 101] [] [] none
def innkeeplaw10_BoxesKeep.c31 : Cd := .tidy [102, 103, 104, 105, 106, 107, 108, 109, 110, 111, 112, 113, 114, 115, 116, 117, 118, 119, 120, 121, 122, 123, 124, 125, 126, 127, 128, 129, 130, 131, 132, 133, 134, 135, 136, 137] [] [] none
def innkeeplaw10_BoxesKeep.c33 : Cd := .ret
def innkeeplaw10_BoxesKeep.c32 : Cd := .seq (.reg false [⟨some 8, .move (.c .bool false), none, [], []⟩]) (innkeeplaw10_BoxesKeep.c33)
def innkeeplaw10_BoxesKeep.c34 : Cd := .skip
def innkeeplaw10_BoxesKeep.c30 : Cd := .cond (.t 138) (.seq (.tidy [138] [] [] none) (innkeeplaw10_BoxesKeep.c32)) (.seq (.tidy [138] [] [] none) (innkeeplaw10_BoxesKeep.c34))
def innkeeplaw10_BoxesKeep.c28 : Cd := .seq (.seq (.reg true [⟨some 102, .move (.t 17), none, [], []⟩,
    ⟨some 103, .bin .neq (.t 102) (.c (.int .i64) (0 : Int)), none, [], []⟩,
    ⟨some 104, .move (.t 103), none, [], []⟩,
    ⟨some 105, .load (.d tWorld) (.t 16), some (104, false), [3], []⟩,
    ⟨some 106, .load (.d tWorld) (.t 4), some (104, false), [0], []⟩,
    ⟨some 107, .call (.f 14) [(.t 105), (.t 106)] [.d .bool] [] false, some (104, false), [], []⟩,
    ⟨some 108, .not (.t 107), some (104, false), [], []⟩,
    ⟨some 109, .pick (.t 104) (.c .bool true) (.t 108), none, [], []⟩,
    ⟨some 110, .move (.t 109), none, [], []⟩,
    ⟨some 111, .load (.d tWorld) (.t 12), some (110, false), [1], []⟩,
    ⟨some 112, .call (.f 17) [(.t 111)] [.d .bool] [] false, some (110, false), [], []⟩,
    ⟨some 113, .not (.t 112), some (110, false), [], []⟩,
    ⟨some 114, .pick (.t 110) (.c .bool true) (.t 113), none, [], []⟩,
    ⟨some 115, .move (.t 114), none, [], []⟩,
    ⟨some 116, .load (.d tWorld) (.t 4), some (115, false), [0], []⟩,
    ⟨some 117, .load (.d tWorld) (.t 12), some (115, false), [1], []⟩,
    ⟨some 118, .move (.t 10), some (115, false), [], []⟩,
    ⟨some 119, .slice 4 (.int .i64) [(.t 118)], some (115, false), [], [4]⟩,
    ⟨some 120, .call (.f 18) [(.t 116), (.t 117), (.t 119)] [.d .bool] [] false, some (115, false), [4], []⟩,
    ⟨some 121, .not (.t 120), some (115, false), [], []⟩,
    ⟨some 122, .pick (.t 115) (.c .bool true) (.t 121), none, [], []⟩,
    ⟨some 123, .move (.t 122), none, [], []⟩,
    ⟨some 124, .load (.d tWorld) (.t 12), some (123, false), [1], []⟩,
    ⟨some 125, .move (.t 10), some (123, false), [], []⟩,
    ⟨some 126, .move (.t 11), some (123, false), [], []⟩,
    ⟨some 127, .call (.f 19) [(.t 124), (.t 125), (.t 126)] [.d .bool] [] false, some (123, false), [], []⟩,
    ⟨some 128, .not (.t 127), some (123, false), [], []⟩,
    ⟨some 129, .pick (.t 123) (.c .bool true) (.t 128), none, [], []⟩,
    ⟨some 130, .move (.t 129), none, [], []⟩,
    ⟨some 131, .load (.d tWorld) (.t 12), some (130, false), [1], []⟩,
    ⟨some 132, .move (.t 10), some (130, false), [], []⟩,
    ⟨some 133, .call (.f 20) [(.t 131), (.t 132)] [.d tPlace] [] false, some (130, false), [], []⟩,
    ⟨some 134, .load (.d tWorld) (.t 4), some (130, false), [0], []⟩,
    ⟨some 135, .move (.t 11), some (130, false), [], []⟩,
    ⟨some 136, .call (.f 20) [(.t 134), (.t 135)] [.d tPlace] [] false, some (130, false), [], []⟩,
    ⟨some 137, .eqs tPlace true (.t 133) (.t 136), some (130, false), [], []⟩,
    ⟨some 138, .pick (.t 130) (.c .bool true) (.t 137), none, [], []⟩]) (innkeeplaw10_BoxesKeep.c31)) (innkeeplaw10_BoxesKeep.c30)
def innkeeplaw10_BoxesKeep.c27 : Cd := .seq (.seq (.reg false [⟨some 95, .load (.d tWorld) (.t 12), none, [], []⟩,
    ⟨some 96, .move (.t 9), none, [], []⟩,
    ⟨some 97, .move (.t 10), none, [], []⟩,
    ⟨some 98, .move (.t 11), none, [], []⟩,
    ⟨some 99, .call (.f 12) [(.t 95), (.t 96), (.t 97), (.t 98)] [.d tWorld, .d (.int .i64)] [] false, none, [], []⟩,
    ⟨some 94, .move (.t 99), none, [], []⟩,
    ⟨some 100, .extract (.t 94) 0, none, [], []⟩,
    ⟨some 101, .extract (.t 94) 1, none, [], []⟩,
    ⟨some 16, .newbox 3 tWorld [], none, [], []⟩,
    ⟨none, .store (.d tWorld) (.t 16) (.t 100), none, [], []⟩,
    ⟨some 17, .move (.t 101), none, [], []⟩]) (innkeeplaw10_BoxesKeep.c29)) (innkeeplaw10_BoxesKeep.c28)
def innkeeplaw10_BoxesKeep.c43 : Cd := .skip
def innkeeplaw10_BoxesKeep.c25 : Cd := .cond (.t 93) (.seq (.tidy [93] [] [] none) (innkeeplaw10_BoxesKeep.c27)) (.seq (.tidy [93] [] [] none) (innkeeplaw10_BoxesKeep.c43))
def innkeeplaw10_BoxesKeep.c37 : Cd := .tidy [139] [] [] none
def innkeeplaw10_BoxesKeep.c40 : Cd := .tidy [141, 142, 143, 144, 145, 146, 147, 148, 149, 150, 151, 152, 153, 154, 155, 156, 157, 158, 159, 160, 161, 162, 163, 164, 165] [] [] none
def innkeeplaw10_BoxesKeep.c39 : Cd := .ret
def innkeeplaw10_BoxesKeep.c38 : Cd := .seq (.seq (.reg false [⟨some 141, .load (.d tWorld) (.t 14), none, [], []⟩,
    ⟨some 142, .call (.f 17) [(.t 141)] [.d .bool] [] false, none, [], []⟩,
    ⟨some 143, .move (.t 142), none, [], []⟩,
    ⟨some 144, .load (.d tWorld) (.t 4), some (143, true), [], []⟩,
    ⟨some 145, .load (.d tWorld) (.t 14), some (143, true), [], []⟩,
    ⟨some 146, .move (.t 10), some (143, true), [], []⟩,
    ⟨some 147, .slice 5 (.int .i64) [(.t 146)], some (143, true), [], []⟩,
    ⟨some 148, .call (.f 18) [(.t 144), (.t 145), (.t 147)] [.d .bool] [] false, some (143, true), [], []⟩,
    ⟨some 149, .pick (.t 143) (.t 148) (.c .bool false), none, [], []⟩,
    ⟨some 150, .move (.t 149), none, [], []⟩,
    ⟨some 151, .fieldAddr (.d tWorld) 3 (.t 14), some (150, true), [], []⟩,
    ⟨some 152, .load (.d (.sl tPlace)) (.t 151), some (150, true), [], []⟩,
    ⟨some 153, .move (.t 10), some (150, true), [], []⟩,
    ⟨some 154, .index (.sl tPlace) (.t 152) (.t 153), some (150, true), [], []⟩,
    ⟨some 155, .load (.d tPlace) (.t 154), some (150, true), [], []⟩,
    ⟨some 156, .move (.t 9), some (150, true), [], []⟩,
    ⟨some 157, .build tPlace [(0, (.c (.int .i64) (1 : Int))), (1, (.t 156))] [], some (150, true), [], []⟩,
    ⟨some 158, .eqs tPlace false (.t 155) (.t 157), some (150, true), [], []⟩,
    ⟨some 159, .pick (.t 150) (.t 158) (.c .bool false), none, [], []⟩,
    ⟨some 160, .move (.t 159), none, [], []⟩,
    ⟨some 161, .load (.d tWorld) (.t 4), some (160, true), [], []⟩,
    ⟨some 162, .move (.t 10), some (160, true), [], []⟩,
    ⟨some 163, .move (.t 11), some (160, true), [], []⟩,
    ⟨some 164, .call (.f 19) [(.t 161), (.t 162), (.t 163)] [.d .bool] [] false, some (160, true), [], []⟩,
    ⟨some 165, .pick (.t 160) (.t 164) (.c .bool false), none, [], []⟩,
    ⟨some 8, .move (.t 165), none, [], []⟩]) (innkeeplaw10_BoxesKeep.c40)) (innkeeplaw10_BoxesKeep.c39)
def innkeeplaw10_BoxesKeep.c41 : Cd := .skip
def innkeeplaw10_BoxesKeep.c36 : Cd := .cond (.t 140) (.seq (.tidy [140] [] [] none) (innkeeplaw10_BoxesKeep.c38)) (.seq (.tidy [140] [] [] none) (innkeeplaw10_BoxesKeep.c41))
def innkeeplaw10_BoxesKeep.c42 : Cd := .ret
def innkeeplaw10_BoxesKeep.c35 : Cd := .seq (.reg false [⟨some 8, .move (.c .bool true), none, [], []⟩]) (innkeeplaw10_BoxesKeep.c42)
def innkeeplaw10_BoxesKeep.c24 : Cd := .seq (.seq (.seq (.reg false [⟨some 139, .move (.t 15), none, [], []⟩,
    ⟨some 140, .bin .eql (.t 139) (.c (.int .i64) (0 : Int)), none, [], []⟩]) (innkeeplaw10_BoxesKeep.c37)) (innkeeplaw10_BoxesKeep.c36)) (innkeeplaw10_BoxesKeep.c35)
def innkeeplaw10_BoxesKeep.c18 : Cd := .seq (.seq (.seq (.reg false [⟨some 92, .move (.t 13), none, [], []⟩,
    ⟨some 93, .bin .eql (.t 92) (.c (.int .i64) (0 : Int)), none, [], []⟩]) (innkeeplaw10_BoxesKeep.c26)) (innkeeplaw10_BoxesKeep.c25)) (innkeeplaw10_BoxesKeep.c24)
def innkeeplaw10_BoxesKeep.c16 : Cd := .seq (.seq (.seq (.reg false [⟨some 66, .move (.t 13), none, [], []⟩,
    ⟨some 67, .bin .eql (.t 66) (.c (.int .i64) (0 : Int)), none, [], []⟩,
    ⟨some 68, .move (.t 67), none, [], []⟩,
    ⟨some 69, .move (.t 15), some (68, true), [], []⟩,
    ⟨some 70, .bin .eql (.t 69) (.c (.int .i64) (0 : Int)), some (68, true), [], []⟩,
    ⟨some 71, .pick (.t 68) (.t 70) (.c .bool false), none, [], []⟩,
    ⟨some 72, .move (.t 71), none, [], []⟩,
    ⟨some 73, .move (.t 13), some (72, false), [], []⟩,
    ⟨some 74, .bin .neq (.t 73) (.c (.int .i64) (0 : Int)), some (72, false), [], []⟩,
    ⟨some 75, .move (.t 74), some (72, false), [], []⟩,
    ⟨some 76, .load (.d tWorld) (.t 12), some (75, true), [], []⟩,
    ⟨some 77, .load (.d tWorld) (.t 4), some (75, true), [], []⟩,
    ⟨some 78, .call (.f 14) [(.t 76), (.t 77)] [.d .bool] [] false, some (75, true), [], []⟩,
    ⟨some 79, .not (.t 78), some (75, true), [], []⟩,
    ⟨some 80, .pick (.t 75) (.t 79) (.c .bool false), some (72, false), [], []⟩,
    ⟨some 81, .pick (.t 72) (.c .bool true) (.t 80), none, [], []⟩,
    ⟨some 82, .move (.t 81), none, [], []⟩,
    ⟨some 83, .move (.t 15), some (82, false), [], []⟩,
    ⟨some 84, .bin .neq (.t 83) (.c (.int .i64) (0 : Int)), some (82, false), [], []⟩,
    ⟨some 85, .move (.t 84), some (82, false), [], []⟩,
    ⟨some 86, .load (.d tWorld) (.t 14), some (85, true), [], []⟩,
    ⟨some 87, .load (.d tWorld) (.t 4), some (85, true), [], []⟩,
    ⟨some 88, .call (.f 14) [(.t 86), (.t 87)] [.d .bool] [] false, some (85, true), [], []⟩,
    ⟨some 89, .not (.t 88), some (85, true), [], []⟩,
    ⟨some 90, .pick (.t 85) (.t 89) (.c .bool false), some (82, false), [], []⟩,
    ⟨some 91, .pick (.t 82) (.c .bool true) (.t 90), none, [], []⟩]) (innkeeplaw10_BoxesKeep.c20)) (innkeeplaw10_BoxesKeep.c19)) (innkeeplaw10_BoxesKeep.c18)
def innkeeplaw10_BoxesKeep.c14 : Cd := .seq (.seq (.reg false [⟨some 59, .load (.d tWorld) (.t 4), none, [], []⟩,
    ⟨some 60, .move (.t 9), none, [], []⟩,
    ⟨some 61, .move (.t 10), none, [], []⟩,
    ⟨some 62, .move (.t 11), none, [], []⟩,
    ⟨some 63, .call (.f 12) [(.t 59), (.t 60), (.t 61), (.t 62)] [.d tWorld, .d (.int .i64)] [] false, none, [], []⟩,
    ⟨some 58, .move (.t 63), none, [], []⟩,
    ⟨some 64, .extract (.t 58) 0, none, [], []⟩,
    ⟨some 65, .extract (.t 58) 1, none, [], []⟩,
    ⟨some 14, .newbox 2 tWorld [], none, [], []⟩,
    ⟨none, .store (.d tWorld) (.t 14) (.t 64), none, [], []⟩,
    ⟨some 15, .move (.t 65), none, [], []⟩]) (innkeeplaw10_BoxesKeep.c17)) (innkeeplaw10_BoxesKeep.c16)
def innkeeplaw10_BoxesKeep.c12 : Cd := .seq (.seq (.reg false [⟨some 51, .load (.d tWorld) (.t 4), none, [], []⟩,
    ⟨some 52, .move (.t 9), none, [], []⟩,
    ⟨some 53, .move (.t 10), none, [], []⟩,
    ⟨some 54, .move (.t 11), none, [], []⟩,
    ⟨some 55, .call (.f 10) [(.t 51), (.t 52), (.t 53), (.t 54)] [.d tWorld, .d (.int .i64)] [] false, none, [], []⟩,
    ⟨some 50, .move (.t 55), none, [], []⟩,
    ⟨some 56, .extract (.t 50) 0, none, [], []⟩,
    ⟨some 57, .extract (.t 50) 1, none, [], []⟩,
    ⟨some 12, .newbox 1 tWorld [], none, [], []⟩,
    ⟨none, .store (.d tWorld) (.t 12) (.t 56), none, [], []⟩,
    ⟨some 13, .move (.t 57), none, [], []⟩]) (innkeeplaw10_BoxesKeep.c15)) (innkeeplaw10_BoxesKeep.c14)
def innkeeplaw10_BoxesKeep.c10 : Cd := .seq (.seq (.reg false [⟨some 44, .move (.t 3), none, [], []⟩,
    ⟨some 45, .conv .i64 (.t 44), none, [], []⟩,
    ⟨some 46, .fieldAddr (.d tWorld) 3 (.t 4), none, [], []⟩,
    ⟨some 47, .load (.d (.sl tPlace)) (.t 46), none, [], []⟩,
    ⟨some 48, .len (.t 47), none, [], []⟩,
    ⟨some 49, .bin .rem (.t 45) (.t 48), none, [], []⟩,
    ⟨some 11, .move (.t 49), none, [], []⟩]) (innkeeplaw10_BoxesKeep.c13)) (innkeeplaw10_BoxesKeep.c12)
def innkeeplaw10_BoxesKeep.c8 : Cd := .seq (.seq (.reg false [⟨some 38, .move (.t 2), none, [], []⟩,
    ⟨some 39, .conv .i64 (.t 38), none, [], []⟩,
    ⟨some 40, .fieldAddr (.d tWorld) 3 (.t 4), none, [], []⟩,
    ⟨some 41, .load (.d (.sl tPlace)) (.t 40), none, [], []⟩,
    ⟨some 42, .len (.t 41), none, [], []⟩,
    ⟨some 43, .bin .rem (.t 39) (.t 42), none, [], []⟩,
    ⟨some 10, .move (.t 43), none, [], []⟩]) (innkeeplaw10_BoxesKeep.c11)) (innkeeplaw10_BoxesKeep.c10)
def innkeeplaw10_BoxesKeep.c1 : Cd := .seq (.seq (.reg false [⟨some 32, .move (.t 1), none, [], []⟩,
    ⟨some 33, .conv .i64 (.t 32), none, [], []⟩,
    ⟨some 34, .fieldAddr (.d tWorld) 1 (.t 4), none, [], []⟩,
    ⟨some 35, .load (.d (.sl (.int .i64))) (.t 34), none, [], []⟩,
    ⟨some 36, .len (.t 35), none, [], []⟩,
    ⟨some 37, .bin .rem (.t 33) (.t 36), none, [], []⟩,
    ⟨some 9, .move (.t 37), none, [], []⟩]) (innkeeplaw10_BoxesKeep.c9)) (innkeeplaw10_BoxesKeep.c8)
def innkeeplaw10_BoxesKeep.c0 : Cd := .seq (.seq (.seq (.reg false [⟨some 18, .call (.f 8) [] [.d .bool] [] false, none, [], []⟩,
    ⟨some 19, .not (.t 18), none, [], []⟩,
    ⟨some 20, .move (.t 19), none, [], []⟩,
    ⟨some 21, .load (.d tWorld) (.t 4), some (20, false), [], []⟩,
    ⟨some 22, .call (.f 9) [(.t 21)] [.d .bool] [] false, some (20, false), [], []⟩,
    ⟨some 23, .not (.t 22), some (20, false), [], []⟩,
    ⟨some 24, .pick (.t 20) (.c .bool true) (.t 23), none, [], []⟩,
    ⟨some 25, .move (.t 24), none, [], []⟩,
    ⟨some 26, .fieldAddr (.d tWorld) 3 (.t 4), some (25, false), [], []⟩,
    ⟨some 27, .load (.d (.sl tPlace)) (.t 26), some (25, false), [], []⟩,
    ⟨some 28, .len (.t 27), some (25, false), [], []⟩,
    ⟨some 29, .bin .eql (.t 28) (.c (.int .i64) (0 : Int)), some (25, false), [], []⟩,
    ⟨some 30, .pick (.t 25) (.c .bool true) (.t 29), none, [], []⟩]) (innkeeplaw10_BoxesKeep.c3)) (innkeeplaw10_BoxesKeep.c2)) (innkeeplaw10_BoxesKeep.c1)
def innkeeplaw10_BoxesKeep.fn : Fn := ⟨4, [.tmp 8], .seq (.reg false [⟨some 4, .box 0 (.t 0), none, [], []⟩,
    ⟨some 8, .move (.c .bool false), none, [], []⟩]) (innkeeplaw10_BoxesKeep.c0)⟩
def innkeeplaw10_BoxesHold.c3 : Cd := .tidy [13, 14, 15, 16, 17, 18] [] [] none
def innkeeplaw10_BoxesHold.c6 : Cd := .tidy [20] [] [] none
def innkeeplaw10_BoxesHold.c5 : Cd := .ret
def innkeeplaw10_BoxesHold.c4 : Cd := .seq (.seq (.reg false [⟨some 20, .call (.f 8) [] [.d .bool] [] false, none, [], []⟩,
    ⟨some 8, .move (.t 20), none, [], []⟩]) (innkeeplaw10_BoxesHold.c6)) (innkeeplaw10_BoxesHold.c5)
def innkeeplaw10_BoxesHold.c7 : Cd := .skip
def innkeeplaw10_BoxesHold.c2 : Cd := .cond (.t 19) (.seq (.tidy [19] [] [] none) (innkeeplaw10_BoxesHold.c4)) (.seq (.tidy [19] [] [] none) (innkeeplaw10_BoxesHold.c7))
def innkeeplaw10_BoxesHold.c9 : Cd := .tidy [21, 22] [] [] none
def innkeeplaw10_BoxesHold.c11 : Cd := .tidy [23, 24, 25, 26, 27, 28, 29, 30, 31, 32, 33, 34, 35] [] [] none
def innkeeplaw10_BoxesHold.c13 : Cd := .tidy [36, 37, 38, 39, 40, 41, 42, 43, 44, 45] [] [] none
def innkeeplaw10_BoxesHold.c16 : Cd := .tidy [46] [] [] none
def innkeeplaw10_BoxesHold.c23 : Cd := .tidy [48, 49, 50, 51] [] [] none
def innkeeplaw10_BoxesHold.c24 : Cd := .skip
def innkeeplaw10_BoxesHold.c28 : Cd := .exit 0
def innkeeplaw10_BoxesHold.c22 : Cd := .cond (.t 52) (.seq (.tidy [52] [] [] none) (innkeeplaw10_BoxesHold.c24)) (.seq (.tidy [52] [] [] none) (innkeeplaw10_BoxesHold.c28))
def innkeeplaw10_BoxesHold.c26 : Cd := .tidy [55, 56, 57, 58, 59] [] [] none
def innkeeplaw10_BoxesHold.c27 : Cd := .tidy [53, 54] [] [] none
def innkeeplaw10_BoxesHold.c25 : Cd := .seq (.reg false [⟨some 53, .move (.t 12), none, [], []⟩,
    ⟨some 54, .bin .add (.t 53) (.c (.int .i64) (1 : Int)), none, [], []⟩,
    ⟨some 12, .move (.t 54), none, [], []⟩]) (innkeeplaw10_BoxesHold.c27)
def innkeeplaw10_BoxesHold.c21 : Cd := .seq (.block 1 (.seq (.reg false [⟨some 55, .fieldAddr (.d tWorld) 3 (.t 10), none, [], []⟩,
    ⟨some 56, .load (.d (.sl tPlace)) (.t 55), none, [], []⟩,
    ⟨some 57, .move (.t 12), none, [], []⟩,
    ⟨some 58, .index (.sl tPlace) (.t 56) (.t 57), none, [], []⟩,
    ⟨some 59, .fieldAddr (.d tPlace) 1 (.t 58), none, [], []⟩,
    ⟨none, .store (.d (.int .i64)) (.t 59) (.c (.int .i64) (99 : Int)), none, [], []⟩]) (innkeeplaw10_BoxesHold.c26))) (innkeeplaw10_BoxesHold.c25)
def innkeeplaw10_BoxesHold.c20 : Cd := .tidy [] [] [] (some 4)
def innkeeplaw10_BoxesHold.c19 : Cd := .seq (.seq (.seq (.seq (.reg false [⟨some 48, .move (.t 12), none, [], []⟩,
    ⟨some 49, .fieldAddr (.d tWorld) 3 (.t 10), none, [], []⟩,
    ⟨some 50, .load (.d (.sl tPlace)) (.t 49), none, [], []⟩,
    ⟨some 51, .len (.t 50), none, [], []⟩,
    ⟨some 52, .bin .lss (.t 48) (.t 51), none, [], []⟩]) (innkeeplaw10_BoxesHold.c23)) (innkeeplaw10_BoxesHold.c22)) (innkeeplaw10_BoxesHold.c21)) (innkeeplaw10_BoxesHold.c20)
def innkeeplaw10_BoxesHold.c18 : Cd := .block 0 (.loop (innkeeplaw10_BoxesHold.c19))
def innkeeplaw10_BoxesHold.c17 : Cd := .seq (.reg false [⟨some 12, .move (.c (.int .i64) (0 : Int)), none, [], []⟩]) (innkeeplaw10_BoxesHold.c18)
def innkeeplaw10_BoxesHold.c31 : Cd := .skip
def innkeeplaw10_BoxesHold.c15 : Cd := .cond (.t 47) (.seq (.tidy [47] [] [] none) (innkeeplaw10_BoxesHold.c17)) (.seq (.tidy [47] [] [] none) (innkeeplaw10_BoxesHold.c31))
def innkeeplaw10_BoxesHold.c30 : Cd := .tidy [60, 61, 62] [] [] none
def innkeeplaw10_BoxesHold.c29 : Cd := .ret
def innkeeplaw10_BoxesHold.c14 : Cd := .seq (.seq (.reg false [⟨some 60, .load (.d tWorld) (.t 9), none, [], []⟩,
    ⟨some 61, .load (.d tWorld) (.t 4), none, [], []⟩,
    ⟨some 62, .call (.f 14) [(.t 60), (.t 61)] [.d .bool] [] false, none, [], []⟩,
    ⟨some 8, .move (.t 62), none, [], []⟩]) (innkeeplaw10_BoxesHold.c30)) (innkeeplaw10_BoxesHold.c29)
def innkeeplaw10_BoxesHold.c12 : Cd := .seq (.seq (.seq (.reg false [⟨some 46, .move (.t 11), none, [], []⟩,
    ⟨some 47, .bin .eql (.t 46) (.c (.int .i64) (0 : Int)), none, [], []⟩]) (innkeeplaw10_BoxesHold.c16)) (innkeeplaw10_BoxesHold.c15)) (innkeeplaw10_BoxesHold.c14)
def innkeeplaw10_BoxesHold.c10 : Cd := .seq (.seq (.reg true [⟨some 36, .load (.d tWorld) (.t 9), none, [1], []⟩,
    ⟨some 37, .move (.t 1), none, [], []⟩,
    ⟨some 38, .conv .i64 (.t 37), none, [], []⟩,
    ⟨some 39, .fieldAddr (.d tWorld) 1 (.t 4), none, [0], []⟩,
    ⟨some 40, .load (.d (.sl (.int .i64))) (.t 39), none, [0], []⟩,
    ⟨some 41, .len (.t 40), none, [], []⟩,
    ⟨some 42, .bin .rem (.t 38) (.t 41), none, [], []⟩,
    ⟨some 43, .move (.t 2), none, [], []⟩,
    ⟨some 44, .move (.t 3), none, [], []⟩,
    ⟨some 45, .call (.f 12) [(.t 36), (.t 42), (.t 43), (.t 44)] [.d tWorld, .d (.int .i64)] [] false, none, [], []⟩]) (innkeeplaw10_BoxesHold.c13)) (innkeeplaw10_BoxesHold.c12)
def innkeeplaw10_BoxesHold.c8 : Cd := .seq (.seq (.reg true [⟨some 24, .load (.d tWorld) (.t 9), none, [1], []⟩,
    ⟨some 25, .move (.t 1), none, [], []⟩,
    ⟨some 26, .conv .i64 (.t 25), none, [], []⟩,
    ⟨some 27, .fieldAddr (.d tWorld) 1 (.t 4), none, [0], []⟩,
    ⟨some 28, .load (.d (.sl (.int .i64))) (.t 27), none, [0], []⟩,
    ⟨some 29, .len (.t 28), none, [], []⟩,
    ⟨some 30, .bin .rem (.t 26) (.t 29), none, [], []⟩,
    ⟨some 31, .move (.t 2), none, [], []⟩,
    ⟨some 32, .move (.t 3), none, [], []⟩,
    ⟨some 33, .call (.f 10) [(.t 24), (.t 30), (.t 31), (.t 32)] [.d tWorld, .d (.int .i64)] [((0, [3]), 3)] true, none, [], [3]⟩,
    ⟨some 23, .move (.t 33), none, [], []⟩,
    ⟨some 34, .extract (.t 23) 0, none, [], []⟩,
    ⟨some 35, .extract (.t 23) 1, none, [], []⟩,
    ⟨some 10, .newbox 2 tWorld [], none, [], [2]⟩,
    ⟨none, .store (.d tWorld) (.t 10) (.t 34), none, [], [2]⟩,
    ⟨some 11, .move (.t 35), none, [], []⟩]) (innkeeplaw10_BoxesHold.c11)) (innkeeplaw10_BoxesHold.c10)
def innkeeplaw10_BoxesHold.c1 : Cd := .seq (.seq (.reg false [⟨some 21, .load (.d tWorld) (.t 4), none, [], []⟩,
    ⟨some 22, .call (.f 21) [(.t 21)] [.d tWorld] [] false, none, [], []⟩,
    ⟨some 9, .newbox 1 tWorld [], none, [], []⟩,
    ⟨none, .store (.d tWorld) (.t 9) (.t 22), none, [], []⟩]) (innkeeplaw10_BoxesHold.c9)) (innkeeplaw10_BoxesHold.c8)
def innkeeplaw10_BoxesHold.c0 : Cd := .seq (.seq (.seq (.reg false [⟨some 13, .call (.f 8) [] [.d .bool] [] false, none, [], []⟩,
    ⟨some 14, .not (.t 13), none, [], []⟩,
    ⟨some 15, .move (.t 14), none, [], []⟩,
    ⟨some 16, .load (.d tWorld) (.t 4), some (15, false), [], []⟩,
    ⟨some 17, .call (.f 9) [(.t 16)] [.d .bool] [] false, some (15, false), [], []⟩,
    ⟨some 18, .not (.t 17), some (15, false), [], []⟩,
    ⟨some 19, .pick (.t 15) (.c .bool true) (.t 18), none, [], []⟩]) (innkeeplaw10_BoxesHold.c3)) (innkeeplaw10_BoxesHold.c2)) (innkeeplaw10_BoxesHold.c1)
def innkeeplaw10_BoxesHold.fn : Fn := ⟨4, [.tmp 8], .seq (.reg false [⟨some 4, .box 0 (.t 0), none, [], []⟩,
    ⟨some 8, .move (.c .bool false), none, [], []⟩]) (innkeeplaw10_BoxesHold.c0)⟩
def innkeeplaw10_BoxesNear.c3 : Cd := .tidy [18, 19, 20, 21, 22, 23, 24, 25, 26, 27, 28, 29] [] [] none
def innkeeplaw10_BoxesNear.c6 : Cd := .tidy [31] [] [] none
def innkeeplaw10_BoxesNear.c5 : Cd := .ret
def innkeeplaw10_BoxesNear.c4 : Cd := .seq (.seq (.reg false [⟨some 31, .call (.f 8) [] [.d .bool] [] false, none, [], []⟩,
    ⟨some 8, .move (.t 31), none, [], []⟩]) (innkeeplaw10_BoxesNear.c6)) (innkeeplaw10_BoxesNear.c5)
def innkeeplaw10_BoxesNear.c7 : Cd := .skip
def innkeeplaw10_BoxesNear.c2 : Cd := .cond (.t 30) (.seq (.tidy [30] [] [] none) (innkeeplaw10_BoxesNear.c4)) (.seq (.tidy [30] [] [] none) (innkeeplaw10_BoxesNear.c7))
def innkeeplaw10_BoxesNear.c9 : Cd := .tidy [32, 33, 34, 35, 36, 37] [] [] none
def innkeeplaw10_BoxesNear.c11 : Cd := .tidy [38, 39, 40, 41, 42, 43] [] [] none
def innkeeplaw10_BoxesNear.c13 : Cd := .tidy [44, 45, 46, 47, 48, 49] [] [] none
def innkeeplaw10_BoxesNear.c15 : Cd := .tidy [12, 50, 51, 52, 53, 54, 55, 56, 57] [] [] none
def innkeeplaw10_BoxesNear.c17 : Cd := .tidy [14, 58, 59, 60, 61, 62, 63, 64, 65] [] [] none
def innkeeplaw10_BoxesNear.c19 : Cd := .tidy [66, 67, 68, 69] [] [] none
def innkeeplaw10_BoxesNear.c22 : Cd := .tidy [70, 71, 72, 73, 74, 75, 76, 77, 78, 79, 80, 81, 82, 83, 84, 85] [] [] none
def innkeeplaw10_BoxesNear.c24 : Cd := .ret
def innkeeplaw10_BoxesNear.c23 : Cd := .seq (.reg false [⟨some 8, .move (.c .bool false), none, [], []⟩]) (innkeeplaw10_BoxesNear.c24)
def innkeeplaw10_BoxesNear.c25 : Cd := .skip
def innkeeplaw10_BoxesNear.c21 : Cd := .cond (.t 86) (.seq (.tidy [86] [] [] none) (innkeeplaw10_BoxesNear.c23)) (.seq (.tidy [86] [] [] none) (innkeeplaw10_BoxesNear.c25))
def innkeeplaw10_BoxesNear.c27 : Cd := .tidy [87, 88, 89, 90, 91] [] [] none
def innkeeplaw10_BoxesNear.c30 : Cd := .tidy [92, 93] [] [] none
def innkeeplaw10_BoxesNear.c33 : Cd := .tidy [95, 96, 97, 98, 99, 100, 101] [] [] none
def innkeeplaw10_BoxesNear.c32 : Cd := .ret
def innkeeplaw10_BoxesNear.c31 : Cd := .seq (.seq (.reg false [⟨some 95, .move (.t 16), none, [], []⟩,
    ⟨some 96, .load (.d tWorld) (.t 4), none, [], []⟩,
    ⟨some 97, .move (.t 9), none, [], []⟩,
    ⟨some 98, .fieldAddr (.d tPlace) 1 (.t 17), none, [], []⟩,
    ⟨some 99, .load (.d (.int .i64)) (.t 98), none, [], []⟩,
    ⟨some 100, .call (.f 15) [(.t 96), (.t 97), (.t 99)] [.d .bool] [] false, none, [], []⟩,
    ⟨some 101, .eqs .bool false (.t 95) (.t 100), none, [], []⟩,
    ⟨some 8, .move (.t 101), none, [], []⟩]) (innkeeplaw10_BoxesNear.c33)) (innkeeplaw10_BoxesNear.c32)
def innkeeplaw10_BoxesNear.c34 : Cd := .skip
def innkeeplaw10_BoxesNear.c29 : Cd := .cond (.t 94) (.seq (.tidy [94] [] [] none) (innkeeplaw10_BoxesNear.c31)) (.seq (.tidy [94] [] [] none) (innkeeplaw10_BoxesNear.c34))
def innkeeplaw10_BoxesNear.c36 : Cd := .tidy [102, 103, 104, 105, 106, 107, 108, 109, 110, 111, 112, 113, 114, 115, 116, 117] [] [] none
def innkeeplaw10_BoxesNear.c35 : Cd := .ret
def innkeeplaw10_BoxesNear.c28 : Cd := .seq (.seq (.reg true [⟨some 102, .move (.t 16), none, [], []⟩,
    ⟨some 103, .load (.d tPlace) (.t 17), none, [3], []⟩,
    ⟨some 104, .fieldAddr (.d tWorld) 1 (.t 4), none, [0], []⟩,
    ⟨some 105, .load (.d (.sl (.int .i64))) (.t 104), none, [0], []⟩,
    ⟨some 106, .move (.t 9), none, [], []⟩,
    ⟨some 107, .index (.sl (.int .i64)) (.t 105) (.t 106), none, [], []⟩,
    ⟨some 108, .load (.d (.int .i64)) (.t 107), none, [], []⟩,
    ⟨some 109, .build tPlace [(1, (.t 108))] [], none, [], []⟩,
    ⟨some 110, .eqs tPlace false (.t 103) (.t 109), none, [], []⟩,
    ⟨some 111, .move (.t 110), none, [], []⟩,
    ⟨some 112, .load (.d tPlace) (.t 17), some (111, false), [3], []⟩,
    ⟨some 113, .move (.t 9), some (111, false), [], []⟩,
    ⟨some 114, .build tPlace [(0, (.c (.int .i64) (1 : Int))), (1, (.t 113))] [], some (111, false), [], []⟩,
    ⟨some 115, .eqs tPlace false (.t 112) (.t 114), some (111, false), [], []⟩,
    ⟨some 116, .pick (.t 111) (.c .bool true) (.t 115), none, [], []⟩,
    ⟨some 117, .eqs .bool false (.t 102) (.t 116), none, [], []⟩,
    ⟨some 8, .move (.t 117), none, [], []⟩]) (innkeeplaw10_BoxesNear.c36)) (innkeeplaw10_BoxesNear.c35)
def innkeeplaw10_BoxesNear.c26 : Cd := .seq (.seq (.seq (.reg false [⟨some 92, .fieldAddr (.d tPlace) 0 (.t 17), none, [], []⟩,
    ⟨some 93, .load (.d (.int .i64)) (.t 92), none, [], []⟩,
    ⟨some 94, .bin .eql (.t 93) (.c (.int .i64) (2 : Int)), none, [], []⟩]) (innkeeplaw10_BoxesNear.c30)) (innkeeplaw10_BoxesNear.c29)) (innkeeplaw10_BoxesNear.c28)
def innkeeplaw10_BoxesNear.c20 : Cd := .seq (.seq (.reg false [⟨some 87, .fieldAddr (.d tWorld) 3 (.t 4), none, [], []⟩,
    ⟨some 88, .load (.d (.sl tPlace)) (.t 87), none, [], []⟩,
    ⟨some 89, .move (.t 10), none, [], []⟩,
    ⟨some 90, .index (.sl tPlace) (.t 88) (.t 89), none, [], []⟩,
    ⟨some 91, .load (.d tPlace) (.t 90), none, [], []⟩,
    ⟨some 17, .newbox 3 tPlace [], none, [], []⟩,
    ⟨none, .store (.d tPlace) (.t 17) (.t 91), none, [], []⟩]) (innkeeplaw10_BoxesNear.c27)) (innkeeplaw10_BoxesNear.c26)
def innkeeplaw10_BoxesNear.c18 : Cd := .seq (.seq (.seq (.reg false [⟨some 70, .move (.t 13), none, [], []⟩,
    ⟨some 71, .bin .eql (.t 70) (.c (.int .i64) (0 : Int)), none, [], []⟩,
    ⟨some 72, .move (.t 71), none, [], []⟩,
    ⟨some 73, .move (.t 15), some (72, false), [], []⟩,
    ⟨some 74, .bin .eql (.t 73) (.c (.int .i64) (0 : Int)), some (72, false), [], []⟩,
    ⟨some 75, .pick (.t 72) (.c .bool true) (.t 74), none, [], []⟩,
    ⟨some 76, .move (.t 75), none, [], []⟩,
    ⟨some 77, .move (.t 16), some (76, true), [], []⟩,
    ⟨some 78, .not (.t 77), some (76, true), [], []⟩,
    ⟨some 79, .move (.t 78), some (76, true), [], []⟩,
    ⟨some 80, .load (.d tWorld) (.t 4), some (79, false), [], []⟩,
    ⟨some 81, .move (.t 9), some (79, false), [], []⟩,
    ⟨some 82, .move (.t 11), some (79, false), [], []⟩,
    ⟨some 83, .call (.f 15) [(.t 80), (.t 81), (.t 82)] [.d .bool] [] false, some (79, false), [], []⟩,
    ⟨some 84, .not (.t 83), some (79, false), [], []⟩,
    ⟨some 85, .pick (.t 79) (.c .bool true) (.t 84), some (76, true), [], []⟩,
    ⟨some 86, .pick (.t 76) (.t 85) (.c .bool false), none, [], []⟩]) (innkeeplaw10_BoxesNear.c22)) (innkeeplaw10_BoxesNear.c21)) (innkeeplaw10_BoxesNear.c20)
def innkeeplaw10_BoxesNear.c16 : Cd := .seq (.seq (.reg false [⟨some 66, .load (.d tWorld) (.t 4), none, [], []⟩,
    ⟨some 67, .move (.t 9), none, [], []⟩,
    ⟨some 68, .move (.t 10), none, [], []⟩,
    ⟨some 69, .call (.f 15) [(.t 66), (.t 67), (.t 68)] [.d .bool] [] false, none, [], []⟩,
    ⟨some 16, .move (.t 69), none, [], []⟩]) (innkeeplaw10_BoxesNear.c19)) (innkeeplaw10_BoxesNear.c18)
def innkeeplaw10_BoxesNear.c14 : Cd := .seq (.seq (.reg false [⟨some 59, .load (.d tWorld) (.t 4), none, [], []⟩,
    ⟨some 60, .move (.t 9), none, [], []⟩,
    ⟨some 61, .move (.t 10), none, [], []⟩,
    ⟨some 62, .move (.t 11), none, [], []⟩,
    ⟨some 63, .call (.f 12) [(.t 59), (.t 60), (.t 61), (.t 62)] [.d tWorld, .d (.int .i64)] [] false, none, [], []⟩,
    ⟨some 58, .move (.t 63), none, [], []⟩,
    ⟨some 64, .extract (.t 58) 0, none, [], []⟩,
    ⟨some 65, .extract (.t 58) 1, none, [], []⟩,
    ⟨some 14, .newbox 2 tWorld [], none, [], []⟩,
    ⟨none, .store (.d tWorld) (.t 14) (.t 64), none, [], []⟩,
    ⟨some 15, .move (.t 65), none, [], []⟩]) (innkeeplaw10_BoxesNear.c17)) (innkeeplaw10_BoxesNear.c16)
def innkeeplaw10_BoxesNear.c12 : Cd := .seq (.seq (.reg false [⟨some 51, .load (.d tWorld) (.t 4), none, [], []⟩,
    ⟨some 52, .move (.t 9), none, [], []⟩,
    ⟨some 53, .move (.t 10), none, [], []⟩,
    ⟨some 54, .move (.t 11), none, [], []⟩,
    ⟨some 55, .call (.f 10) [(.t 51), (.t 52), (.t 53), (.t 54)] [.d tWorld, .d (.int .i64)] [] false, none, [], []⟩,
    ⟨some 50, .move (.t 55), none, [], []⟩,
    ⟨some 56, .extract (.t 50) 0, none, [], []⟩,
    ⟨some 57, .extract (.t 50) 1, none, [], []⟩,
    ⟨some 12, .newbox 1 tWorld [], none, [], []⟩,
    ⟨none, .store (.d tWorld) (.t 12) (.t 56), none, [], []⟩,
    ⟨some 13, .move (.t 57), none, [], []⟩]) (innkeeplaw10_BoxesNear.c15)) (innkeeplaw10_BoxesNear.c14)
def innkeeplaw10_BoxesNear.c10 : Cd := .seq (.seq (.reg false [⟨some 44, .move (.t 3), none, [], []⟩,
    ⟨some 45, .conv .i64 (.t 44), none, [], []⟩,
    ⟨some 46, .fieldAddr (.d tWorld) 3 (.t 4), none, [], []⟩,
    ⟨some 47, .load (.d (.sl tPlace)) (.t 46), none, [], []⟩,
    ⟨some 48, .len (.t 47), none, [], []⟩,
    ⟨some 49, .bin .rem (.t 45) (.t 48), none, [], []⟩,
    ⟨some 11, .move (.t 49), none, [], []⟩]) (innkeeplaw10_BoxesNear.c13)) (innkeeplaw10_BoxesNear.c12)
def innkeeplaw10_BoxesNear.c8 : Cd := .seq (.seq (.reg false [⟨some 38, .move (.t 2), none, [], []⟩,
    ⟨some 39, .conv .i64 (.t 38), none, [], []⟩,
    ⟨some 40, .fieldAddr (.d tWorld) 3 (.t 4), none, [], []⟩,
    ⟨some 41, .load (.d (.sl tPlace)) (.t 40), none, [], []⟩,
    ⟨some 42, .len (.t 41), none, [], []⟩,
    ⟨some 43, .bin .rem (.t 39) (.t 42), none, [], []⟩,
    ⟨some 10, .move (.t 43), none, [], []⟩]) (innkeeplaw10_BoxesNear.c11)) (innkeeplaw10_BoxesNear.c10)
def innkeeplaw10_BoxesNear.c1 : Cd := .seq (.seq (.reg false [⟨some 32, .move (.t 1), none, [], []⟩,
    ⟨some 33, .conv .i64 (.t 32), none, [], []⟩,
    ⟨some 34, .fieldAddr (.d tWorld) 1 (.t 4), none, [], []⟩,
    ⟨some 35, .load (.d (.sl (.int .i64))) (.t 34), none, [], []⟩,
    ⟨some 36, .len (.t 35), none, [], []⟩,
    ⟨some 37, .bin .rem (.t 33) (.t 36), none, [], []⟩,
    ⟨some 9, .move (.t 37), none, [], []⟩]) (innkeeplaw10_BoxesNear.c9)) (innkeeplaw10_BoxesNear.c8)
def innkeeplaw10_BoxesNear.c0 : Cd := .seq (.seq (.seq (.reg false [⟨some 18, .call (.f 8) [] [.d .bool] [] false, none, [], []⟩,
    ⟨some 19, .not (.t 18), none, [], []⟩,
    ⟨some 20, .move (.t 19), none, [], []⟩,
    ⟨some 21, .load (.d tWorld) (.t 4), some (20, false), [], []⟩,
    ⟨some 22, .call (.f 9) [(.t 21)] [.d .bool] [] false, some (20, false), [], []⟩,
    ⟨some 23, .not (.t 22), some (20, false), [], []⟩,
    ⟨some 24, .pick (.t 20) (.c .bool true) (.t 23), none, [], []⟩,
    ⟨some 25, .move (.t 24), none, [], []⟩,
    ⟨some 26, .fieldAddr (.d tWorld) 3 (.t 4), some (25, false), [], []⟩,
    ⟨some 27, .load (.d (.sl tPlace)) (.t 26), some (25, false), [], []⟩,
    ⟨some 28, .len (.t 27), some (25, false), [], []⟩,
    ⟨some 29, .bin .eql (.t 28) (.c (.int .i64) (0 : Int)), some (25, false), [], []⟩,
    ⟨some 30, .pick (.t 25) (.c .bool true) (.t 29), none, [], []⟩]) (innkeeplaw10_BoxesNear.c3)) (innkeeplaw10_BoxesNear.c2)) (innkeeplaw10_BoxesNear.c1)
def innkeeplaw10_BoxesNear.fn : Fn := ⟨4, [.tmp 8], .seq (.reg false [⟨some 4, .box 0 (.t 0), none, [], []⟩,
    ⟨some 8, .move (.c .bool false), none, [], []⟩]) (innkeeplaw10_BoxesNear.c0)⟩
def innkeeplaw10_BoxesErrors.c3 : Cd := .tidy [18, 19, 20, 21, 22, 23, 24, 25, 26, 27, 28, 29] [] [] none
def innkeeplaw10_BoxesErrors.c6 : Cd := .tidy [31] [] [] none
def innkeeplaw10_BoxesErrors.c5 : Cd := .ret
def innkeeplaw10_BoxesErrors.c4 : Cd := .seq (.seq (.reg false [⟨some 31, .call (.f 8) [] [.d .bool] [] false, none, [], []⟩,
    ⟨some 8, .move (.t 31), none, [], []⟩]) (innkeeplaw10_BoxesErrors.c6)) (innkeeplaw10_BoxesErrors.c5)
def innkeeplaw10_BoxesErrors.c7 : Cd := .skip
def innkeeplaw10_BoxesErrors.c2 : Cd := .cond (.t 30) (.seq (.tidy [30] [] [] none) (innkeeplaw10_BoxesErrors.c4)) (.seq (.tidy [30] [] [] none) (innkeeplaw10_BoxesErrors.c7))
def innkeeplaw10_BoxesErrors.c9 : Cd := .tidy [32, 33, 34, 35, 36, 37] [] [] none
def innkeeplaw10_BoxesErrors.c11 : Cd := .tidy [38, 39, 40, 41, 42, 43] [] [] none
def innkeeplaw10_BoxesErrors.c13 : Cd := .tidy [44, 45, 46, 47, 48, 49] [] [] none
def innkeeplaw10_BoxesErrors.c15 : Cd := .tidy [50, 51, 52, 53, 54, 55, 56, 57] [] [] none
def innkeeplaw10_BoxesErrors.c17 : Cd := .tidy [14, 58, 59, 60, 61, 62, 63, 64, 65] [] [] none
def innkeeplaw10_BoxesErrors.c20 : Cd := .tidy [66, 67, 68, 69, 70, 71, 72, 73, 74, 75, 76, 77, 78, 79, 80, 81, 82, 83, 84, 85, 86, 87, 88, 89, 90, 91, 92, 93, 94, 95, 96, 97, 98, 99, 100, 101, 102, 103, 104, 105, 106, 107, 108] [] [] none
def innkeeplaw10_BoxesErrors.c22 : Cd := .ret
def innkeeplaw10_BoxesErrors.c21 : Cd := .seq (.reg false [⟨some 8, .move (.c .bool false), none, [], []⟩]) (innkeeplaw10_BoxesErrors.c22)
def innkeeplaw10_BoxesErrors.c23 : Cd := .skip
def innkeeplaw10_BoxesErrors.c19 : Cd := .cond (.t 109) (.seq (.tidy [109] [] [] none) (innkeeplaw10_BoxesErrors.c21)) (.seq (.tidy [109] [] [] none) (innkeeplaw10_BoxesErrors.c23))
def innkeeplaw10_BoxesErrors.c25 : Cd := .tidy [110, 111] [] [] none
def innkeeplaw10_BoxesErrors.c27 : Cd := .tidy [112, 113] [] [] none
def innkeeplaw10_BoxesErrors.c29 : Cd := .tidy [114, 115, 116, 117, 118, 119, 120, 121, 122, 123, 124, 125, 126, 127, 128, 129, 130, 131, 132, 133, 134, 135] [] [] none
def innkeeplaw10_BoxesErrors.c28 : Cd := .ret
def innkeeplaw10_BoxesErrors.c26 : Cd := .seq (.seq (.reg true [⟨some 114, .move (.t 13), none, [], []⟩,
    ⟨some 115, .bin .neq (.t 114) (.c (.int .i64) (0 : Int)), none, [], []⟩,
    ⟨some 116, .move (.t 115), none, [], []⟩,
    ⟨some 117, .load (.d tWorld) (.t 12), some (116, false), [1], []⟩,
    ⟨some 118, .load (.d tPlace) (.t 16), some (116, false), [3], []⟩,
    ⟨some 119, .call (.f 22) [(.t 117), (.t 118)] [.d (.int .i64)] [] false, some (116, false), [], []⟩,
    ⟨some 120, .load (.d tWorld) (.t 4), some (116, false), [0], []⟩,
    ⟨some 121, .load (.d tPlace) (.t 16), some (116, false), [3], []⟩,
    ⟨some 122, .call (.f 22) [(.t 120), (.t 121)] [.d (.int .i64)] [] false, some (116, false), [], []⟩,
    ⟨some 123, .bin .add (.t 122) (.c (.int .i64) (1 : Int)), some (116, false), [], []⟩,
    ⟨some 124, .bin .eql (.t 119) (.t 123), some (116, false), [], []⟩,
    ⟨some 125, .move (.t 124), some (116, false), [], []⟩,
    ⟨some 126, .load (.d tWorld) (.t 12), some (125, true), [1], []⟩,
    ⟨some 127, .load (.d tPlace) (.t 17), some (125, true), [4], []⟩,
    ⟨some 128, .call (.f 22) [(.t 126), (.t 127)] [.d (.int .i64)] [] false, some (125, true), [], []⟩,
    ⟨some 129, .load (.d tWorld) (.t 4), some (125, true), [0], []⟩,
    ⟨some 130, .load (.d tPlace) (.t 17), some (125, true), [4], []⟩,
    ⟨some 131, .call (.f 22) [(.t 129), (.t 130)] [.d (.int .i64)] [] false, some (125, true), [], []⟩,
    ⟨some 132, .bin .sub (.t 131) (.c (.int .i64) (1 : Int)), some (125, true), [], []⟩,
    ⟨some 133, .bin .eql (.t 128) (.t 132), some (125, true), [], []⟩,
    ⟨some 134, .pick (.t 125) (.t 133) (.c .bool false), some (116, false), [], []⟩,
    ⟨some 135, .pick (.t 116) (.c .bool true) (.t 134), none, [], []⟩,
    ⟨some 8, .move (.t 135), none, [], []⟩]) (innkeeplaw10_BoxesErrors.c29)) (innkeeplaw10_BoxesErrors.c28)
def innkeeplaw10_BoxesErrors.c24 : Cd := .seq (.seq (.reg false [⟨some 112, .move (.t 11), none, [], []⟩,
    ⟨some 113, .build tPlace [(0, (.c (.int .i64) (2 : Int))), (1, (.t 112))] [], none, [], []⟩,
    ⟨some 17, .newbox 4 tPlace [], none, [], []⟩,
    ⟨none, .store (.d tPlace) (.t 17) (.t 113), none, [], []⟩]) (innkeeplaw10_BoxesErrors.c27)) (innkeeplaw10_BoxesErrors.c26)
def innkeeplaw10_BoxesErrors.c18 : Cd := .seq (.seq (.reg false [⟨some 110, .move (.t 9), none, [], []⟩,
    ⟨some 111, .build tPlace [(0, (.c (.int .i64) (1 : Int))), (1, (.t 110))] [], none, [], []⟩,
    ⟨some 16, .newbox 3 tPlace [], none, [], []⟩,
    ⟨none, .store (.d tPlace) (.t 16) (.t 111), none, [], []⟩]) (innkeeplaw10_BoxesErrors.c25)) (innkeeplaw10_BoxesErrors.c24)
def innkeeplaw10_BoxesErrors.c16 : Cd := .seq (.seq (.seq (.reg false [⟨some 66, .move (.t 13), none, [], []⟩,
    ⟨some 67, .bin .eql (.t 66) (.c (.int .i64) (0 : Int)), none, [], []⟩,
    ⟨some 68, .move (.t 67), none, [], []⟩,
    ⟨some 69, .fieldAddr (.d tWorld) 0 (.t 4), some (68, true), [], []⟩,
    ⟨some 70, .fieldAddr (.d tDesc) 4 (.t 69), some (68, true), [], []⟩,
    ⟨some 71, .load (.d (.sl .bool)) (.t 70), some (68, true), [], []⟩,
    ⟨some 72, .move (.t 11), some (68, true), [], []⟩,
    ⟨some 73, .index (.sl .bool) (.t 71) (.t 72), some (68, true), [], []⟩,
    ⟨some 74, .load (.d .bool) (.t 73), some (68, true), [], []⟩,
    ⟨some 75, .not (.t 74), some (68, true), [], []⟩,
    ⟨some 76, .move (.t 75), some (68, true), [], []⟩,
    ⟨some 77, .load (.d tWorld) (.t 4), some (76, false), [], []⟩,
    ⟨some 78, .move (.t 11), some (76, false), [], []⟩,
    ⟨some 79, .move (.t 10), some (76, false), [], []⟩,
    ⟨some 80, .call (.f 19) [(.t 77), (.t 78), (.t 79)] [.d .bool] [] false, some (76, false), [], []⟩,
    ⟨some 81, .pick (.t 76) (.c .bool true) (.t 80), some (68, true), [], []⟩,
    ⟨some 82, .pick (.t 68) (.t 81) (.c .bool false), none, [], []⟩,
    ⟨some 83, .move (.t 82), none, [], []⟩,
    ⟨some 84, .move (.t 15), some (83, false), [], []⟩,
    ⟨some 85, .bin .eql (.t 84) (.c (.int .i64) (0 : Int)), some (83, false), [], []⟩,
    ⟨some 86, .move (.t 85), some (83, false), [], []⟩,
    ⟨some 87, .fieldAddr (.d tWorld) 3 (.t 4), some (86, true), [], []⟩,
    ⟨some 88, .load (.d (.sl tPlace)) (.t 87), some (86, true), [], []⟩,
    ⟨some 89, .move (.t 10), some (86, true), [], []⟩,
    ⟨some 90, .index (.sl tPlace) (.t 88) (.t 89), some (86, true), [], []⟩,
    ⟨some 91, .load (.d tPlace) (.t 90), some (86, true), [], []⟩,
    ⟨some 92, .move (.t 11), some (86, true), [], []⟩,
    ⟨some 93, .build tPlace [(0, (.c (.int .i64) (2 : Int))), (1, (.t 92))] [], some (86, true), [], []⟩,
    ⟨some 94, .eqs tPlace true (.t 91) (.t 93), some (86, true), [], []⟩,
    ⟨some 95, .pick (.t 86) (.t 94) (.c .bool false), some (83, false), [], []⟩,
    ⟨some 96, .pick (.t 83) (.c .bool true) (.t 95), none, [], []⟩,
    ⟨some 97, .move (.t 96), none, [], []⟩,
    ⟨some 98, .move (.t 10), some (97, false), [], []⟩,
    ⟨some 99, .move (.t 11), some (97, false), [], []⟩,
    ⟨some 100, .bin .eql (.t 98) (.t 99), some (97, false), [], []⟩,
    ⟨some 101, .move (.t 100), some (97, false), [], []⟩,
    ⟨some 102, .move (.t 13), some (101, true), [], []⟩,
    ⟨some 103, .bin .eql (.t 102) (.c (.int .i64) (0 : Int)), some (101, true), [], []⟩,
    ⟨some 104, .move (.t 103), some (101, true), [], []⟩,
    ⟨some 105, .move (.t 15), some (104, false), [], []⟩,
    ⟨some 106, .bin .eql (.t 105) (.c (.int .i64) (0 : Int)), some (104, false), [], []⟩,
    ⟨some 107, .pick (.t 104) (.c .bool true) (.t 106), some (101, true), [], []⟩,
    ⟨some 108, .pick (.t 101) (.t 107) (.c .bool false), some (97, false), [], []⟩,
    ⟨some 109, .pick (.t 97) (.c .bool true) (.t 108), none, [], []⟩]) (innkeeplaw10_BoxesErrors.c20)) (innkeeplaw10_BoxesErrors.c19)) (innkeeplaw10_BoxesErrors.c18)
def innkeeplaw10_BoxesErrors.c14 : Cd := .seq (.seq (.reg false [⟨some 59, .load (.d tWorld) (.t 4), none, [], []⟩,
    ⟨some 60, .move (.t 9), none, [], []⟩,
    ⟨some 61, .move (.t 10), none, [], []⟩,
    ⟨some 62, .move (.t 11), none, [], []⟩,
    ⟨some 63, .call (.f 12) [(.t 59), (.t 60), (.t 61), (.t 62)] [.d tWorld, .d (.int .i64)] [] false, none, [], []⟩,
    ⟨some 58, .move (.t 63), none, [], []⟩,
    ⟨some 64, .extract (.t 58) 0, none, [], []⟩,
    ⟨some 65, .extract (.t 58) 1, none, [], []⟩,
    ⟨some 14, .newbox 2 tWorld [], none, [], []⟩,
    ⟨none, .store (.d tWorld) (.t 14) (.t 64), none, [], []⟩,
    ⟨some 15, .move (.t 65), none, [], []⟩]) (innkeeplaw10_BoxesErrors.c17)) (innkeeplaw10_BoxesErrors.c16)
def innkeeplaw10_BoxesErrors.c12 : Cd := .seq (.seq (.reg false [⟨some 51, .load (.d tWorld) (.t 4), none, [], []⟩,
    ⟨some 52, .move (.t 9), none, [], []⟩,
    ⟨some 53, .move (.t 10), none, [], []⟩,
    ⟨some 54, .move (.t 11), none, [], []⟩,
    ⟨some 55, .call (.f 10) [(.t 51), (.t 52), (.t 53), (.t 54)] [.d tWorld, .d (.int .i64)] [] false, none, [], []⟩,
    ⟨some 50, .move (.t 55), none, [], []⟩,
    ⟨some 56, .extract (.t 50) 0, none, [], []⟩,
    ⟨some 57, .extract (.t 50) 1, none, [], []⟩,
    ⟨some 12, .newbox 1 tWorld [], none, [], []⟩,
    ⟨none, .store (.d tWorld) (.t 12) (.t 56), none, [], []⟩,
    ⟨some 13, .move (.t 57), none, [], []⟩]) (innkeeplaw10_BoxesErrors.c15)) (innkeeplaw10_BoxesErrors.c14)
def innkeeplaw10_BoxesErrors.c10 : Cd := .seq (.seq (.reg false [⟨some 44, .move (.t 3), none, [], []⟩,
    ⟨some 45, .conv .i64 (.t 44), none, [], []⟩,
    ⟨some 46, .fieldAddr (.d tWorld) 3 (.t 4), none, [], []⟩,
    ⟨some 47, .load (.d (.sl tPlace)) (.t 46), none, [], []⟩,
    ⟨some 48, .len (.t 47), none, [], []⟩,
    ⟨some 49, .bin .rem (.t 45) (.t 48), none, [], []⟩,
    ⟨some 11, .move (.t 49), none, [], []⟩]) (innkeeplaw10_BoxesErrors.c13)) (innkeeplaw10_BoxesErrors.c12)
def innkeeplaw10_BoxesErrors.c8 : Cd := .seq (.seq (.reg false [⟨some 38, .move (.t 2), none, [], []⟩,
    ⟨some 39, .conv .i64 (.t 38), none, [], []⟩,
    ⟨some 40, .fieldAddr (.d tWorld) 3 (.t 4), none, [], []⟩,
    ⟨some 41, .load (.d (.sl tPlace)) (.t 40), none, [], []⟩,
    ⟨some 42, .len (.t 41), none, [], []⟩,
    ⟨some 43, .bin .rem (.t 39) (.t 42), none, [], []⟩,
    ⟨some 10, .move (.t 43), none, [], []⟩]) (innkeeplaw10_BoxesErrors.c11)) (innkeeplaw10_BoxesErrors.c10)
def innkeeplaw10_BoxesErrors.c1 : Cd := .seq (.seq (.reg false [⟨some 32, .move (.t 1), none, [], []⟩,
    ⟨some 33, .conv .i64 (.t 32), none, [], []⟩,
    ⟨some 34, .fieldAddr (.d tWorld) 1 (.t 4), none, [], []⟩,
    ⟨some 35, .load (.d (.sl (.int .i64))) (.t 34), none, [], []⟩,
    ⟨some 36, .len (.t 35), none, [], []⟩,
    ⟨some 37, .bin .rem (.t 33) (.t 36), none, [], []⟩,
    ⟨some 9, .move (.t 37), none, [], []⟩]) (innkeeplaw10_BoxesErrors.c9)) (innkeeplaw10_BoxesErrors.c8)
def innkeeplaw10_BoxesErrors.c0 : Cd := .seq (.seq (.seq (.reg false [⟨some 18, .call (.f 8) [] [.d .bool] [] false, none, [], []⟩,
    ⟨some 19, .not (.t 18), none, [], []⟩,
    ⟨some 20, .move (.t 19), none, [], []⟩,
    ⟨some 21, .load (.d tWorld) (.t 4), some (20, false), [], []⟩,
    ⟨some 22, .call (.f 9) [(.t 21)] [.d .bool] [] false, some (20, false), [], []⟩,
    ⟨some 23, .not (.t 22), some (20, false), [], []⟩,
    ⟨some 24, .pick (.t 20) (.c .bool true) (.t 23), none, [], []⟩,
    ⟨some 25, .move (.t 24), none, [], []⟩,
    ⟨some 26, .fieldAddr (.d tWorld) 3 (.t 4), some (25, false), [], []⟩,
    ⟨some 27, .load (.d (.sl tPlace)) (.t 26), some (25, false), [], []⟩,
    ⟨some 28, .len (.t 27), some (25, false), [], []⟩,
    ⟨some 29, .bin .eql (.t 28) (.c (.int .i64) (0 : Int)), some (25, false), [], []⟩,
    ⟨some 30, .pick (.t 25) (.c .bool true) (.t 29), none, [], []⟩]) (innkeeplaw10_BoxesErrors.c3)) (innkeeplaw10_BoxesErrors.c2)) (innkeeplaw10_BoxesErrors.c1)
def innkeeplaw10_BoxesErrors.fn : Fn := ⟨4, [.tmp 8], .seq (.reg false [⟨some 4, .box 0 (.t 0), none, [], []⟩,
    ⟨some 8, .move (.c .bool false), none, [], []⟩]) (innkeeplaw10_BoxesErrors.c0)⟩
def prog : FuncId → Option Fn
  | 3 => some innkeeplaw10_BoxesDo.fn
  | 4 => some innkeeplaw10_BoxesKeep.fn
  | 5 => some innkeeplaw10_BoxesHold.fn
  | 6 => some innkeeplaw10_BoxesNear.fn
  | 7 => some innkeeplaw10_BoxesErrors.fn
  | 8 => some innkeeplaw10_awake.fn
  | 9 => some innkeeplaw10_fits.fn
  | 10 => some boxes_Put.fn
  | 11 => some innkeepref10_Put.fn
  | 12 => some boxes_Take.fn
  | 13 => some innkeepref10_Take.fn
  | 14 => some innkeepref06_Same.fn
  | 15 => some boxes_Near.fn
  | 16 => some innkeepref10_Near.fn
  | 17 => some innkeepref06_Right.fn
  | 18 => some innkeepref09_Others.fn
  | 19 => some innkeepref07_Within.fn
  | 20 => some innkeepref07_Root.fn
  | 21 => some innkeepref06_Copied.fn
  | 22 => some innkeepref07_Room.fn
  | 23 => some innkeepref06_New.fn
  | 24 => some innkeepref06_Few.fn
  | 25 => some boxes_first.fn
  | 26 => some boxes_Put_1.fn
  | 27 => some boxes_none.fn
  | 28 => some boxes_Put_2.fn
  | 29 => some boxes_Put_3.fn
  | 30 => some boxes_Put_4.fn
  | 32 => some boxes_Put_5.fn
  | 33 => some tree_Depth.fn
  | 34 => some tree_Height.fn
  | 35 => some boxes_Put_6.fn
  | 36 => some tree_Room.fn
  | 37 => some hold_To.fn
  | 38 => some innkeepref10_is.fn
  | 39 => some innkeepref09_To.fn
  | 40 => some innkeepref06_Depth.fn
  | 41 => some boxes_Take_1.fn
  | 42 => some boxes_Take_2.fn
  | 43 => some boxes_Take_3.fn
  | 44 => some boxes_Take_4.fn
  | 45 => some boxes_Take_5.fn
  | 46 => some innkeepref03_Ints.fn
  | 47 => some innkeepref06_Places.fn
  | 48 => some tree_Root.fn
  | 49 => some innkeepref06_May.fn
  | 50 => some innkeepref06_in.fn
  | 51 => some innkeepref01_Is.fn
  | 52 => some innkeepref06_Many.fn
  | 53 => some innkeepref06_Cap.fn
  | 54 => some tree_up.fn
  | 56 => some tree_In.fn
  | 57 => some desc_Copy.fn
  | _ => none
end Go.Proofs.Ytlkodlblkpeofaa.Ghost
