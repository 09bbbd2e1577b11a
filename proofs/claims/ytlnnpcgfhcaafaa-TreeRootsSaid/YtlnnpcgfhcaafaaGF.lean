/- The functions as ghost code. Conditions: none; no statement is proved here. -/
import Derived.Test.YtlnnpcgfhcaafaaA1
set_option linter.unusedVariables false
set_option linter.unusedSimpArgs false
set_option linter.unusedSectionVars false
set_option linter.unnecessarySimpa false
namespace Go.Proofs.Ytlnnpcgfhcaafaa.Ghost
open Go
abbrev tboundsError : Ty := .st [(.int .i64), (.int .i64), .bool, (.int .u8)]
abbrev terrorAddressString : Ty := .st [.str, (.int .u64)]
abbrev tDesc : Ty := .st [(.sl (.arr 4 (.int .i64))), (.sl (.int .i64)), (.sl (.int .i64)), (.sl (.int .i64)), (.sl .bool), (.int .i64), (.int .i64), (.int .i64)]
abbrev tPlace : Ty := .st [(.int .i64), (.int .i64)]
abbrev tWorld : Ty := .st [tDesc, (.sl (.int .i64)), (.sl (.int .i64)), (.sl tPlace)]
abbrev tSeen : Ty := .st [(.int .i64), tPlace]
def innkeepref06_New.c2 : Cd := .tidy [5, 6] [] [] none
def innkeepref06_New.c4 : Cd := .tidy [7, 8, 9, 10, 11, 12] [] [] none
def innkeepref06_New.c6 : Cd := .tidy [13, 14, 15, 16, 17, 18] [] [] none
def innkeepref06_New.c13 : Cd := .tidy [19, 20, 21, 22] [] [] none
def innkeepref06_New.c14 : Cd := .skip
def innkeepref06_New.c18 : Cd := .exit 0
def innkeepref06_New.c12 : Cd := .cond (.t 23) (.seq (.tidy [23] [] [] none) (innkeepref06_New.c14)) (.seq (.tidy [23] [] [] none) (innkeepref06_New.c18))
def innkeepref06_New.c16 : Cd := .tidy [26, 27, 28, 29, 30, 31, 32, 33, 34, 35, 36] [] [] none
def innkeepref06_New.c17 : Cd := .tidy [24, 25] [] [] none
def innkeepref06_New.c15 : Cd := .seq (.reg false [⟨some 24, .move (.t 4), none, [], []⟩,
    ⟨some 25, .bin .add (.t 24) (.c (.int .i64) (1 : Int)), none, [], []⟩,
    ⟨some 4, .move (.t 25), none, [], []⟩]) (innkeepref06_New.c17)
def innkeepref06_New.c11 : Cd := .seq (.block 1 (.seq (.reg true [⟨some 26, .fieldAddr (.d tWorld) 3 (.t 3), none, [2], []⟩,
    ⟨some 27, .load (.d (.sl tPlace)) (.t 26), none, [2], []⟩,
    ⟨some 28, .fieldAddr (.d tDesc) 3 (.t 1), none, [0], []⟩,
    ⟨some 29, .load (.d (.sl (.int .i64))) (.t 28), none, [0], []⟩,
    ⟨some 30, .move (.t 4), none, [], []⟩,
    ⟨some 31, .index (.sl (.int .i64)) (.t 29) (.t 30), none, [], []⟩,
    ⟨some 32, .load (.d (.int .i64)) (.t 31), none, [], []⟩,
    ⟨some 33, .build tPlace [(1, (.t 32))] [], none, [], []⟩,
    ⟨some 34, .slice 5 tPlace [(.t 33)], none, [], [5]⟩,
    ⟨some 35, .append 6 tPlace (.t 27) (.t 34), none, [5], [6, 9]⟩,
    ⟨some 36, .fieldAddr (.d tWorld) 3 (.t 3), none, [2], []⟩,
    ⟨none, .store (.d (.sl tPlace)) (.t 36) (.t 35), none, [], [2]⟩]) (innkeepref06_New.c16))) (innkeepref06_New.c15)
def innkeepref06_New.c10 : Cd := .tidy [] [(6, 9)] [5] (some 10)
def innkeepref06_New.c9 : Cd := .seq (.seq (.seq (.seq (.reg false [⟨some 19, .move (.t 4), none, [], []⟩,
    ⟨some 20, .fieldAddr (.d tDesc) 3 (.t 1), none, [], []⟩,
    ⟨some 21, .load (.d (.sl (.int .i64))) (.t 20), none, [], []⟩,
    ⟨some 22, .len (.t 21), none, [], []⟩,
    ⟨some 23, .bin .lss (.t 19) (.t 22), none, [], []⟩]) (innkeepref06_New.c13)) (innkeepref06_New.c12)) (innkeepref06_New.c11)) (innkeepref06_New.c10)
def innkeepref06_New.c8 : Cd := .block 0 (.loop (innkeepref06_New.c9))
def innkeepref06_New.c20 : Cd := .tidy [37] [] [] none
def innkeepref06_New.c19 : Cd := .ret
def innkeepref06_New.c7 : Cd := .seq (.seq (.reg false [⟨some 37, .load (.d tWorld) (.t 3), none, [], []⟩,
    ⟨none, .store (.d tWorld) (.t 2) (.t 37), none, [], []⟩]) (innkeepref06_New.c20)) (innkeepref06_New.c19)
def innkeepref06_New.c5 : Cd := .seq (.seq (.reg false [⟨some 4, .move (.c (.int .i64) (0 : Int)), none, [], []⟩]) (innkeepref06_New.c8)) (innkeepref06_New.c7)
def innkeepref06_New.c3 : Cd := .seq (.seq (.reg false [⟨some 13, .fieldAddr (.d tWorld) 2 (.t 3), none, [], []⟩,
    ⟨some 14, .load (.d (.sl (.int .i64))) (.t 13), none, [], []⟩,
    ⟨some 15, .fieldAddr (.d tDesc) 2 (.t 1), none, [], []⟩,
    ⟨some 16, .load (.d (.sl (.int .i64))) (.t 15), none, [], []⟩,
    ⟨some 17, .append 4 (.int .i64) (.t 14) (.t 16), none, [], []⟩,
    ⟨some 18, .fieldAddr (.d tWorld) 2 (.t 3), none, [], []⟩,
    ⟨none, .store (.d (.sl (.int .i64))) (.t 18) (.t 17), none, [], []⟩]) (innkeepref06_New.c6)) (innkeepref06_New.c5)
def innkeepref06_New.c1 : Cd := .seq (.seq (.reg false [⟨some 7, .fieldAddr (.d tWorld) 1 (.t 3), none, [], []⟩,
    ⟨some 8, .load (.d (.sl (.int .i64))) (.t 7), none, [], []⟩,
    ⟨some 9, .fieldAddr (.d tDesc) 1 (.t 1), none, [], []⟩,
    ⟨some 10, .load (.d (.sl (.int .i64))) (.t 9), none, [], []⟩,
    ⟨some 11, .append 3 (.int .i64) (.t 8) (.t 10), none, [], []⟩,
    ⟨some 12, .fieldAddr (.d tWorld) 1 (.t 3), none, [], []⟩,
    ⟨none, .store (.d (.sl (.int .i64))) (.t 12) (.t 11), none, [], []⟩]) (innkeepref06_New.c4)) (innkeepref06_New.c3)
def innkeepref06_New.c0 : Cd := .seq (.seq (.reg false [⟨some 5, .load (.d tDesc) (.t 1), none, [], []⟩,
    ⟨some 6, .build tWorld [(0, (.t 5))] [([1], 7), ([2], 8), ([3], 9)], none, [], []⟩,
    ⟨some 3, .newbox 2 tWorld [], none, [], []⟩,
    ⟨none, .store (.d tWorld) (.t 3) (.t 6), none, [], []⟩]) (innkeepref06_New.c2)) (innkeepref06_New.c1)
def innkeepref06_New.fn : Fn := ⟨1, [.cell 2 (.d tWorld)], .seq (.reg false [⟨some 1, .box 0 (.t 0), none, [], []⟩,
    ⟨some 2, .newbox 1 tWorld [], none, [], []⟩]) (innkeepref06_New.c0)⟩
def tree_up.c2 : Cd := .tidy [5] [] [] none
def tree_up.c1 : Cd := .ret
def tree_up.c0 : Cd := .seq (.seq (.reg false [⟨some 5, .func 42 [(.t 2), (.t 3)], none, [], []⟩,
    ⟨some 4, .move (.t 5), none, [], []⟩]) (tree_up.c2)) (tree_up.c1)
def tree_up.fn : Fn := ⟨2, [.tmp 4], .seq (.reg false [⟨some 2, .box 0 (.t 0), none, [], []⟩,
    ⟨some 3, .box 1 (.t 1), none, [], []⟩,
    ⟨some 4, .move .nf, none, [], []⟩]) (tree_up.c0)⟩
def tree_Root.c2 : Cd := .tidy [6, 7, 8, 9] [] [] none
def tree_Root.c4 : Cd := .tidy [10, 11, 12, 13, 14, 15] [] [] none
def tree_Root.c3 : Cd := .ret
def tree_Root.c1 : Cd := .seq (.seq (.reg false [⟨some 10, .move (.t 5), none, [], []⟩,
    ⟨some 11, .move (.t 5), none, [], []⟩,
    ⟨some 12, .len (.t 11), none, [], []⟩,
    ⟨some 13, .bin .sub (.t 12) (.c (.int .i64) (1 : Int)), none, [], []⟩,
    ⟨some 14, .index (.sl tPlace) (.t 10) (.t 13), none, [], []⟩,
    ⟨some 15, .load (.d tPlace) (.t 14), none, [], []⟩,
    ⟨none, .store (.d tPlace) (.t 4) (.t 15), none, [], []⟩]) (tree_Root.c4)) (tree_Root.c3)
def tree_Root.c0 : Cd := .seq (.seq (.reg false [⟨some 6, .load (.d tWorld) (.t 2), none, [], []⟩,
    ⟨some 7, .move (.t 1), none, [], []⟩,
    ⟨some 8, .call (.f 35) [(.t 6), (.t 7)] [.clo 42 [.ref tWorld, .ref (.int .i64)]] [] false, none, [], []⟩,
    ⟨some 9, .call (.f 34) [(.t 8)] [.d (.sl tPlace)] [] false, none, [], []⟩,
    ⟨some 5, .move (.t 9), none, [], []⟩]) (tree_Root.c2)) (tree_Root.c1)
def tree_Root.fn : Fn := ⟨2, [.cell 4 (.d tPlace)], .seq (.reg false [⟨some 2, .box 0 (.t 0), none, [], []⟩,
    ⟨some 4, .newbox 1 tPlace [], none, [], []⟩]) (tree_Root.c0)⟩
def tree_Under.c4 : Cd := .tidy [8] [] [] none
def tree_Under.c9 : Cd := .skip
def tree_Under.c19 : Cd := .exit 0
def tree_Under.c12 : Cd := .tidy [13, 14, 15] [] [] none
def tree_Under.c14 : Cd := .tidy [16, 17, 18, 19] [] [] none
def tree_Under.c16 : Cd := .tidy [21, 22, 23, 24, 25, 26] [] [] none
def tree_Under.c15 : Cd := .seq (.reg false [⟨some 21, .move (.t 5), none, [], []⟩,
    ⟨some 22, .move (.t 6), none, [], []⟩,
    ⟨some 23, .load (.d tPlace) (.t 7), none, [], []⟩,
    ⟨some 24, .build tSeen [(0, (.t 22)), (1, (.t 23))] [], none, [], []⟩,
    ⟨some 25, .slice 3 tSeen [(.t 24)], none, [], []⟩,
    ⟨some 26, .append 4 tSeen (.t 21) (.t 25), none, [], []⟩,
    ⟨some 5, .move (.t 26), none, [], []⟩]) (tree_Under.c16)
def tree_Under.c18 : Cd := .skip
def tree_Under.c13 : Cd := .cond (.t 20) (.seq (.tidy [20] [] [] none) (tree_Under.c15)) (.seq (.tidy [20] [] [] none) (tree_Under.c18))
def tree_Under.c11 : Cd := .seq (.seq (.reg true [⟨some 16, .load (.d tWorld) (.t 2), none, [0], []⟩,
    ⟨some 17, .move (.t 6), none, [], []⟩,
    ⟨some 18, .call (.f 19) [(.t 16), (.t 17)] [.d tPlace] [] false, none, [], []⟩,
    ⟨some 19, .load (.d tPlace) (.t 3), none, [1], []⟩,
    ⟨some 20, .eqs tPlace false (.t 18) (.t 19), none, [], []⟩]) (tree_Under.c14)) (tree_Under.c13)
def tree_Under.c17 : Cd := .tidy [27] [] [] none
def tree_Under.c10 : Cd := .seq (.reg false [⟨some 27, .bin .add (.t 11) (.c (.int .i64) (1 : Int)), none, [], []⟩,
    ⟨some 11, .move (.t 27), none, [], []⟩]) (tree_Under.c17)
def tree_Under.c8 : Cd := .seq (.block 1 (.seq (.seq (.reg false [⟨some 13, .move (.t 11), none, [], []⟩,
    ⟨some 14, .index (.sl tPlace) (.t 9) (.t 11), none, [], []⟩,
    ⟨some 15, .load (.d tPlace) (.t 14), none, [], []⟩,
    ⟨some 7, .newbox 2 tPlace [], none, [], []⟩,
    ⟨some 6, .move (.t 13), none, [], []⟩,
    ⟨none, .store (.d tPlace) (.t 7) (.t 15), none, [], []⟩]) (tree_Under.c12)) (tree_Under.c11))) (tree_Under.c10)
def tree_Under.c7 : Cd := .seq (.cond (.t 12) (.seq (.tidy [12] [] [] none) (tree_Under.c9)) (.seq (.tidy [12] [] [] none) (tree_Under.c19))) (tree_Under.c8)
def tree_Under.c6 : Cd := .tidy [6, 7] [(4, 5)] [2, 3] (some 6)
def tree_Under.c5 : Cd := .seq (.seq (.reg false [⟨some 12, .bin .lss (.t 11) (.t 10), none, [], []⟩]) (tree_Under.c7)) (tree_Under.c6)
def tree_Under.c3 : Cd := .block 0 (.loop (tree_Under.c5))
def tree_Under.c21 : Cd := .tidy [28] [] [] none
def tree_Under.c20 : Cd := .ret
def tree_Under.c2 : Cd := .seq (.seq (.reg false [⟨some 28, .move (.t 5), none, [], []⟩,
    ⟨some 4, .move (.t 28), none, [], []⟩]) (tree_Under.c21)) (tree_Under.c20)
def tree_Under.c1 : Cd := .seq (.seq (.seq (.reg false [⟨some 8, .fieldAddr (.d tWorld) 3 (.t 2), none, [], []⟩,
    ⟨some 9, .load (.d (.sl tPlace)) (.t 8), none, [], []⟩,
    ⟨some 10, .len (.t 9), none, [], []⟩,
    ⟨some 11, .move (.c (.int .i64) (0 : Int)), none, [], []⟩]) (tree_Under.c4)) (tree_Under.c3)) (tree_Under.c2)
def tree_Under.c0 : Cd := .seq (.reg false [⟨some 5, .mknil 5 tSeen, none, [], []⟩]) (tree_Under.c1)
def tree_Under.fn : Fn := ⟨2, [.tmp 4], .seq (.reg false [⟨some 2, .box 0 (.t 0), none, [], []⟩,
    ⟨some 3, .box 1 (.t 1), none, [], []⟩,
    ⟨some 4, .move (.c (.sl tSeen) []), none, [], []⟩]) (tree_Under.c0)⟩
def tree_Depth.c2 : Cd := .tidy [5, 6, 7, 8, 9, 10] [] [] none
def tree_Depth.c1 : Cd := .ret
def tree_Depth.c0 : Cd := .seq (.seq (.reg false [⟨some 5, .load (.d tWorld) (.t 2), none, [], []⟩,
    ⟨some 6, .move (.t 1), none, [], []⟩,
    ⟨some 7, .call (.f 35) [(.t 5), (.t 6)] [.clo 42 [.ref tWorld, .ref (.int .i64)]] [] false, none, [], []⟩,
    ⟨some 8, .call (.f 34) [(.t 7)] [.d (.sl tPlace)] [] false, none, [], []⟩,
    ⟨some 9, .len (.t 8), none, [], []⟩,
    ⟨some 10, .bin .sub (.t 9) (.c (.int .i64) (1 : Int)), none, [], []⟩,
    ⟨some 4, .move (.t 10), none, [], []⟩]) (tree_Depth.c2)) (tree_Depth.c1)
def tree_Depth.fn : Fn := ⟨2, [.tmp 4], .seq (.reg false [⟨some 2, .box 0 (.t 0), none, [], []⟩,
    ⟨some 4, .move (.c (.int .i64) (0 : Int)), none, [], []⟩]) (tree_Depth.c0)⟩
def tree_Height.c4 : Cd := .tidy [7, 8] [] [] none
def tree_Height.c9 : Cd := .skip
def tree_Height.c19 : Cd := .exit 0
def tree_Height.c12 : Cd := .tidy [12] [] [] none
def tree_Height.c14 : Cd := .tidy [13, 14, 15] [] [] none
def tree_Height.c16 : Cd := .tidy [17, 18, 19, 20, 21, 22, 23, 24, 25] [] [] none
def tree_Height.c15 : Cd := .seq (.reg true [⟨some 17, .move (.t 5), none, [], []⟩,
    ⟨some 18, .load (.d tWorld) (.t 2), none, [0], []⟩,
    ⟨some 19, .move (.t 6), none, [], []⟩,
    ⟨some 20, .call (.f 21) [(.t 18), (.t 19)] [.d (.int .i64)] [] false, none, [], []⟩,
    ⟨some 21, .load (.d tWorld) (.t 2), none, [0], []⟩,
    ⟨some 22, .move (.t 1), none, [], []⟩,
    ⟨some 23, .call (.f 21) [(.t 21), (.t 22)] [.d (.int .i64)] [] false, none, [], []⟩,
    ⟨some 24, .bin .sub (.t 20) (.t 23), none, [], []⟩,
    ⟨some 25, .max [(.t 17), (.t 24)], none, [], []⟩,
    ⟨some 5, .move (.t 25), none, [], []⟩]) (tree_Height.c16)
def tree_Height.c18 : Cd := .skip
def tree_Height.c13 : Cd := .cond (.t 16) (.seq (.tidy [16] [] [] none) (tree_Height.c15)) (.seq (.tidy [16] [] [] none) (tree_Height.c18))
def tree_Height.c11 : Cd := .seq (.seq (.reg false [⟨some 13, .load (.d tWorld) (.t 2), none, [], []⟩,
    ⟨some 14, .move (.t 6), none, [], []⟩,
    ⟨some 15, .move (.t 1), none, [], []⟩,
    ⟨some 16, .call (.f 25) [(.t 13), (.t 14), (.t 15)] [.d .bool] [] false, none, [], []⟩]) (tree_Height.c14)) (tree_Height.c13)
def tree_Height.c17 : Cd := .tidy [26] [] [] none
def tree_Height.c10 : Cd := .seq (.reg false [⟨some 26, .bin .add (.t 10) (.c (.int .i64) (1 : Int)), none, [], []⟩,
    ⟨some 10, .move (.t 26), none, [], []⟩]) (tree_Height.c17)
def tree_Height.c8 : Cd := .seq (.block 1 (.seq (.seq (.reg false [⟨some 12, .move (.t 10), none, [], []⟩,
    ⟨some 6, .move (.t 12), none, [], []⟩]) (tree_Height.c12)) (tree_Height.c11))) (tree_Height.c10)
def tree_Height.c7 : Cd := .seq (.cond (.t 11) (.seq (.tidy [11] [] [] none) (tree_Height.c9)) (.seq (.tidy [11] [] [] none) (tree_Height.c19))) (tree_Height.c8)
def tree_Height.c6 : Cd := .tidy [6] [] [] (some 1)
def tree_Height.c5 : Cd := .seq (.seq (.reg false [⟨some 11, .bin .lss (.t 10) (.t 9), none, [], []⟩]) (tree_Height.c7)) (tree_Height.c6)
def tree_Height.c3 : Cd := .block 0 (.loop (tree_Height.c5))
def tree_Height.c21 : Cd := .tidy [27] [] [] none
def tree_Height.c20 : Cd := .ret
def tree_Height.c2 : Cd := .seq (.seq (.reg false [⟨some 27, .move (.t 5), none, [], []⟩,
    ⟨some 4, .move (.t 27), none, [], []⟩]) (tree_Height.c21)) (tree_Height.c20)
def tree_Height.c1 : Cd := .seq (.seq (.seq (.reg false [⟨some 7, .fieldAddr (.d tWorld) 3 (.t 2), none, [], []⟩,
    ⟨some 8, .load (.d (.sl tPlace)) (.t 7), none, [], []⟩,
    ⟨some 9, .len (.t 8), none, [], []⟩,
    ⟨some 10, .move (.c (.int .i64) (0 : Int)), none, [], []⟩]) (tree_Height.c4)) (tree_Height.c3)) (tree_Height.c2)
def tree_Height.c0 : Cd := .seq (.reg false [⟨some 5, .move (.c (.int .i64) (0 : Int)), none, [], []⟩]) (tree_Height.c1)
def tree_Height.fn : Fn := ⟨2, [.tmp 4], .seq (.reg false [⟨some 2, .box 0 (.t 0), none, [], []⟩,
    ⟨some 4, .move (.c (.int .i64) (0 : Int)), none, [], []⟩]) (tree_Height.c0)⟩
def tree_In.c4 : Cd := .tidy [8] [] [] none
def tree_In.c9 : Cd := .skip
def tree_In.c19 : Cd := .exit 0
def tree_In.c12 : Cd := .tidy [13, 14, 15] [] [] none
def tree_In.c14 : Cd := .tidy [16, 17] [] [] none
def tree_In.c16 : Cd := .tidy [19, 20, 21, 22] [] [] none
def tree_In.c15 : Cd := .seq (.reg false [⟨some 19, .move (.t 5), none, [], []⟩,
    ⟨some 20, .move (.t 6), none, [], []⟩,
    ⟨some 21, .slice 3 (.int .i64) [(.t 20)], none, [], []⟩,
    ⟨some 22, .append 4 (.int .i64) (.t 19) (.t 21), none, [], []⟩,
    ⟨some 5, .move (.t 22), none, [], []⟩]) (tree_In.c16)
def tree_In.c18 : Cd := .skip
def tree_In.c13 : Cd := .cond (.t 18) (.seq (.tidy [18] [] [] none) (tree_In.c15)) (.seq (.tidy [18] [] [] none) (tree_In.c18))
def tree_In.c11 : Cd := .seq (.seq (.reg false [⟨some 16, .load (.d tPlace) (.t 3), none, [], []⟩,
    ⟨some 17, .load (.d tPlace) (.t 7), none, [], []⟩,
    ⟨some 18, .eqs tPlace false (.t 16) (.t 17), none, [], []⟩]) (tree_In.c14)) (tree_In.c13)
def tree_In.c17 : Cd := .tidy [23] [] [] none
def tree_In.c10 : Cd := .seq (.reg false [⟨some 23, .bin .add (.t 11) (.c (.int .i64) (1 : Int)), none, [], []⟩,
    ⟨some 11, .move (.t 23), none, [], []⟩]) (tree_In.c17)
def tree_In.c8 : Cd := .seq (.block 1 (.seq (.seq (.reg false [⟨some 13, .move (.t 11), none, [], []⟩,
    ⟨some 14, .index (.sl tPlace) (.t 9) (.t 11), none, [], []⟩,
    ⟨some 15, .load (.d tPlace) (.t 14), none, [], []⟩,
    ⟨some 7, .newbox 2 tPlace [], none, [], []⟩,
    ⟨some 6, .move (.t 13), none, [], []⟩,
    ⟨none, .store (.d tPlace) (.t 7) (.t 15), none, [], []⟩]) (tree_In.c12)) (tree_In.c11))) (tree_In.c10)
def tree_In.c7 : Cd := .seq (.cond (.t 12) (.seq (.tidy [12] [] [] none) (tree_In.c9)) (.seq (.tidy [12] [] [] none) (tree_In.c19))) (tree_In.c8)
def tree_In.c6 : Cd := .tidy [6, 7] [(4, 5)] [2, 3] (some 6)
def tree_In.c5 : Cd := .seq (.seq (.reg false [⟨some 12, .bin .lss (.t 11) (.t 10), none, [], []⟩]) (tree_In.c7)) (tree_In.c6)
def tree_In.c3 : Cd := .block 0 (.loop (tree_In.c5))
def tree_In.c21 : Cd := .tidy [24] [] [] none
def tree_In.c20 : Cd := .ret
def tree_In.c2 : Cd := .seq (.seq (.reg false [⟨some 24, .move (.t 5), none, [], []⟩,
    ⟨some 4, .move (.t 24), none, [], []⟩]) (tree_In.c21)) (tree_In.c20)
def tree_In.c1 : Cd := .seq (.seq (.seq (.reg false [⟨some 8, .fieldAddr (.d tWorld) 3 (.t 2), none, [], []⟩,
    ⟨some 9, .load (.d (.sl tPlace)) (.t 8), none, [], []⟩,
    ⟨some 10, .len (.t 9), none, [], []⟩,
    ⟨some 11, .move (.c (.int .i64) (0 : Int)), none, [], []⟩]) (tree_In.c4)) (tree_In.c3)) (tree_In.c2)
def tree_In.c0 : Cd := .seq (.reg false [⟨some 5, .mknil 5 (.int .i64), none, [], []⟩]) (tree_In.c1)
def tree_In.fn : Fn := ⟨2, [.tmp 4], .seq (.reg false [⟨some 2, .box 0 (.t 0), none, [], []⟩,
    ⟨some 3, .box 1 (.t 1), none, [], []⟩,
    ⟨some 4, .move (.c (.sl (.int .i64)) []), none, [], []⟩]) (tree_In.c0)⟩
def innkeepref03_Ints.c3 : Cd := .tidy [6, 7, 8, 9] [] [] none
def innkeepref03_Ints.c5 : Cd := .ret
def innkeepref03_Ints.c4 : Cd := .seq (.reg false [⟨some 4, .move (.c .bool false), none, [], []⟩]) (innkeepref03_Ints.c5)
def innkeepref03_Ints.c6 : Cd := .skip
def innkeepref03_Ints.c2 : Cd := .cond (.t 10) (.seq (.tidy [10] [] [] none) (innkeepref03_Ints.c4)) (.seq (.tidy [10] [] [] none) (innkeepref03_Ints.c6))
def innkeepref03_Ints.c13 : Cd := .tidy [11, 12, 13] [] [] none
def innkeepref03_Ints.c14 : Cd := .skip
def innkeepref03_Ints.c22 : Cd := .exit 0
def innkeepref03_Ints.c12 : Cd := .cond (.t 14) (.seq (.tidy [14] [] [] none) (innkeepref03_Ints.c14)) (.seq (.tidy [14] [] [] none) (innkeepref03_Ints.c22))
def innkeepref03_Ints.c17 : Cd := .tidy [17, 18, 19, 20, 21, 22, 23, 24] [] [] none
def innkeepref03_Ints.c19 : Cd := .ret
def innkeepref03_Ints.c18 : Cd := .seq (.reg false [⟨some 4, .move (.c .bool false), none, [], []⟩]) (innkeepref03_Ints.c19)
def innkeepref03_Ints.c20 : Cd := .skip
def innkeepref03_Ints.c16 : Cd := .cond (.t 25) (.seq (.tidy [25] [] [] none) (innkeepref03_Ints.c18)) (.seq (.tidy [25] [] [] none) (innkeepref03_Ints.c20))
def innkeepref03_Ints.c21 : Cd := .tidy [15, 16] [] [] none
def innkeepref03_Ints.c15 : Cd := .seq (.reg false [⟨some 15, .move (.t 5), none, [], []⟩,
    ⟨some 16, .bin .add (.t 15) (.c (.int .i64) (1 : Int)), none, [], []⟩,
    ⟨some 5, .move (.t 16), none, [], []⟩]) (innkeepref03_Ints.c21)
def innkeepref03_Ints.c11 : Cd := .seq (.block 1 (.seq (.seq (.reg true [⟨some 17, .move (.t 0), none, [], []⟩,
    ⟨some 18, .move (.t 5), none, [], []⟩,
    ⟨some 19, .index (.sl (.int .i64)) (.t 17) (.t 18), none, [], []⟩,
    ⟨some 20, .load (.d (.int .i64)) (.t 19), none, [], []⟩,
    ⟨some 21, .move (.t 1), none, [], []⟩,
    ⟨some 22, .move (.t 5), none, [], []⟩,
    ⟨some 23, .index (.sl (.int .i64)) (.t 21) (.t 22), none, [], []⟩,
    ⟨some 24, .load (.d (.int .i64)) (.t 23), none, [], []⟩,
    ⟨some 25, .bin .neq (.t 20) (.t 24), none, [], []⟩]) (innkeepref03_Ints.c17)) (innkeepref03_Ints.c16))) (innkeepref03_Ints.c15)
def innkeepref03_Ints.c10 : Cd := .tidy [] [] [] (some 0)
def innkeepref03_Ints.c9 : Cd := .seq (.seq (.seq (.seq (.reg false [⟨some 11, .move (.t 5), none, [], []⟩,
    ⟨some 12, .move (.t 0), none, [], []⟩,
    ⟨some 13, .len (.t 12), none, [], []⟩,
    ⟨some 14, .bin .lss (.t 11) (.t 13), none, [], []⟩]) (innkeepref03_Ints.c13)) (innkeepref03_Ints.c12)) (innkeepref03_Ints.c11)) (innkeepref03_Ints.c10)
def innkeepref03_Ints.c8 : Cd := .block 0 (.loop (innkeepref03_Ints.c9))
def innkeepref03_Ints.c23 : Cd := .ret
def innkeepref03_Ints.c7 : Cd := .seq (.reg false [⟨some 4, .move (.c .bool true), none, [], []⟩]) (innkeepref03_Ints.c23)
def innkeepref03_Ints.c1 : Cd := .seq (.seq (.reg false [⟨some 5, .move (.c (.int .i64) (0 : Int)), none, [], []⟩]) (innkeepref03_Ints.c8)) (innkeepref03_Ints.c7)
def innkeepref03_Ints.c0 : Cd := .seq (.seq (.seq (.reg false [⟨some 6, .move (.t 0), none, [], []⟩,
    ⟨some 7, .len (.t 6), none, [], []⟩,
    ⟨some 8, .move (.t 1), none, [], []⟩,
    ⟨some 9, .len (.t 8), none, [], []⟩,
    ⟨some 10, .bin .neq (.t 7) (.t 9), none, [], []⟩]) (innkeepref03_Ints.c3)) (innkeepref03_Ints.c2)) (innkeepref03_Ints.c1)
def innkeepref03_Ints.fn : Fn := ⟨2, [.tmp 4], .seq (.reg false [⟨some 4, .move (.c .bool false), none, [], []⟩]) (innkeepref03_Ints.c0)⟩
def tree_Room.c2 : Cd := .tidy [6, 7, 8, 9, 10, 11, 12, 13, 14, 15] [] [] none
def tree_Room.c4 : Cd := .tidy [16, 17, 18, 19, 20, 21, 22, 23, 24] [] [] none
def tree_Room.c3 : Cd := .ret
def tree_Room.c1 : Cd := .seq (.seq (.reg true [⟨some 16, .fieldAddr (.d tPlace) 0 (.t 3), none, [1], []⟩,
    ⟨some 17, .load (.d (.int .i64)) (.t 16), none, [1], []⟩,
    ⟨some 18, .index (.arr 3 (.int .i64)) (.t 5) (.t 17), none, [2], []⟩,
    ⟨some 19, .load (.d (.int .i64)) (.t 18), none, [2], []⟩,
    ⟨some 20, .load (.d tWorld) (.t 2), none, [0], []⟩,
    ⟨some 21, .load (.d tPlace) (.t 3), none, [1], []⟩,
    ⟨some 22, .call (.f 12) [(.t 20), (.t 21)] [.d (.sl (.int .i64))] [] false, none, [], []⟩,
    ⟨some 23, .len (.t 22), none, [], []⟩,
    ⟨some 24, .bin .sub (.t 19) (.t 23), none, [], []⟩,
    ⟨some 4, .move (.t 24), none, [], []⟩]) (tree_Room.c4)) (tree_Room.c3)
def tree_Room.c0 : Cd := .seq (.seq (.reg false [⟨some 6, .fieldAddr (.d tWorld) 0 (.t 2), none, [], []⟩,
    ⟨some 7, .fieldAddr (.d tDesc) 5 (.t 6), none, [], []⟩,
    ⟨some 8, .load (.d (.int .i64)) (.t 7), none, [], []⟩,
    ⟨some 9, .fieldAddr (.d tWorld) 0 (.t 2), none, [], []⟩,
    ⟨some 10, .fieldAddr (.d tDesc) 6 (.t 9), none, [], []⟩,
    ⟨some 11, .load (.d (.int .i64)) (.t 10), none, [], []⟩,
    ⟨some 12, .fieldAddr (.d tWorld) 0 (.t 2), none, [], []⟩,
    ⟨some 13, .fieldAddr (.d tDesc) 7 (.t 12), none, [], []⟩,
    ⟨some 14, .load (.d (.int .i64)) (.t 13), none, [], []⟩,
    ⟨some 15, .build (.arr 3 (.int .i64)) [(0, (.t 8)), (1, (.t 11)), (2, (.t 14))] [], none, [], []⟩,
    ⟨some 5, .newbox 2 (.arr 3 (.int .i64)) [], none, [], []⟩,
    ⟨none, .store (.d (.arr 3 (.int .i64))) (.t 5) (.t 15), none, [], []⟩]) (tree_Room.c2)) (tree_Room.c1)
def tree_Room.fn : Fn := ⟨2, [.tmp 4], .seq (.reg false [⟨some 2, .box 0 (.t 0), none, [], []⟩,
    ⟨some 3, .box 1 (.t 1), none, [], []⟩,
    ⟨some 4, .move (.c (.int .i64) (0 : Int)), none, [], []⟩]) (tree_Room.c0)⟩
def innkeeplaw07_awake.c2 : Cd := .tidy [4, 5, 6, 7, 8, 9, 10] [] [] none
def innkeeplaw07_awake.c4 : Cd := .tidy [11, 12, 13, 14] [] [] none
def innkeeplaw07_awake.c6 : Cd := .tidy [15, 16, 17, 18] [] [] none
def innkeeplaw07_awake.c8 : Cd := .tidy [19] [] [] none
def innkeeplaw07_awake.c10 : Cd := .tidy [20, 21, 22] [] [] none
def innkeeplaw07_awake.c12 : Cd := .tidy [23, 24, 25, 26, 27, 28, 29, 30, 31, 32, 33, 34, 35, 36, 37, 38, 39, 40, 41, 42, 43, 44, 45, 46, 47, 48, 49, 50, 51, 52, 53, 54, 55, 56, 57, 58, 59, 60, 61, 62, 63, 64, 65, 66, 67, 68, 69, 70, 71, 72, 73, 74, 75, 76, 77, 78, 79, 80, 81, 82, 83, 84, 85, 86] [] [] none
def innkeeplaw07_awake.c11 : Cd := .ret
def innkeeplaw07_awake.c9 : Cd := .seq (.seq (.reg true [⟨some 23, .load (.d tWorld) (.t 1), none, [5], []⟩,
    ⟨some 24, .call (.f 19) [(.t 23), (.c (.int .i64) (1 : Int))] [.d tPlace] [] false, none, [8], []⟩,
    ⟨some 25, .load (.d tPlace) (.t 2), none, [6], []⟩,
    ⟨some 26, .eqs tPlace false (.t 24) (.t 25), none, [], []⟩,
    ⟨some 27, .move (.t 26), none, [], []⟩,
    ⟨some 28, .load (.d tWorld) (.t 1), some (27, true), [5], []⟩,
    ⟨some 29, .call (.f 21) [(.t 28), (.c (.int .i64) (1 : Int))] [.d (.int .i64)] [] false, some (27, true), [8], []⟩,
    ⟨some 30, .bin .eql (.t 29) (.c (.int .i64) (1 : Int)), some (27, true), [], []⟩,
    ⟨some 31, .pick (.t 27) (.t 30) (.c .bool false), none, [], []⟩,
    ⟨some 32, .move (.t 31), none, [], []⟩,
    ⟨some 33, .load (.d tWorld) (.t 1), some (32, true), [5], []⟩,
    ⟨some 34, .call (.f 21) [(.t 33), (.c (.int .i64) (0 : Int))] [.d (.int .i64)] [] false, some (32, true), [8], []⟩,
    ⟨some 35, .bin .eql (.t 34) (.c (.int .i64) (0 : Int)), some (32, true), [], []⟩,
    ⟨some 36, .pick (.t 32) (.t 35) (.c .bool false), none, [], []⟩,
    ⟨some 37, .move (.t 36), none, [], []⟩,
    ⟨some 38, .load (.d tWorld) (.t 1), some (37, true), [5], []⟩,
    ⟨some 39, .call (.f 23) [(.t 38), (.c (.int .i64) (0 : Int))] [.d (.int .i64)] [] false, some (37, true), [8], []⟩,
    ⟨some 40, .bin .eql (.t 39) (.c (.int .i64) (1 : Int)), some (37, true), [], []⟩,
    ⟨some 41, .pick (.t 37) (.t 40) (.c .bool false), none, [], []⟩,
    ⟨some 42, .move (.t 41), none, [], []⟩,
    ⟨some 43, .load (.d tWorld) (.t 1), some (42, true), [5], []⟩,
    ⟨some 44, .call (.f 25) [(.t 43), (.c (.int .i64) (1 : Int)), (.c (.int .i64) (0 : Int))] [.d .bool] [] false, some (42, true), [8], []⟩,
    ⟨some 45, .pick (.t 42) (.t 44) (.c .bool false), none, [], []⟩,
    ⟨some 46, .move (.t 45), none, [], []⟩,
    ⟨some 47, .load (.d tWorld) (.t 1), some (46, true), [5], []⟩,
    ⟨some 48, .call (.f 25) [(.t 47), (.c (.int .i64) (0 : Int)), (.c (.int .i64) (1 : Int))] [.d .bool] [] false, some (46, true), [8], []⟩,
    ⟨some 49, .not (.t 48), some (46, true), [], []⟩,
    ⟨some 50, .pick (.t 46) (.t 49) (.c .bool false), none, [], []⟩,
    ⟨some 51, .move (.t 50), none, [], []⟩,
    ⟨some 52, .load (.d tWorld) (.t 1), some (51, true), [5], []⟩,
    ⟨some 53, .call (.f 25) [(.t 52), (.c (.int .i64) (2 : Int)), (.c (.int .i64) (2 : Int))] [.d .bool] [] false, some (51, true), [8], []⟩,
    ⟨some 54, .pick (.t 51) (.t 53) (.c .bool false), none, [], []⟩,
    ⟨some 55, .move (.t 54), none, [], []⟩,
    ⟨some 56, .move (.t 3), some (55, true), [], []⟩,
    ⟨some 57, .len (.t 56), some (55, true), [], []⟩,
    ⟨some 58, .bin .eql (.t 57) (.c (.int .i64) (2 : Int)), some (55, true), [], []⟩,
    ⟨some 59, .pick (.t 55) (.t 58) (.c .bool false), none, [], []⟩,
    ⟨some 60, .move (.t 59), none, [], []⟩,
    ⟨some 61, .move (.t 3), some (60, true), [], []⟩,
    ⟨some 62, .index (.sl tSeen) (.t 61) (.c (.int .i64) (1 : Int)), some (60, true), [], []⟩,
    ⟨some 63, .load (.d tSeen) (.t 62), some (60, true), [], []⟩,
    ⟨some 64, .build tPlace [(0, (.c (.int .i64) (2 : Int)))] [], some (60, true), [], []⟩,
    ⟨some 65, .build tSeen [(0, (.c (.int .i64) (1 : Int))), (1, (.t 64))] [], some (60, true), [], []⟩,
    ⟨some 66, .eqs tSeen false (.t 63) (.t 65), some (60, true), [], []⟩,
    ⟨some 67, .pick (.t 60) (.t 66) (.c .bool false), none, [], []⟩,
    ⟨some 68, .move (.t 67), none, [], []⟩,
    ⟨some 69, .load (.d tWorld) (.t 1), some (68, true), [5], []⟩,
    ⟨some 70, .load (.d tPlace) (.t 2), some (68, true), [6], []⟩,
    ⟨some 71, .call (.f 12) [(.t 69), (.t 70)] [.d (.sl (.int .i64))] [] false, some (68, true), [8], []⟩,
    ⟨some 72, .slice 7 (.int .i64) [(.c (.int .i64) (0 : Int))], some (68, true), [], [7]⟩,
    ⟨some 73, .call (.f 11) [(.t 71), (.t 72)] [.d .bool] [] false, some (68, true), [7], []⟩,
    ⟨some 74, .pick (.t 68) (.t 73) (.c .bool false), none, [], []⟩,
    ⟨some 75, .move (.t 74), none, [], []⟩,
    ⟨some 76, .load (.d tWorld) (.t 1), some (75, true), [5], []⟩,
    ⟨some 77, .load (.d tPlace) (.t 2), some (75, true), [6], []⟩,
    ⟨some 78, .call (.f 14) [(.t 76), (.t 77)] [.d (.int .i64)] [] false, some (75, true), [8], []⟩,
    ⟨some 79, .bin .eql (.t 78) (.c (.int .i64) (3 : Int)), some (75, true), [], []⟩,
    ⟨some 80, .pick (.t 75) (.t 79) (.c .bool false), none, [], []⟩,
    ⟨some 81, .move (.t 80), none, [], []⟩,
    ⟨some 82, .load (.d tWorld) (.t 1), some (81, true), [5], []⟩,
    ⟨some 83, .build tPlace [(0, (.c (.int .i64) (2 : Int)))] [], some (81, true), [], []⟩,
    ⟨some 84, .call (.f 14) [(.t 82), (.t 83)] [.d (.int .i64)] [] false, some (81, true), [8], []⟩,
    ⟨some 85, .bin .eql (.t 84) (.c (.int .i64) (1 : Int)), some (81, true), [], []⟩,
    ⟨some 86, .pick (.t 81) (.t 85) (.c .bool false), none, [], []⟩,
    ⟨some 0, .move (.t 86), none, [], []⟩]) (innkeeplaw07_awake.c12)) (innkeeplaw07_awake.c11)
def innkeeplaw07_awake.c7 : Cd := .seq (.seq (.reg false [⟨some 20, .load (.d tWorld) (.t 1), none, [], []⟩,
    ⟨some 21, .load (.d tPlace) (.t 2), none, [], []⟩,
    ⟨some 22, .call (.f 17) [(.t 20), (.t 21)] [.d (.sl tSeen)] [] false, none, [], []⟩,
    ⟨some 3, .move (.t 22), none, [], []⟩]) (innkeeplaw07_awake.c10)) (innkeeplaw07_awake.c9)
def innkeeplaw07_awake.c5 : Cd := .seq (.seq (.reg false [⟨some 19, .build tPlace [(0, (.c (.int .i64) (1 : Int)))] [], none, [], []⟩,
    ⟨some 2, .newbox 6 tPlace [], none, [], []⟩,
    ⟨none, .store (.d tPlace) (.t 2) (.t 19), none, [], []⟩]) (innkeeplaw07_awake.c8)) (innkeeplaw07_awake.c7)
def innkeeplaw07_awake.c3 : Cd := .seq (.seq (.reg false [⟨some 15, .fieldAddr (.d tWorld) 3 (.t 1), none, [], []⟩,
    ⟨some 16, .load (.d (.sl tPlace)) (.t 15), none, [], []⟩,
    ⟨some 17, .build tPlace [(0, (.c (.int .i64) (2 : Int)))] [], none, [], []⟩,
    ⟨some 18, .index (.sl tPlace) (.t 16) (.c (.int .i64) (1 : Int)), none, [], []⟩,
    ⟨none, .store (.d tPlace) (.t 18) (.t 17), none, [], []⟩]) (innkeeplaw07_awake.c6)) (innkeeplaw07_awake.c5)
def innkeeplaw07_awake.c1 : Cd := .seq (.seq (.reg false [⟨some 11, .fieldAddr (.d tWorld) 3 (.t 1), none, [], []⟩,
    ⟨some 12, .load (.d (.sl tPlace)) (.t 11), none, [], []⟩,
    ⟨some 13, .build tPlace [(0, (.c (.int .i64) (1 : Int)))] [], none, [], []⟩,
    ⟨some 14, .index (.sl tPlace) (.t 12) (.c (.int .i64) (0 : Int)), none, [], []⟩,
    ⟨none, .store (.d tPlace) (.t 14) (.t 13), none, [], []⟩]) (innkeeplaw07_awake.c4)) (innkeeplaw07_awake.c3)
def innkeeplaw07_awake.c0 : Cd := .seq (.seq (.reg false [⟨some 4, .make 0 (.arr 4 (.int .i64)) (.c (.int .i64) (2 : Int)), none, [], []⟩,
    ⟨some 5, .slice 1 (.int .i64) [(.c (.int .i64) (1 : Int))], none, [], []⟩,
    ⟨some 6, .slice 2 (.int .i64) [(.c (.int .i64) (5 : Int))], none, [], []⟩,
    ⟨some 7, .slice 3 (.int .i64) [(.c (.int .i64) (0 : Int)), (.c (.int .i64) (0 : Int)), (.c (.int .i64) (1 : Int))], none, [], []⟩,
    ⟨some 8, .slice 4 .bool [(.c .bool true), (.c .bool true), (.c .bool true)], none, [], []⟩,
    ⟨some 9, .build tDesc [(0, (.t 4)), (1, (.t 5)), (2, (.t 6)), (3, (.t 7)), (4, (.t 8)), (5, (.c (.int .i64) (3 : Int))), (6, (.c (.int .i64) (4 : Int))), (7, (.c (.int .i64) (2 : Int)))] [], none, [], []⟩,
    ⟨some 10, .call (.f 30) [(.t 9)] [.d tWorld] [((0, [3]), 8)] false, none, [], []⟩,
    ⟨some 1, .newbox 5 tWorld [], none, [], []⟩,
    ⟨none, .store (.d tWorld) (.t 1) (.t 10), none, [], []⟩]) (innkeeplaw07_awake.c2)) (innkeeplaw07_awake.c1)
def innkeeplaw07_awake.fn : Fn := ⟨0, [.tmp 0], .seq (.reg false [⟨some 0, .move (.c .bool false), none, [], []⟩]) (innkeeplaw07_awake.c0)⟩
def innkeepref06_Few.c2 : Cd := .tidy [4, 5] [] [] none
def innkeepref06_Few.c4 : Cd := .tidy [6, 7, 8, 9, 10, 11, 12, 13, 14, 15, 16, 17, 18, 19, 20, 21, 22, 23, 24, 25, 26, 27, 28, 29, 30, 31, 32, 33, 34, 35, 36, 37, 38, 39, 40, 41, 42, 43, 44, 45, 46, 47, 48, 49, 50, 51] [] [] none
def innkeepref06_Few.c3 : Cd := .ret
def innkeepref06_Few.c1 : Cd := .seq (.seq (.reg false [⟨some 6, .fieldAddr (.d tDesc) 0 (.t 3), none, [], []⟩,
    ⟨some 7, .load (.d (.sl (.arr 4 (.int .i64)))) (.t 6), none, [], []⟩,
    ⟨some 8, .len (.t 7), none, [], []⟩,
    ⟨some 9, .bin .leq (.t 8) (.c (.int .i64) (20 : Int)), none, [], []⟩,
    ⟨some 10, .move (.t 9), none, [], []⟩,
    ⟨some 11, .fieldAddr (.d tDesc) 1 (.t 3), some (10, true), [], []⟩,
    ⟨some 12, .load (.d (.sl (.int .i64))) (.t 11), some (10, true), [], []⟩,
    ⟨some 13, .len (.t 12), some (10, true), [], []⟩,
    ⟨some 14, .bin .leq (.t 13) (.c (.int .i64) (20 : Int)), some (10, true), [], []⟩,
    ⟨some 15, .pick (.t 10) (.t 14) (.c .bool false), none, [], []⟩,
    ⟨some 16, .move (.t 15), none, [], []⟩,
    ⟨some 17, .fieldAddr (.d tDesc) 2 (.t 3), some (16, true), [], []⟩,
    ⟨some 18, .load (.d (.sl (.int .i64))) (.t 17), some (16, true), [], []⟩,
    ⟨some 19, .len (.t 18), some (16, true), [], []⟩,
    ⟨some 20, .bin .leq (.t 19) (.c (.int .i64) (20 : Int)), some (16, true), [], []⟩,
    ⟨some 21, .pick (.t 16) (.t 20) (.c .bool false), none, [], []⟩,
    ⟨some 22, .move (.t 21), none, [], []⟩,
    ⟨some 23, .fieldAddr (.d tDesc) 3 (.t 3), some (22, true), [], []⟩,
    ⟨some 24, .load (.d (.sl (.int .i64))) (.t 23), some (22, true), [], []⟩,
    ⟨some 25, .len (.t 24), some (22, true), [], []⟩,
    ⟨some 26, .bin .leq (.t 25) (.c (.int .i64) (40 : Int)), some (22, true), [], []⟩,
    ⟨some 27, .pick (.t 22) (.t 26) (.c .bool false), none, [], []⟩,
    ⟨some 28, .move (.t 27), none, [], []⟩,
    ⟨some 29, .fieldAddr (.d tDesc) 4 (.t 3), some (28, true), [], []⟩,
    ⟨some 30, .load (.d (.sl .bool)) (.t 29), some (28, true), [], []⟩,
    ⟨some 31, .len (.t 30), some (28, true), [], []⟩,
    ⟨some 32, .bin .leq (.t 31) (.c (.int .i64) (40 : Int)), some (28, true), [], []⟩,
    ⟨some 33, .pick (.t 28) (.t 32) (.c .bool false), none, [], []⟩,
    ⟨some 34, .move (.t 33), none, [], []⟩,
    ⟨some 35, .fieldAddr (.d tWorld) 1 (.t 1), some (34, true), [], []⟩,
    ⟨some 36, .load (.d (.sl (.int .i64))) (.t 35), some (34, true), [], []⟩,
    ⟨some 37, .len (.t 36), some (34, true), [], []⟩,
    ⟨some 38, .bin .leq (.t 37) (.c (.int .i64) (40 : Int)), some (34, true), [], []⟩,
    ⟨some 39, .pick (.t 34) (.t 38) (.c .bool false), none, [], []⟩,
    ⟨some 40, .move (.t 39), none, [], []⟩,
    ⟨some 41, .fieldAddr (.d tWorld) 2 (.t 1), some (40, true), [], []⟩,
    ⟨some 42, .load (.d (.sl (.int .i64))) (.t 41), some (40, true), [], []⟩,
    ⟨some 43, .len (.t 42), some (40, true), [], []⟩,
    ⟨some 44, .bin .leq (.t 43) (.c (.int .i64) (40 : Int)), some (40, true), [], []⟩,
    ⟨some 45, .pick (.t 40) (.t 44) (.c .bool false), none, [], []⟩,
    ⟨some 46, .move (.t 45), none, [], []⟩,
    ⟨some 47, .fieldAddr (.d tWorld) 3 (.t 1), some (46, true), [], []⟩,
    ⟨some 48, .load (.d (.sl tPlace)) (.t 47), some (46, true), [], []⟩,
    ⟨some 49, .len (.t 48), some (46, true), [], []⟩,
    ⟨some 50, .bin .leq (.t 49) (.c (.int .i64) (40 : Int)), some (46, true), [], []⟩,
    ⟨some 51, .pick (.t 46) (.t 50) (.c .bool false), none, [], []⟩,
    ⟨some 2, .move (.t 51), none, [], []⟩]) (innkeepref06_Few.c4)) (innkeepref06_Few.c3)
def innkeepref06_Few.c0 : Cd := .seq (.seq (.reg false [⟨some 4, .fieldAddr (.d tWorld) 0 (.t 1), none, [], []⟩,
    ⟨some 5, .load (.d tDesc) (.t 4), none, [], []⟩,
    ⟨some 3, .newbox 1 tDesc [], none, [], []⟩,
    ⟨none, .store (.d tDesc) (.t 3) (.t 5), none, [], []⟩]) (innkeepref06_Few.c2)) (innkeepref06_Few.c1)
def innkeepref06_Few.fn : Fn := ⟨1, [.tmp 2], .seq (.reg false [⟨some 1, .box 0 (.t 0), none, [], []⟩,
    ⟨some 2, .move (.c .bool false), none, [], []⟩]) (innkeepref06_Few.c0)⟩
def innkeepref06_in.c2 : Cd := .tidy [5, 6, 7, 8, 9, 10, 11] [] [] none
def innkeepref06_in.c1 : Cd := .ret
def innkeepref06_in.c0 : Cd := .seq (.seq (.reg false [⟨some 5, .move (.t 0), none, [], []⟩,
    ⟨some 6, .bin .geq (.t 5) (.c (.int .i64) (0 : Int)), none, [], []⟩,
    ⟨some 7, .move (.t 6), none, [], []⟩,
    ⟨some 8, .move (.t 0), some (7, true), [], []⟩,
    ⟨some 9, .move (.t 1), some (7, true), [], []⟩,
    ⟨some 10, .bin .lss (.t 8) (.t 9), some (7, true), [], []⟩,
    ⟨some 11, .pick (.t 7) (.t 10) (.c .bool false), none, [], []⟩,
    ⟨some 4, .move (.t 11), none, [], []⟩]) (innkeepref06_in.c2)) (innkeepref06_in.c1)
def innkeepref06_in.fn : Fn := ⟨2, [.tmp 4], .seq (.reg false [⟨some 4, .move (.c .bool false), none, [], []⟩]) (innkeepref06_in.c0)⟩
def innkeepref01_Is.c2 : Cd := .tidy [3, 4, 5, 6, 7, 8] [] [] none
def innkeepref01_Is.c1 : Cd := .ret
def innkeepref01_Is.c0 : Cd := .seq (.seq (.reg false [⟨some 3, .move (.t 0), none, [], []⟩,
    ⟨some 4, .bin .leq (.c (.int .i64) (0 : Int)) (.t 3), none, [], []⟩,
    ⟨some 5, .move (.t 4), none, [], []⟩,
    ⟨some 6, .move (.t 0), some (5, true), [], []⟩,
    ⟨some 7, .bin .leq (.t 6) (.c (.int .i64) (1073741824 : Int)), some (5, true), [], []⟩,
    ⟨some 8, .pick (.t 5) (.t 7) (.c .bool false), none, [], []⟩,
    ⟨some 2, .move (.t 8), none, [], []⟩]) (innkeepref01_Is.c2)) (innkeepref01_Is.c1)
def innkeepref01_Is.fn : Fn := ⟨1, [.tmp 2], .seq (.reg false [⟨some 2, .move (.c .bool false), none, [], []⟩]) (innkeepref01_Is.c0)⟩
def innkeepref06_May.c2 : Cd := .tidy [10, 11, 12] [] [] none
def innkeepref06_May.c5 : Cd := .tidy [13, 14, 15, 16, 17, 18, 19, 20, 21, 22, 23, 24, 25, 26, 27, 28, 29, 30, 31, 32, 33, 34, 35, 36, 37, 38, 39, 40, 41, 42, 43, 44, 45, 46, 47, 48, 49, 50, 51, 52, 53] [] [] none
def innkeepref06_May.c7 : Cd := .ret
def innkeepref06_May.c6 : Cd := .seq (.reg false [⟨some 2, .move (.c .bool false), none, [], []⟩]) (innkeepref06_May.c7)
def innkeepref06_May.c8 : Cd := .skip
def innkeepref06_May.c4 : Cd := .cond (.t 54) (.seq (.tidy [54] [] [] none) (innkeepref06_May.c6)) (.seq (.tidy [54] [] [] none) (innkeepref06_May.c8))
def innkeepref06_May.c11 : Cd := .tidy [55, 56, 57, 58, 59, 60, 61, 62, 63, 64, 65, 66, 67, 68, 69] [] [] none
def innkeepref06_May.c13 : Cd := .ret
def innkeepref06_May.c12 : Cd := .seq (.reg false [⟨some 2, .move (.c .bool false), none, [], []⟩]) (innkeepref06_May.c13)
def innkeepref06_May.c14 : Cd := .skip
def innkeepref06_May.c10 : Cd := .cond (.t 70) (.seq (.tidy [70] [] [] none) (innkeepref06_May.c12)) (.seq (.tidy [70] [] [] none) (innkeepref06_May.c14))
def innkeepref06_May.c21 : Cd := .tidy [71, 72] [] [] none
def innkeepref06_May.c22 : Cd := .skip
def innkeepref06_May.c63 : Cd := .exit 0
def innkeepref06_May.c20 : Cd := .cond (.t 73) (.seq (.tidy [73] [] [] none) (innkeepref06_May.c22)) (.seq (.tidy [73] [] [] none) (innkeepref06_May.c63))
def innkeepref06_May.c30 : Cd := .tidy [76] [] [] none
def innkeepref06_May.c31 : Cd := .skip
def innkeepref06_May.c39 : Cd := .exit 2
def innkeepref06_May.c29 : Cd := .cond (.t 77) (.seq (.tidy [77] [] [] none) (innkeepref06_May.c31)) (.seq (.tidy [77] [] [] none) (innkeepref06_May.c39))
def innkeepref06_May.c34 : Cd := .tidy [80, 81, 82, 83, 84, 85, 86, 87, 88, 89, 90, 91, 92, 93, 94, 95, 96, 97, 98] [] [] none
def innkeepref06_May.c36 : Cd := .ret
def innkeepref06_May.c35 : Cd := .seq (.reg false [⟨some 2, .move (.c .bool false), none, [], []⟩]) (innkeepref06_May.c36)
def innkeepref06_May.c37 : Cd := .skip
def innkeepref06_May.c33 : Cd := .cond (.t 99) (.seq (.tidy [99] [] [] none) (innkeepref06_May.c35)) (.seq (.tidy [99] [] [] none) (innkeepref06_May.c37))
def innkeepref06_May.c38 : Cd := .tidy [78, 79] [] [] none
def innkeepref06_May.c32 : Cd := .seq (.reg false [⟨some 78, .move (.t 5), none, [], []⟩,
    ⟨some 79, .bin .add (.t 78) (.c (.int .i64) (1 : Int)), none, [], []⟩,
    ⟨some 5, .move (.t 79), none, [], []⟩]) (innkeepref06_May.c38)
def innkeepref06_May.c28 : Cd := .seq (.block 3 (.seq (.seq (.reg false [⟨some 80, .fieldAddr (.d tDesc) 0 (.t 1), none, [], []⟩,
    ⟨some 81, .load (.d (.sl (.arr 4 (.int .i64)))) (.t 80), none, [], []⟩,
    ⟨some 82, .move (.t 4), none, [], []⟩,
    ⟨some 83, .move (.t 5), none, [], []⟩,
    ⟨some 84, .index (.sl (.arr 4 (.int .i64))) (.t 81) (.t 82), none, [], []⟩,
    ⟨some 85, .index (.arr 4 (.int .i64)) (.t 84) (.t 83), none, [], []⟩,
    ⟨some 86, .load (.d (.int .i64)) (.t 85), none, [], []⟩,
    ⟨some 87, .bin .neq (.t 86) (.c (.int .i64) ((-1) : Int)), none, [], []⟩,
    ⟨some 88, .move (.t 87), none, [], []⟩,
    ⟨some 89, .fieldAddr (.d tDesc) 0 (.t 1), some (88, true), [], []⟩,
    ⟨some 90, .load (.d (.sl (.arr 4 (.int .i64)))) (.t 89), some (88, true), [], []⟩,
    ⟨some 91, .move (.t 4), some (88, true), [], []⟩,
    ⟨some 92, .move (.t 5), some (88, true), [], []⟩,
    ⟨some 93, .index (.sl (.arr 4 (.int .i64))) (.t 90) (.t 91), some (88, true), [], []⟩,
    ⟨some 94, .index (.arr 4 (.int .i64)) (.t 93) (.t 92), some (88, true), [], []⟩,
    ⟨some 95, .load (.d (.int .i64)) (.t 94), some (88, true), [], []⟩,
    ⟨some 96, .move (.t 3), some (88, true), [], []⟩,
    ⟨some 97, .call (.f 39) [(.t 95), (.t 96)] [.d .bool] [] false, some (88, true), [], []⟩,
    ⟨some 98, .not (.t 97), some (88, true), [], []⟩,
    ⟨some 99, .pick (.t 88) (.t 98) (.c .bool false), none, [], []⟩]) (innkeepref06_May.c34)) (innkeepref06_May.c33))) (innkeepref06_May.c32)
def innkeepref06_May.c27 : Cd := .tidy [] [] [] (some 1)
def innkeepref06_May.c26 : Cd := .seq (.seq (.seq (.seq (.reg false [⟨some 76, .move (.t 5), none, [], []⟩,
    ⟨some 77, .bin .lss (.t 76) (.c (.int .i64) (4 : Int)), none, [], []⟩]) (innkeepref06_May.c30)) (innkeepref06_May.c29)) (innkeepref06_May.c28)) (innkeepref06_May.c27)
def innkeepref06_May.c25 : Cd := .block 2 (.loop (innkeepref06_May.c26))
def innkeepref06_May.c47 : Cd := .tidy [100, 101, 102, 103] [] [] none
def innkeepref06_May.c48 : Cd := .skip
def innkeepref06_May.c56 : Cd := .exit 4
def innkeepref06_May.c46 : Cd := .cond (.t 104) (.seq (.tidy [104] [] [] none) (innkeepref06_May.c48)) (.seq (.tidy [104] [] [] none) (innkeepref06_May.c56))
def innkeepref06_May.c51 : Cd := .tidy [107, 108, 109, 110, 111, 112] [] [] none
def innkeepref06_May.c53 : Cd := .tidy [114, 115] [] [] none
def innkeepref06_May.c52 : Cd := .seq (.reg false [⟨some 114, .move (.t 6), none, [], []⟩,
    ⟨some 115, .bin .add (.t 114) (.c (.int .i64) (1 : Int)), none, [], []⟩,
    ⟨some 6, .move (.t 115), none, [], []⟩]) (innkeepref06_May.c53)
def innkeepref06_May.c55 : Cd := .skip
def innkeepref06_May.c50 : Cd := .cond (.t 113) (.seq (.tidy [113] [] [] none) (innkeepref06_May.c52)) (.seq (.tidy [113] [] [] none) (innkeepref06_May.c55))
def innkeepref06_May.c54 : Cd := .tidy [105, 106] [] [] none
def innkeepref06_May.c49 : Cd := .seq (.reg false [⟨some 105, .move (.t 7), none, [], []⟩,
    ⟨some 106, .bin .add (.t 105) (.c (.int .i64) (1 : Int)), none, [], []⟩,
    ⟨some 7, .move (.t 106), none, [], []⟩]) (innkeepref06_May.c54)
def innkeepref06_May.c45 : Cd := .seq (.block 5 (.seq (.seq (.reg false [⟨some 107, .fieldAddr (.d tDesc) 3 (.t 1), none, [], []⟩,
    ⟨some 108, .load (.d (.sl (.int .i64))) (.t 107), none, [], []⟩,
    ⟨some 109, .move (.t 7), none, [], []⟩,
    ⟨some 110, .index (.sl (.int .i64)) (.t 108) (.t 109), none, [], []⟩,
    ⟨some 111, .load (.d (.int .i64)) (.t 110), none, [], []⟩,
    ⟨some 112, .move (.t 4), none, [], []⟩,
    ⟨some 113, .bin .eql (.t 111) (.t 112), none, [], []⟩]) (innkeepref06_May.c51)) (innkeepref06_May.c50))) (innkeepref06_May.c49)
def innkeepref06_May.c44 : Cd := .tidy [] [] [] (some 1)
def innkeepref06_May.c43 : Cd := .seq (.seq (.seq (.seq (.reg false [⟨some 100, .move (.t 7), none, [], []⟩,
    ⟨some 101, .fieldAddr (.d tDesc) 3 (.t 1), none, [], []⟩,
    ⟨some 102, .load (.d (.sl (.int .i64))) (.t 101), none, [], []⟩,
    ⟨some 103, .len (.t 102), none, [], []⟩,
    ⟨some 104, .bin .lss (.t 100) (.t 103), none, [], []⟩]) (innkeepref06_May.c47)) (innkeepref06_May.c46)) (innkeepref06_May.c45)) (innkeepref06_May.c44)
def innkeepref06_May.c42 : Cd := .block 4 (.loop (innkeepref06_May.c43))
def innkeepref06_May.c58 : Cd := .tidy [116, 117, 118] [] [] none
def innkeepref06_May.c60 : Cd := .ret
def innkeepref06_May.c59 : Cd := .seq (.reg false [⟨some 2, .move (.c .bool false), none, [], []⟩]) (innkeepref06_May.c60)
def innkeepref06_May.c61 : Cd := .skip
def innkeepref06_May.c57 : Cd := .cond (.t 119) (.seq (.tidy [119] [] [] none) (innkeepref06_May.c59)) (.seq (.tidy [119] [] [] none) (innkeepref06_May.c61))
def innkeepref06_May.c41 : Cd := .seq (.seq (.reg false [⟨some 116, .move (.t 6), none, [], []⟩,
    ⟨some 117, .fieldAddr (.d tDesc) 5 (.t 1), none, [], []⟩,
    ⟨some 118, .load (.d (.int .i64)) (.t 117), none, [], []⟩,
    ⟨some 119, .bin .gtr (.t 116) (.t 118), none, [], []⟩]) (innkeepref06_May.c58)) (innkeepref06_May.c57)
def innkeepref06_May.c40 : Cd := .seq (.seq (.reg false [⟨some 7, .move (.c (.int .i64) (0 : Int)), none, [], []⟩]) (innkeepref06_May.c42)) (innkeepref06_May.c41)
def innkeepref06_May.c24 : Cd := .seq (.reg false [⟨some 6, .move (.c (.int .i64) (0 : Int)), none, [], []⟩]) (innkeepref06_May.c40)
def innkeepref06_May.c62 : Cd := .tidy [74, 75] [] [] none
def innkeepref06_May.c23 : Cd := .seq (.reg false [⟨some 74, .move (.t 4), none, [], []⟩,
    ⟨some 75, .bin .add (.t 74) (.c (.int .i64) (1 : Int)), none, [], []⟩,
    ⟨some 4, .move (.t 75), none, [], []⟩]) (innkeepref06_May.c62)
def innkeepref06_May.c19 : Cd := .seq (.block 1 (.seq (.seq (.reg false [⟨some 5, .move (.c (.int .i64) (0 : Int)), none, [], []⟩]) (innkeepref06_May.c25)) (innkeepref06_May.c24))) (innkeepref06_May.c23)
def innkeepref06_May.c18 : Cd := .tidy [5, 6, 7] [] [] (some 1)
def innkeepref06_May.c17 : Cd := .seq (.seq (.seq (.seq (.reg false [⟨some 71, .move (.t 4), none, [], []⟩,
    ⟨some 72, .move (.t 3), none, [], []⟩,
    ⟨some 73, .bin .lss (.t 71) (.t 72), none, [], []⟩]) (innkeepref06_May.c21)) (innkeepref06_May.c20)) (innkeepref06_May.c19)) (innkeepref06_May.c18)
def innkeepref06_May.c16 : Cd := .block 0 (.loop (innkeepref06_May.c17))
def innkeepref06_May.c70 : Cd := .tidy [120, 121, 122, 123] [] [] none
def innkeepref06_May.c71 : Cd := .skip
def innkeepref06_May.c79 : Cd := .exit 6
def innkeepref06_May.c69 : Cd := .cond (.t 124) (.seq (.tidy [124] [] [] none) (innkeepref06_May.c71)) (.seq (.tidy [124] [] [] none) (innkeepref06_May.c79))
def innkeepref06_May.c74 : Cd := .tidy [127, 128, 129, 130, 131, 132, 133, 134, 135, 136, 137, 138, 139, 140, 141, 142] [] [] none
def innkeepref06_May.c76 : Cd := .ret
def innkeepref06_May.c75 : Cd := .seq (.reg false [⟨some 2, .move (.c .bool false), none, [], []⟩]) (innkeepref06_May.c76)
def innkeepref06_May.c77 : Cd := .skip
def innkeepref06_May.c73 : Cd := .cond (.t 143) (.seq (.tidy [143] [] [] none) (innkeepref06_May.c75)) (.seq (.tidy [143] [] [] none) (innkeepref06_May.c77))
def innkeepref06_May.c78 : Cd := .tidy [125, 126] [] [] none
def innkeepref06_May.c72 : Cd := .seq (.reg false [⟨some 125, .move (.t 8), none, [], []⟩,
    ⟨some 126, .bin .add (.t 125) (.c (.int .i64) (1 : Int)), none, [], []⟩,
    ⟨some 8, .move (.t 126), none, [], []⟩]) (innkeepref06_May.c78)
def innkeepref06_May.c68 : Cd := .seq (.block 7 (.seq (.seq (.reg false [⟨some 127, .fieldAddr (.d tDesc) 1 (.t 1), none, [], []⟩,
    ⟨some 128, .load (.d (.sl (.int .i64))) (.t 127), none, [], []⟩,
    ⟨some 129, .move (.t 8), none, [], []⟩,
    ⟨some 130, .index (.sl (.int .i64)) (.t 128) (.t 129), none, [], []⟩,
    ⟨some 131, .load (.d (.int .i64)) (.t 130), none, [], []⟩,
    ⟨some 132, .move (.t 3), none, [], []⟩,
    ⟨some 133, .call (.f 39) [(.t 131), (.t 132)] [.d .bool] [] false, none, [], []⟩,
    ⟨some 134, .not (.t 133), none, [], []⟩,
    ⟨some 135, .move (.t 134), none, [], []⟩,
    ⟨some 136, .fieldAddr (.d tDesc) 2 (.t 1), some (135, false), [], []⟩,
    ⟨some 137, .load (.d (.sl (.int .i64))) (.t 136), some (135, false), [], []⟩,
    ⟨some 138, .move (.t 8), some (135, false), [], []⟩,
    ⟨some 139, .index (.sl (.int .i64)) (.t 137) (.t 138), some (135, false), [], []⟩,
    ⟨some 140, .load (.d (.int .i64)) (.t 139), some (135, false), [], []⟩,
    ⟨some 141, .call (.f 40) [(.t 140)] [.d .bool] [] false, some (135, false), [], []⟩,
    ⟨some 142, .not (.t 141), some (135, false), [], []⟩,
    ⟨some 143, .pick (.t 135) (.c .bool true) (.t 142), none, [], []⟩]) (innkeepref06_May.c74)) (innkeepref06_May.c73))) (innkeepref06_May.c72)
def innkeepref06_May.c67 : Cd := .tidy [] [] [] (some 1)
def innkeepref06_May.c66 : Cd := .seq (.seq (.seq (.seq (.reg false [⟨some 120, .move (.t 8), none, [], []⟩,
    ⟨some 121, .fieldAddr (.d tDesc) 1 (.t 1), none, [], []⟩,
    ⟨some 122, .load (.d (.sl (.int .i64))) (.t 121), none, [], []⟩,
    ⟨some 123, .len (.t 122), none, [], []⟩,
    ⟨some 124, .bin .lss (.t 120) (.t 123), none, [], []⟩]) (innkeepref06_May.c70)) (innkeepref06_May.c69)) (innkeepref06_May.c68)) (innkeepref06_May.c67)
def innkeepref06_May.c65 : Cd := .block 6 (.loop (innkeepref06_May.c66))
def innkeepref06_May.c86 : Cd := .tidy [144, 145, 146, 147] [] [] none
def innkeepref06_May.c87 : Cd := .skip
def innkeepref06_May.c95 : Cd := .exit 8
def innkeepref06_May.c85 : Cd := .cond (.t 148) (.seq (.tidy [148] [] [] none) (innkeepref06_May.c87)) (.seq (.tidy [148] [] [] none) (innkeepref06_May.c95))
def innkeepref06_May.c90 : Cd := .tidy [151, 152, 153, 154, 155, 156, 157] [] [] none
def innkeepref06_May.c92 : Cd := .ret
def innkeepref06_May.c91 : Cd := .seq (.reg false [⟨some 2, .move (.c .bool false), none, [], []⟩]) (innkeepref06_May.c92)
def innkeepref06_May.c93 : Cd := .skip
def innkeepref06_May.c89 : Cd := .cond (.t 158) (.seq (.tidy [158] [] [] none) (innkeepref06_May.c91)) (.seq (.tidy [158] [] [] none) (innkeepref06_May.c93))
def innkeepref06_May.c94 : Cd := .tidy [149, 150] [] [] none
def innkeepref06_May.c88 : Cd := .seq (.reg false [⟨some 149, .move (.t 9), none, [], []⟩,
    ⟨some 150, .bin .add (.t 149) (.c (.int .i64) (1 : Int)), none, [], []⟩,
    ⟨some 9, .move (.t 150), none, [], []⟩]) (innkeepref06_May.c94)
def innkeepref06_May.c84 : Cd := .seq (.block 9 (.seq (.seq (.reg false [⟨some 151, .fieldAddr (.d tDesc) 3 (.t 1), none, [], []⟩,
    ⟨some 152, .load (.d (.sl (.int .i64))) (.t 151), none, [], []⟩,
    ⟨some 153, .move (.t 9), none, [], []⟩,
    ⟨some 154, .index (.sl (.int .i64)) (.t 152) (.t 153), none, [], []⟩,
    ⟨some 155, .load (.d (.int .i64)) (.t 154), none, [], []⟩,
    ⟨some 156, .move (.t 3), none, [], []⟩,
    ⟨some 157, .call (.f 39) [(.t 155), (.t 156)] [.d .bool] [] false, none, [], []⟩,
    ⟨some 158, .not (.t 157), none, [], []⟩]) (innkeepref06_May.c90)) (innkeepref06_May.c89))) (innkeepref06_May.c88)
def innkeepref06_May.c83 : Cd := .tidy [] [] [] (some 1)
def innkeepref06_May.c82 : Cd := .seq (.seq (.seq (.seq (.reg false [⟨some 144, .move (.t 9), none, [], []⟩,
    ⟨some 145, .fieldAddr (.d tDesc) 3 (.t 1), none, [], []⟩,
    ⟨some 146, .load (.d (.sl (.int .i64))) (.t 145), none, [], []⟩,
    ⟨some 147, .len (.t 146), none, [], []⟩,
    ⟨some 148, .bin .lss (.t 144) (.t 147), none, [], []⟩]) (innkeepref06_May.c86)) (innkeepref06_May.c85)) (innkeepref06_May.c84)) (innkeepref06_May.c83)
def innkeepref06_May.c81 : Cd := .block 8 (.loop (innkeepref06_May.c82))
def innkeepref06_May.c96 : Cd := .ret
def innkeepref06_May.c80 : Cd := .seq (.reg false [⟨some 2, .move (.c .bool true), none, [], []⟩]) (innkeepref06_May.c96)
def innkeepref06_May.c64 : Cd := .seq (.seq (.reg false [⟨some 9, .move (.c (.int .i64) (0 : Int)), none, [], []⟩]) (innkeepref06_May.c81)) (innkeepref06_May.c80)
def innkeepref06_May.c15 : Cd := .seq (.seq (.reg false [⟨some 8, .move (.c (.int .i64) (0 : Int)), none, [], []⟩]) (innkeepref06_May.c65)) (innkeepref06_May.c64)
def innkeepref06_May.c9 : Cd := .seq (.seq (.reg false [⟨some 4, .move (.c (.int .i64) (0 : Int)), none, [], []⟩]) (innkeepref06_May.c16)) (innkeepref06_May.c15)
def innkeepref06_May.c3 : Cd := .seq (.seq (.seq (.reg false [⟨some 55, .fieldAddr (.d tDesc) 5 (.t 1), none, [], []⟩,
    ⟨some 56, .load (.d (.int .i64)) (.t 55), none, [], []⟩,
    ⟨some 57, .call (.f 39) [(.t 56), (.c (.int .i64) (65 : Int))] [.d .bool] [] false, none, [], []⟩,
    ⟨some 58, .not (.t 57), none, [], []⟩,
    ⟨some 59, .move (.t 58), none, [], []⟩,
    ⟨some 60, .fieldAddr (.d tDesc) 6 (.t 1), some (59, false), [], []⟩,
    ⟨some 61, .load (.d (.int .i64)) (.t 60), some (59, false), [], []⟩,
    ⟨some 62, .call (.f 39) [(.t 61), (.c (.int .i64) (65 : Int))] [.d .bool] [] false, some (59, false), [], []⟩,
    ⟨some 63, .not (.t 62), some (59, false), [], []⟩,
    ⟨some 64, .pick (.t 59) (.c .bool true) (.t 63), none, [], []⟩,
    ⟨some 65, .move (.t 64), none, [], []⟩,
    ⟨some 66, .fieldAddr (.d tDesc) 7 (.t 1), some (65, false), [], []⟩,
    ⟨some 67, .load (.d (.int .i64)) (.t 66), some (65, false), [], []⟩,
    ⟨some 68, .call (.f 39) [(.t 67), (.c (.int .i64) (65 : Int))] [.d .bool] [] false, some (65, false), [], []⟩,
    ⟨some 69, .not (.t 68), some (65, false), [], []⟩,
    ⟨some 70, .pick (.t 65) (.c .bool true) (.t 69), none, [], []⟩]) (innkeepref06_May.c11)) (innkeepref06_May.c10)) (innkeepref06_May.c9)
def innkeepref06_May.c1 : Cd := .seq (.seq (.seq (.reg false [⟨some 13, .move (.t 3), none, [], []⟩,
    ⟨some 14, .bin .lss (.t 13) (.c (.int .i64) (1 : Int)), none, [], []⟩,
    ⟨some 15, .move (.t 14), none, [], []⟩,
    ⟨some 16, .move (.t 3), some (15, false), [], []⟩,
    ⟨some 17, .bin .gtr (.t 16) (.c (.int .i64) (8 : Int)), some (15, false), [], []⟩,
    ⟨some 18, .pick (.t 15) (.c .bool true) (.t 17), none, [], []⟩,
    ⟨some 19, .move (.t 18), none, [], []⟩,
    ⟨some 20, .fieldAddr (.d tDesc) 1 (.t 1), some (19, false), [], []⟩,
    ⟨some 21, .load (.d (.sl (.int .i64))) (.t 20), some (19, false), [], []⟩,
    ⟨some 22, .len (.t 21), some (19, false), [], []⟩,
    ⟨some 23, .bin .lss (.t 22) (.c (.int .i64) (1 : Int)), some (19, false), [], []⟩,
    ⟨some 24, .pick (.t 19) (.c .bool true) (.t 23), none, [], []⟩,
    ⟨some 25, .move (.t 24), none, [], []⟩,
    ⟨some 26, .fieldAddr (.d tDesc) 1 (.t 1), some (25, false), [], []⟩,
    ⟨some 27, .load (.d (.sl (.int .i64))) (.t 26), some (25, false), [], []⟩,
    ⟨some 28, .len (.t 27), some (25, false), [], []⟩,
    ⟨some 29, .bin .gtr (.t 28) (.c (.int .i64) (6 : Int)), some (25, false), [], []⟩,
    ⟨some 30, .pick (.t 25) (.c .bool true) (.t 29), none, [], []⟩,
    ⟨some 31, .move (.t 30), none, [], []⟩,
    ⟨some 32, .fieldAddr (.d tDesc) 2 (.t 1), some (31, false), [], []⟩,
    ⟨some 33, .load (.d (.sl (.int .i64))) (.t 32), some (31, false), [], []⟩,
    ⟨some 34, .len (.t 33), some (31, false), [], []⟩,
    ⟨some 35, .fieldAddr (.d tDesc) 1 (.t 1), some (31, false), [], []⟩,
    ⟨some 36, .load (.d (.sl (.int .i64))) (.t 35), some (31, false), [], []⟩,
    ⟨some 37, .len (.t 36), some (31, false), [], []⟩,
    ⟨some 38, .bin .neq (.t 34) (.t 37), some (31, false), [], []⟩,
    ⟨some 39, .pick (.t 31) (.c .bool true) (.t 38), none, [], []⟩,
    ⟨some 40, .move (.t 39), none, [], []⟩,
    ⟨some 41, .fieldAddr (.d tDesc) 3 (.t 1), some (40, false), [], []⟩,
    ⟨some 42, .load (.d (.sl (.int .i64))) (.t 41), some (40, false), [], []⟩,
    ⟨some 43, .len (.t 42), some (40, false), [], []⟩,
    ⟨some 44, .bin .gtr (.t 43) (.c (.int .i64) (16 : Int)), some (40, false), [], []⟩,
    ⟨some 45, .pick (.t 40) (.c .bool true) (.t 44), none, [], []⟩,
    ⟨some 46, .move (.t 45), none, [], []⟩,
    ⟨some 47, .fieldAddr (.d tDesc) 4 (.t 1), some (46, false), [], []⟩,
    ⟨some 48, .load (.d (.sl .bool)) (.t 47), some (46, false), [], []⟩,
    ⟨some 49, .len (.t 48), some (46, false), [], []⟩,
    ⟨some 50, .fieldAddr (.d tDesc) 3 (.t 1), some (46, false), [], []⟩,
    ⟨some 51, .load (.d (.sl (.int .i64))) (.t 50), some (46, false), [], []⟩,
    ⟨some 52, .len (.t 51), some (46, false), [], []⟩,
    ⟨some 53, .bin .neq (.t 49) (.t 52), some (46, false), [], []⟩,
    ⟨some 54, .pick (.t 46) (.c .bool true) (.t 53), none, [], []⟩]) (innkeepref06_May.c5)) (innkeepref06_May.c4)) (innkeepref06_May.c3)
def innkeepref06_May.c0 : Cd := .seq (.seq (.reg false [⟨some 10, .fieldAddr (.d tDesc) 0 (.t 1), none, [], []⟩,
    ⟨some 11, .load (.d (.sl (.arr 4 (.int .i64)))) (.t 10), none, [], []⟩,
    ⟨some 12, .len (.t 11), none, [], []⟩,
    ⟨some 3, .move (.t 12), none, [], []⟩]) (innkeepref06_May.c2)) (innkeepref06_May.c1)
def innkeepref06_May.fn : Fn := ⟨1, [.tmp 2], .seq (.reg false [⟨some 1, .box 0 (.t 0), none, [], []⟩,
    ⟨some 2, .move (.c .bool false), none, [], []⟩]) (innkeepref06_May.c0)⟩
def innkeepref06_Depth.c7 : Cd := .tidy [6, 7] [] [] none
def innkeepref06_Depth.c8 : Cd := .skip
def innkeepref06_Depth.c18 : Cd := .exit 0
def innkeepref06_Depth.c6 : Cd := .cond (.t 8) (.seq (.tidy [8] [] [] none) (innkeepref06_Depth.c8)) (.seq (.tidy [8] [] [] none) (innkeepref06_Depth.c18))
def innkeepref06_Depth.c10 : Cd := .tidy [9, 10] [] [] none
def innkeepref06_Depth.c13 : Cd := .tidy [11] [] [] none
def innkeepref06_Depth.c15 : Cd := .ret
def innkeepref06_Depth.c14 : Cd := .seq (.reg false [⟨some 4, .move (.c (.int .i64) (99 : Int)), none, [], []⟩]) (innkeepref06_Depth.c15)
def innkeepref06_Depth.c16 : Cd := .skip
def innkeepref06_Depth.c12 : Cd := .cond (.t 12) (.seq (.tidy [12] [] [] none) (innkeepref06_Depth.c14)) (.seq (.tidy [12] [] [] none) (innkeepref06_Depth.c16))
def innkeepref06_Depth.c17 : Cd := .tidy [13, 14, 15, 16, 17, 18] [] [] none
def innkeepref06_Depth.c11 : Cd := .seq (.reg false [⟨some 13, .fieldAddr (.d tWorld) 3 (.t 2), none, [], []⟩,
    ⟨some 14, .load (.d (.sl tPlace)) (.t 13), none, [], []⟩,
    ⟨some 15, .fieldAddr (.d tPlace) 1 (.t 3), none, [], []⟩,
    ⟨some 16, .load (.d (.int .i64)) (.t 15), none, [], []⟩,
    ⟨some 17, .index (.sl tPlace) (.t 14) (.t 16), none, [], []⟩,
    ⟨some 18, .load (.d tPlace) (.t 17), none, [], []⟩,
    ⟨none, .store (.d tPlace) (.t 3) (.t 18), none, [], []⟩]) (innkeepref06_Depth.c17)
def innkeepref06_Depth.c9 : Cd := .seq (.seq (.seq (.reg false [⟨some 11, .move (.t 5), none, [], []⟩,
    ⟨some 12, .bin .gtr (.t 11) (.c (.int .i64) (50 : Int)), none, [], []⟩]) (innkeepref06_Depth.c13)) (innkeepref06_Depth.c12)) (innkeepref06_Depth.c11)
def innkeepref06_Depth.c5 : Cd := .block 1 (.seq (.seq (.reg false [⟨some 9, .move (.t 5), none, [], []⟩,
    ⟨some 10, .bin .add (.t 9) (.c (.int .i64) (1 : Int)), none, [], []⟩,
    ⟨some 5, .move (.t 10), none, [], []⟩]) (innkeepref06_Depth.c10)) (innkeepref06_Depth.c9))
def innkeepref06_Depth.c4 : Cd := .tidy [] [] [] (some 2)
def innkeepref06_Depth.c3 : Cd := .seq (.seq (.seq (.seq (.reg false [⟨some 6, .fieldAddr (.d tPlace) 0 (.t 3), none, [], []⟩,
    ⟨some 7, .load (.d (.int .i64)) (.t 6), none, [], []⟩,
    ⟨some 8, .bin .eql (.t 7) (.c (.int .i64) (2 : Int)), none, [], []⟩]) (innkeepref06_Depth.c7)) (innkeepref06_Depth.c6)) (innkeepref06_Depth.c5)) (innkeepref06_Depth.c4)
def innkeepref06_Depth.c20 : Cd := .tidy [19] [] [] none
def innkeepref06_Depth.c19 : Cd := .ret
def innkeepref06_Depth.c2 : Cd := .seq (.seq (.reg false [⟨some 19, .move (.t 5), none, [], []⟩,
    ⟨some 4, .move (.t 19), none, [], []⟩]) (innkeepref06_Depth.c20)) (innkeepref06_Depth.c19)
def innkeepref06_Depth.c1 : Cd := .seq (.block 0 (.loop (innkeepref06_Depth.c3))) (innkeepref06_Depth.c2)
def innkeepref06_Depth.c0 : Cd := .seq (.reg false [⟨some 5, .move (.c (.int .i64) (0 : Int)), none, [], []⟩]) (innkeepref06_Depth.c1)
def innkeepref06_Depth.fn : Fn := ⟨2, [.tmp 4], .seq (.reg false [⟨some 2, .box 0 (.t 0), none, [], []⟩,
    ⟨some 3, .box 1 (.t 1), none, [], []⟩,
    ⟨some 4, .move (.c (.int .i64) (0 : Int)), none, [], []⟩]) (innkeepref06_Depth.c0)⟩
def innkeepref06_Many.c8 : Cd := .tidy [7, 8, 9, 10] [] [] none
def innkeepref06_Many.c9 : Cd := .skip
def innkeepref06_Many.c17 : Cd := .exit 0
def innkeepref06_Many.c7 : Cd := .cond (.t 11) (.seq (.tidy [11] [] [] none) (innkeepref06_Many.c9)) (.seq (.tidy [11] [] [] none) (innkeepref06_Many.c17))
def innkeepref06_Many.c12 : Cd := .tidy [14, 15, 16, 17, 18, 19] [] [] none
def innkeepref06_Many.c14 : Cd := .tidy [21, 22] [] [] none
def innkeepref06_Many.c13 : Cd := .seq (.reg false [⟨some 21, .move (.t 5), none, [], []⟩,
    ⟨some 22, .bin .add (.t 21) (.c (.int .i64) (1 : Int)), none, [], []⟩,
    ⟨some 5, .move (.t 22), none, [], []⟩]) (innkeepref06_Many.c14)
def innkeepref06_Many.c16 : Cd := .skip
def innkeepref06_Many.c11 : Cd := .cond (.t 20) (.seq (.tidy [20] [] [] none) (innkeepref06_Many.c13)) (.seq (.tidy [20] [] [] none) (innkeepref06_Many.c16))
def innkeepref06_Many.c15 : Cd := .tidy [12, 13] [] [] none
def innkeepref06_Many.c10 : Cd := .seq (.reg false [⟨some 12, .move (.t 6), none, [], []⟩,
    ⟨some 13, .bin .add (.t 12) (.c (.int .i64) (1 : Int)), none, [], []⟩,
    ⟨some 6, .move (.t 13), none, [], []⟩]) (innkeepref06_Many.c15)
def innkeepref06_Many.c6 : Cd := .seq (.block 1 (.seq (.seq (.reg true [⟨some 14, .fieldAddr (.d tWorld) 3 (.t 2), none, [0], []⟩,
    ⟨some 15, .load (.d (.sl tPlace)) (.t 14), none, [0], []⟩,
    ⟨some 16, .move (.t 6), none, [], []⟩,
    ⟨some 17, .index (.sl tPlace) (.t 15) (.t 16), none, [], []⟩,
    ⟨some 18, .load (.d tPlace) (.t 17), none, [], []⟩,
    ⟨some 19, .load (.d tPlace) (.t 3), none, [1], []⟩,
    ⟨some 20, .eqs tPlace false (.t 18) (.t 19), none, [], []⟩]) (innkeepref06_Many.c12)) (innkeepref06_Many.c11))) (innkeepref06_Many.c10)
def innkeepref06_Many.c5 : Cd := .tidy [] [] [] (some 2)
def innkeepref06_Many.c4 : Cd := .seq (.seq (.seq (.seq (.reg false [⟨some 7, .move (.t 6), none, [], []⟩,
    ⟨some 8, .fieldAddr (.d tWorld) 3 (.t 2), none, [], []⟩,
    ⟨some 9, .load (.d (.sl tPlace)) (.t 8), none, [], []⟩,
    ⟨some 10, .len (.t 9), none, [], []⟩,
    ⟨some 11, .bin .lss (.t 7) (.t 10), none, [], []⟩]) (innkeepref06_Many.c8)) (innkeepref06_Many.c7)) (innkeepref06_Many.c6)) (innkeepref06_Many.c5)
def innkeepref06_Many.c3 : Cd := .block 0 (.loop (innkeepref06_Many.c4))
def innkeepref06_Many.c19 : Cd := .tidy [23] [] [] none
def innkeepref06_Many.c18 : Cd := .ret
def innkeepref06_Many.c2 : Cd := .seq (.seq (.reg false [⟨some 23, .move (.t 5), none, [], []⟩,
    ⟨some 4, .move (.t 23), none, [], []⟩]) (innkeepref06_Many.c19)) (innkeepref06_Many.c18)
def innkeepref06_Many.c1 : Cd := .seq (.seq (.reg false [⟨some 6, .move (.c (.int .i64) (0 : Int)), none, [], []⟩]) (innkeepref06_Many.c3)) (innkeepref06_Many.c2)
def innkeepref06_Many.c0 : Cd := .seq (.reg false [⟨some 5, .move (.c (.int .i64) (0 : Int)), none, [], []⟩]) (innkeepref06_Many.c1)
def innkeepref06_Many.fn : Fn := ⟨2, [.tmp 4], .seq (.reg false [⟨some 2, .box 0 (.t 0), none, [], []⟩,
    ⟨some 3, .box 1 (.t 1), none, [], []⟩,
    ⟨some 4, .move (.c (.int .i64) (0 : Int)), none, [], []⟩]) (innkeepref06_Many.c0)⟩
def innkeepref06_Cap.c2 : Cd := .tidy [5, 6, 7, 8, 9, 10, 11, 12, 13, 14, 15, 16, 17, 18] [] [] none
def innkeepref06_Cap.c1 : Cd := .ret
def innkeepref06_Cap.c0 : Cd := .seq (.seq (.reg false [⟨some 5, .fieldAddr (.d tWorld) 0 (.t 2), none, [], []⟩,
    ⟨some 6, .fieldAddr (.d tDesc) 5 (.t 5), none, [], []⟩,
    ⟨some 7, .load (.d (.int .i64)) (.t 6), none, [], []⟩,
    ⟨some 8, .fieldAddr (.d tWorld) 0 (.t 2), none, [], []⟩,
    ⟨some 9, .fieldAddr (.d tDesc) 6 (.t 8), none, [], []⟩,
    ⟨some 10, .load (.d (.int .i64)) (.t 9), none, [], []⟩,
    ⟨some 11, .fieldAddr (.d tWorld) 0 (.t 2), none, [], []⟩,
    ⟨some 12, .fieldAddr (.d tDesc) 7 (.t 11), none, [], []⟩,
    ⟨some 13, .load (.d (.int .i64)) (.t 12), none, [], []⟩,
    ⟨some 14, .slice 2 (.int .i64) [(.t 7), (.t 10), (.t 13)], none, [], []⟩,
    ⟨some 15, .fieldAddr (.d tPlace) 0 (.t 3), none, [], []⟩,
    ⟨some 16, .load (.d (.int .i64)) (.t 15), none, [], []⟩,
    ⟨some 17, .index (.sl (.int .i64)) (.t 14) (.t 16), none, [], []⟩,
    ⟨some 18, .load (.d (.int .i64)) (.t 17), none, [], []⟩,
    ⟨some 4, .move (.t 18), none, [], []⟩]) (innkeepref06_Cap.c2)) (innkeepref06_Cap.c1)
def innkeepref06_Cap.fn : Fn := ⟨2, [.tmp 4], .seq (.reg false [⟨some 2, .box 0 (.t 0), none, [], []⟩,
    ⟨some 3, .box 1 (.t 1), none, [], []⟩,
    ⟨some 4, .move (.c (.int .i64) (0 : Int)), none, [], []⟩]) (innkeepref06_Cap.c0)⟩
def innkeepref06_Right.c2 : Cd := .tidy [9, 10] [] [] none
def innkeepref06_Right.c5 : Cd := .tidy [11, 12, 13, 14, 15, 16, 17, 18, 19, 20, 21, 22, 23, 24, 25, 26, 27, 28, 29, 30, 31, 32, 33, 34, 35, 36, 37, 38, 39] [] [] none
def innkeepref06_Right.c7 : Cd := .ret
def innkeepref06_Right.c6 : Cd := .seq (.reg false [⟨some 2, .move (.c .bool false), none, [], []⟩]) (innkeepref06_Right.c7)
def innkeepref06_Right.c8 : Cd := .skip
def innkeepref06_Right.c4 : Cd := .cond (.t 40) (.seq (.tidy [40] [] [] none) (innkeepref06_Right.c6)) (.seq (.tidy [40] [] [] none) (innkeepref06_Right.c8))
def innkeepref06_Right.c15 : Cd := .tidy [41, 42, 43, 44] [] [] none
def innkeepref06_Right.c16 : Cd := .skip
def innkeepref06_Right.c24 : Cd := .exit 0
def innkeepref06_Right.c14 : Cd := .cond (.t 45) (.seq (.tidy [45] [] [] none) (innkeepref06_Right.c16)) (.seq (.tidy [45] [] [] none) (innkeepref06_Right.c24))
def innkeepref06_Right.c19 : Cd := .tidy [48, 49, 50, 51, 52, 53, 54, 55, 56, 57, 58, 59, 60, 61, 62, 63, 64, 65] [] [] none
def innkeepref06_Right.c21 : Cd := .ret
def innkeepref06_Right.c20 : Cd := .seq (.reg false [⟨some 2, .move (.c .bool false), none, [], []⟩]) (innkeepref06_Right.c21)
def innkeepref06_Right.c22 : Cd := .skip
def innkeepref06_Right.c18 : Cd := .cond (.t 66) (.seq (.tidy [66] [] [] none) (innkeepref06_Right.c20)) (.seq (.tidy [66] [] [] none) (innkeepref06_Right.c22))
def innkeepref06_Right.c23 : Cd := .tidy [46, 47] [] [] none
def innkeepref06_Right.c17 : Cd := .seq (.reg false [⟨some 46, .move (.t 4), none, [], []⟩,
    ⟨some 47, .bin .add (.t 46) (.c (.int .i64) (1 : Int)), none, [], []⟩,
    ⟨some 4, .move (.t 47), none, [], []⟩]) (innkeepref06_Right.c23)
def innkeepref06_Right.c13 : Cd := .seq (.block 1 (.seq (.seq (.reg true [⟨some 48, .fieldAddr (.d tWorld) 1 (.t 1), none, [0], []⟩,
    ⟨some 49, .load (.d (.sl (.int .i64))) (.t 48), none, [0], []⟩,
    ⟨some 50, .move (.t 4), none, [], []⟩,
    ⟨some 51, .index (.sl (.int .i64)) (.t 49) (.t 50), none, [], []⟩,
    ⟨some 52, .load (.d (.int .i64)) (.t 51), none, [], []⟩,
    ⟨some 53, .fieldAddr (.d tDesc) 0 (.t 3), none, [1], []⟩,
    ⟨some 54, .load (.d (.sl (.arr 4 (.int .i64)))) (.t 53), none, [1], []⟩,
    ⟨some 55, .len (.t 54), none, [], []⟩,
    ⟨some 56, .call (.f 39) [(.t 52), (.t 55)] [.d .bool] [] false, none, [], []⟩,
    ⟨some 57, .not (.t 56), none, [], []⟩,
    ⟨some 58, .move (.t 57), none, [], []⟩,
    ⟨some 59, .fieldAddr (.d tWorld) 2 (.t 1), some (58, false), [0], []⟩,
    ⟨some 60, .load (.d (.sl (.int .i64))) (.t 59), some (58, false), [0], []⟩,
    ⟨some 61, .move (.t 4), some (58, false), [], []⟩,
    ⟨some 62, .index (.sl (.int .i64)) (.t 60) (.t 61), some (58, false), [], []⟩,
    ⟨some 63, .load (.d (.int .i64)) (.t 62), some (58, false), [], []⟩,
    ⟨some 64, .call (.f 40) [(.t 63)] [.d .bool] [] false, some (58, false), [], []⟩,
    ⟨some 65, .not (.t 64), some (58, false), [], []⟩,
    ⟨some 66, .pick (.t 58) (.c .bool true) (.t 65), none, [], []⟩]) (innkeepref06_Right.c19)) (innkeepref06_Right.c18))) (innkeepref06_Right.c17)
def innkeepref06_Right.c12 : Cd := .tidy [] [] [] (some 2)
def innkeepref06_Right.c11 : Cd := .seq (.seq (.seq (.seq (.reg false [⟨some 41, .move (.t 4), none, [], []⟩,
    ⟨some 42, .fieldAddr (.d tWorld) 1 (.t 1), none, [], []⟩,
    ⟨some 43, .load (.d (.sl (.int .i64))) (.t 42), none, [], []⟩,
    ⟨some 44, .len (.t 43), none, [], []⟩,
    ⟨some 45, .bin .lss (.t 41) (.t 44), none, [], []⟩]) (innkeepref06_Right.c15)) (innkeepref06_Right.c14)) (innkeepref06_Right.c13)) (innkeepref06_Right.c12)
def innkeepref06_Right.c10 : Cd := .block 0 (.loop (innkeepref06_Right.c11))
def innkeepref06_Right.c31 : Cd := .tidy [67, 68, 69, 70] [] [] none
def innkeepref06_Right.c32 : Cd := .skip
def innkeepref06_Right.c44 : Cd := .exit 2
def innkeepref06_Right.c30 : Cd := .cond (.t 71) (.seq (.tidy [71] [] [] none) (innkeepref06_Right.c32)) (.seq (.tidy [71] [] [] none) (innkeepref06_Right.c44))
def innkeepref06_Right.c35 : Cd := .tidy [74, 75, 76, 77, 78] [] [] none
def innkeepref06_Right.c37 : Cd := .tidy [79, 80, 81, 82, 83, 84, 85, 86, 87, 88, 89, 90, 91, 92, 93, 94, 95, 96, 97, 98, 99, 100, 101, 102, 103, 104, 105, 106, 107, 108, 109, 110, 111, 112, 113, 114, 115, 116, 117, 118, 119, 120, 121, 122, 123] [] [] none
def innkeepref06_Right.c39 : Cd := .tidy [124] [] [] none
def innkeepref06_Right.c43 : Cd := .ret
def innkeepref06_Right.c42 : Cd := .seq (.reg false [⟨some 2, .move (.c .bool false), none, [], []⟩]) (innkeepref06_Right.c43)
def innkeepref06_Right.c40 : Cd := .skip
def innkeepref06_Right.c38 : Cd := .cond (.t 125) (.seq (.tidy [125] [] [] none) (innkeepref06_Right.c42)) (.seq (.tidy [125] [] [] none) (innkeepref06_Right.c40))
def innkeepref06_Right.c36 : Cd := .seq (.seq (.reg false [⟨some 124, .move (.t 7), none, [], []⟩,
    ⟨some 125, .not (.t 124), none, [], []⟩]) (innkeepref06_Right.c39)) (innkeepref06_Right.c38)
def innkeepref06_Right.c34 : Cd := .seq (.seq (.reg false [⟨some 79, .fieldAddr (.d tPlace) 0 (.t 6), none, [], []⟩,
    ⟨some 80, .load (.d (.int .i64)) (.t 79), none, [], []⟩,
    ⟨some 81, .bin .eql (.t 80) (.c (.int .i64) (0 : Int)), none, [], []⟩,
    ⟨some 82, .move (.t 81), none, [], []⟩,
    ⟨some 83, .fieldAddr (.d tPlace) 1 (.t 6), some (82, true), [], []⟩,
    ⟨some 84, .load (.d (.int .i64)) (.t 83), some (82, true), [], []⟩,
    ⟨some 85, .fieldAddr (.d tDesc) 0 (.t 3), some (82, true), [], []⟩,
    ⟨some 86, .load (.d (.sl (.arr 4 (.int .i64)))) (.t 85), some (82, true), [], []⟩,
    ⟨some 87, .len (.t 86), some (82, true), [], []⟩,
    ⟨some 88, .call (.f 39) [(.t 84), (.t 87)] [.d .bool] [] false, some (82, true), [], []⟩,
    ⟨some 89, .pick (.t 82) (.t 88) (.c .bool false), none, [], []⟩,
    ⟨some 90, .move (.t 89), none, [], []⟩,
    ⟨some 91, .fieldAddr (.d tPlace) 0 (.t 6), some (90, false), [], []⟩,
    ⟨some 92, .load (.d (.int .i64)) (.t 91), some (90, false), [], []⟩,
    ⟨some 93, .bin .eql (.t 92) (.c (.int .i64) (1 : Int)), some (90, false), [], []⟩,
    ⟨some 94, .move (.t 93), some (90, false), [], []⟩,
    ⟨some 95, .fieldAddr (.d tPlace) 1 (.t 6), some (94, true), [], []⟩,
    ⟨some 96, .load (.d (.int .i64)) (.t 95), some (94, true), [], []⟩,
    ⟨some 97, .fieldAddr (.d tDesc) 1 (.t 3), some (94, true), [], []⟩,
    ⟨some 98, .load (.d (.sl (.int .i64))) (.t 97), some (94, true), [], []⟩,
    ⟨some 99, .len (.t 98), some (94, true), [], []⟩,
    ⟨some 100, .call (.f 39) [(.t 96), (.t 99)] [.d .bool] [] false, some (94, true), [], []⟩,
    ⟨some 101, .pick (.t 94) (.t 100) (.c .bool false), some (90, false), [], []⟩,
    ⟨some 102, .pick (.t 90) (.c .bool true) (.t 101), none, [], []⟩,
    ⟨some 103, .move (.t 102), none, [], []⟩,
    ⟨some 104, .fieldAddr (.d tPlace) 0 (.t 6), some (103, false), [], []⟩,
    ⟨some 105, .load (.d (.int .i64)) (.t 104), some (103, false), [], []⟩,
    ⟨some 106, .bin .eql (.t 105) (.c (.int .i64) (2 : Int)), some (103, false), [], []⟩,
    ⟨some 107, .move (.t 106), some (103, false), [], []⟩,
    ⟨some 108, .fieldAddr (.d tPlace) 1 (.t 6), some (107, true), [], []⟩,
    ⟨some 109, .load (.d (.int .i64)) (.t 108), some (107, true), [], []⟩,
    ⟨some 110, .fieldAddr (.d tDesc) 3 (.t 3), some (107, true), [], []⟩,
    ⟨some 111, .load (.d (.sl (.int .i64))) (.t 110), some (107, true), [], []⟩,
    ⟨some 112, .len (.t 111), some (107, true), [], []⟩,
    ⟨some 113, .call (.f 39) [(.t 109), (.t 112)] [.d .bool] [] false, some (107, true), [], []⟩,
    ⟨some 114, .pick (.t 107) (.t 113) (.c .bool false), some (103, false), [], []⟩,
    ⟨some 115, .move (.t 114), some (103, false), [], []⟩,
    ⟨some 116, .fieldAddr (.d tDesc) 4 (.t 3), some (115, true), [], []⟩,
    ⟨some 117, .load (.d (.sl .bool)) (.t 116), some (115, true), [], []⟩,
    ⟨some 118, .fieldAddr (.d tPlace) 1 (.t 6), some (115, true), [], []⟩,
    ⟨some 119, .load (.d (.int .i64)) (.t 118), some (115, true), [], []⟩,
    ⟨some 120, .index (.sl .bool) (.t 117) (.t 119), some (115, true), [], []⟩,
    ⟨some 121, .load (.d .bool) (.t 120), some (115, true), [], []⟩,
    ⟨some 122, .pick (.t 115) (.t 121) (.c .bool false), some (103, false), [], []⟩,
    ⟨some 123, .pick (.t 103) (.c .bool true) (.t 122), none, [], []⟩,
    ⟨some 7, .move (.t 123), none, [], []⟩]) (innkeepref06_Right.c37)) (innkeepref06_Right.c36)
def innkeepref06_Right.c41 : Cd := .tidy [72, 73] [] [] none
def innkeepref06_Right.c33 : Cd := .seq (.reg false [⟨some 72, .move (.t 5), none, [], []⟩,
    ⟨some 73, .bin .add (.t 72) (.c (.int .i64) (1 : Int)), none, [], []⟩,
    ⟨some 5, .move (.t 73), none, [], []⟩]) (innkeepref06_Right.c41)
def innkeepref06_Right.c29 : Cd := .seq (.block 3 (.seq (.seq (.reg false [⟨some 74, .fieldAddr (.d tWorld) 3 (.t 1), none, [], []⟩,
    ⟨some 75, .load (.d (.sl tPlace)) (.t 74), none, [], []⟩,
    ⟨some 76, .move (.t 5), none, [], []⟩,
    ⟨some 77, .index (.sl tPlace) (.t 75) (.t 76), none, [], []⟩,
    ⟨some 78, .load (.d tPlace) (.t 77), none, [], []⟩,
    ⟨some 6, .newbox 2 tPlace [], none, [], []⟩,
    ⟨none, .store (.d tPlace) (.t 6) (.t 78), none, [], []⟩]) (innkeepref06_Right.c35)) (innkeepref06_Right.c34))) (innkeepref06_Right.c33)
def innkeepref06_Right.c28 : Cd := .tidy [6, 7] [] [] (some 2)
def innkeepref06_Right.c27 : Cd := .seq (.seq (.seq (.seq (.reg false [⟨some 67, .move (.t 5), none, [], []⟩,
    ⟨some 68, .fieldAddr (.d tWorld) 3 (.t 1), none, [], []⟩,
    ⟨some 69, .load (.d (.sl tPlace)) (.t 68), none, [], []⟩,
    ⟨some 70, .len (.t 69), none, [], []⟩,
    ⟨some 71, .bin .lss (.t 67) (.t 70), none, [], []⟩]) (innkeepref06_Right.c31)) (innkeepref06_Right.c30)) (innkeepref06_Right.c29)) (innkeepref06_Right.c28)
def innkeepref06_Right.c26 : Cd := .block 2 (.loop (innkeepref06_Right.c27))
def innkeepref06_Right.c51 : Cd := .tidy [126, 127, 128, 129] [] [] none
def innkeepref06_Right.c52 : Cd := .skip
def innkeepref06_Right.c60 : Cd := .exit 4
def innkeepref06_Right.c50 : Cd := .cond (.t 130) (.seq (.tidy [130] [] [] none) (innkeepref06_Right.c52)) (.seq (.tidy [130] [] [] none) (innkeepref06_Right.c60))
def innkeepref06_Right.c55 : Cd := .tidy [133, 134, 135, 136, 137, 138, 139, 140, 141, 142, 143, 144, 145, 146, 147, 148, 149, 150, 151, 152, 153, 154, 155, 156] [] [] none
def innkeepref06_Right.c57 : Cd := .ret
def innkeepref06_Right.c56 : Cd := .seq (.reg false [⟨some 2, .move (.c .bool false), none, [], []⟩]) (innkeepref06_Right.c57)
def innkeepref06_Right.c58 : Cd := .skip
def innkeepref06_Right.c54 : Cd := .cond (.t 157) (.seq (.tidy [157] [] [] none) (innkeepref06_Right.c56)) (.seq (.tidy [157] [] [] none) (innkeepref06_Right.c58))
def innkeepref06_Right.c59 : Cd := .tidy [131, 132] [] [] none
def innkeepref06_Right.c53 : Cd := .seq (.reg false [⟨some 131, .move (.t 8), none, [], []⟩,
    ⟨some 132, .bin .add (.t 131) (.c (.int .i64) (1 : Int)), none, [], []⟩,
    ⟨some 8, .move (.t 132), none, [], []⟩]) (innkeepref06_Right.c59)
def innkeepref06_Right.c49 : Cd := .seq (.block 5 (.seq (.seq (.reg true [⟨some 133, .load (.d tWorld) (.t 1), none, [0], []⟩,
    ⟨some 134, .fieldAddr (.d tWorld) 3 (.t 1), none, [0], []⟩,
    ⟨some 135, .load (.d (.sl tPlace)) (.t 134), none, [0], []⟩,
    ⟨some 136, .move (.t 8), none, [], []⟩,
    ⟨some 137, .index (.sl tPlace) (.t 135) (.t 136), none, [], []⟩,
    ⟨some 138, .load (.d tPlace) (.t 137), none, [], []⟩,
    ⟨some 139, .call (.f 36) [(.t 133), (.t 138)] [.d (.int .i64)] [] false, none, [], []⟩,
    ⟨some 140, .bin .gtr (.t 139) (.c (.int .i64) (4 : Int)), none, [], []⟩,
    ⟨some 141, .move (.t 140), none, [], []⟩,
    ⟨some 142, .load (.d tWorld) (.t 1), some (141, false), [0], []⟩,
    ⟨some 143, .fieldAddr (.d tWorld) 3 (.t 1), some (141, false), [0], []⟩,
    ⟨some 144, .load (.d (.sl tPlace)) (.t 143), some (141, false), [0], []⟩,
    ⟨some 145, .move (.t 8), some (141, false), [], []⟩,
    ⟨some 146, .index (.sl tPlace) (.t 144) (.t 145), some (141, false), [], []⟩,
    ⟨some 147, .load (.d tPlace) (.t 146), some (141, false), [], []⟩,
    ⟨some 148, .call (.f 33) [(.t 142), (.t 147)] [.d (.int .i64)] [] false, some (141, false), [], []⟩,
    ⟨some 149, .load (.d tWorld) (.t 1), some (141, false), [0], []⟩,
    ⟨some 150, .fieldAddr (.d tWorld) 3 (.t 1), some (141, false), [0], []⟩,
    ⟨some 151, .load (.d (.sl tPlace)) (.t 150), some (141, false), [0], []⟩,
    ⟨some 152, .move (.t 8), some (141, false), [], []⟩,
    ⟨some 153, .index (.sl tPlace) (.t 151) (.t 152), some (141, false), [], []⟩,
    ⟨some 154, .load (.d tPlace) (.t 153), some (141, false), [], []⟩,
    ⟨some 155, .call (.f 32) [(.t 149), (.t 154)] [.d (.int .i64)] [] false, some (141, false), [], []⟩,
    ⟨some 156, .bin .gtr (.t 148) (.t 155), some (141, false), [], []⟩,
    ⟨some 157, .pick (.t 141) (.c .bool true) (.t 156), none, [], []⟩]) (innkeepref06_Right.c55)) (innkeepref06_Right.c54))) (innkeepref06_Right.c53)
def innkeepref06_Right.c48 : Cd := .tidy [] [] [] (some 2)
def innkeepref06_Right.c47 : Cd := .seq (.seq (.seq (.seq (.reg false [⟨some 126, .move (.t 8), none, [], []⟩,
    ⟨some 127, .fieldAddr (.d tWorld) 3 (.t 1), none, [], []⟩,
    ⟨some 128, .load (.d (.sl tPlace)) (.t 127), none, [], []⟩,
    ⟨some 129, .len (.t 128), none, [], []⟩,
    ⟨some 130, .bin .lss (.t 126) (.t 129), none, [], []⟩]) (innkeepref06_Right.c51)) (innkeepref06_Right.c50)) (innkeepref06_Right.c49)) (innkeepref06_Right.c48)
def innkeepref06_Right.c46 : Cd := .block 4 (.loop (innkeepref06_Right.c47))
def innkeepref06_Right.c61 : Cd := .ret
def innkeepref06_Right.c45 : Cd := .seq (.reg false [⟨some 2, .move (.c .bool true), none, [], []⟩]) (innkeepref06_Right.c61)
def innkeepref06_Right.c25 : Cd := .seq (.seq (.reg false [⟨some 8, .move (.c (.int .i64) (0 : Int)), none, [], []⟩]) (innkeepref06_Right.c46)) (innkeepref06_Right.c45)
def innkeepref06_Right.c9 : Cd := .seq (.seq (.reg false [⟨some 5, .move (.c (.int .i64) (0 : Int)), none, [], []⟩]) (innkeepref06_Right.c26)) (innkeepref06_Right.c25)
def innkeepref06_Right.c3 : Cd := .seq (.seq (.reg false [⟨some 4, .move (.c (.int .i64) (0 : Int)), none, [], []⟩]) (innkeepref06_Right.c10)) (innkeepref06_Right.c9)
def innkeepref06_Right.c1 : Cd := .seq (.seq (.seq (.reg false [⟨some 11, .load (.d tDesc) (.t 3), none, [], []⟩,
    ⟨some 12, .call (.f 38) [(.t 11)] [.d .bool] [] false, none, [], []⟩,
    ⟨some 13, .not (.t 12), none, [], []⟩,
    ⟨some 14, .move (.t 13), none, [], []⟩,
    ⟨some 15, .fieldAddr (.d tWorld) 1 (.t 1), some (14, false), [], []⟩,
    ⟨some 16, .load (.d (.sl (.int .i64))) (.t 15), some (14, false), [], []⟩,
    ⟨some 17, .len (.t 16), some (14, false), [], []⟩,
    ⟨some 18, .fieldAddr (.d tDesc) 1 (.t 3), some (14, false), [], []⟩,
    ⟨some 19, .load (.d (.sl (.int .i64))) (.t 18), some (14, false), [], []⟩,
    ⟨some 20, .len (.t 19), some (14, false), [], []⟩,
    ⟨some 21, .bin .neq (.t 17) (.t 20), some (14, false), [], []⟩,
    ⟨some 22, .pick (.t 14) (.c .bool true) (.t 21), none, [], []⟩,
    ⟨some 23, .move (.t 22), none, [], []⟩,
    ⟨some 24, .fieldAddr (.d tWorld) 2 (.t 1), some (23, false), [], []⟩,
    ⟨some 25, .load (.d (.sl (.int .i64))) (.t 24), some (23, false), [], []⟩,
    ⟨some 26, .len (.t 25), some (23, false), [], []⟩,
    ⟨some 27, .fieldAddr (.d tDesc) 1 (.t 3), some (23, false), [], []⟩,
    ⟨some 28, .load (.d (.sl (.int .i64))) (.t 27), some (23, false), [], []⟩,
    ⟨some 29, .len (.t 28), some (23, false), [], []⟩,
    ⟨some 30, .bin .neq (.t 26) (.t 29), some (23, false), [], []⟩,
    ⟨some 31, .pick (.t 23) (.c .bool true) (.t 30), none, [], []⟩,
    ⟨some 32, .move (.t 31), none, [], []⟩,
    ⟨some 33, .fieldAddr (.d tWorld) 3 (.t 1), some (32, false), [], []⟩,
    ⟨some 34, .load (.d (.sl tPlace)) (.t 33), some (32, false), [], []⟩,
    ⟨some 35, .len (.t 34), some (32, false), [], []⟩,
    ⟨some 36, .fieldAddr (.d tDesc) 3 (.t 3), some (32, false), [], []⟩,
    ⟨some 37, .load (.d (.sl (.int .i64))) (.t 36), some (32, false), [], []⟩,
    ⟨some 38, .len (.t 37), some (32, false), [], []⟩,
    ⟨some 39, .bin .neq (.t 35) (.t 38), some (32, false), [], []⟩,
    ⟨some 40, .pick (.t 32) (.c .bool true) (.t 39), none, [], []⟩]) (innkeepref06_Right.c5)) (innkeepref06_Right.c4)) (innkeepref06_Right.c3)
def innkeepref06_Right.c0 : Cd := .seq (.seq (.reg false [⟨some 9, .fieldAddr (.d tWorld) 0 (.t 1), none, [], []⟩,
    ⟨some 10, .load (.d tDesc) (.t 9), none, [], []⟩,
    ⟨some 3, .newbox 1 tDesc [], none, [], []⟩,
    ⟨none, .store (.d tDesc) (.t 3) (.t 10), none, [], []⟩]) (innkeepref06_Right.c2)) (innkeepref06_Right.c1)
def innkeepref06_Right.fn : Fn := ⟨1, [.tmp 2], .seq (.reg false [⟨some 1, .box 0 (.t 0), none, [], []⟩,
    ⟨some 2, .move (.c .bool false), none, [], []⟩]) (innkeepref06_Right.c0)⟩
def innkeeplaw07_fits.c2 : Cd := .tidy [3, 4, 5, 6, 7, 8] [] [] none
def innkeeplaw07_fits.c1 : Cd := .ret
def innkeeplaw07_fits.c0 : Cd := .seq (.seq (.reg false [⟨some 3, .load (.d tWorld) (.t 1), none, [], []⟩,
    ⟨some 4, .call (.f 31) [(.t 3)] [.d .bool] [] false, none, [], []⟩,
    ⟨some 5, .move (.t 4), none, [], []⟩,
    ⟨some 6, .load (.d tWorld) (.t 1), some (5, true), [], []⟩,
    ⟨some 7, .call (.f 29) [(.t 6)] [.d .bool] [] false, some (5, true), [], []⟩,
    ⟨some 8, .pick (.t 5) (.t 7) (.c .bool false), none, [], []⟩,
    ⟨some 2, .move (.t 8), none, [], []⟩]) (innkeeplaw07_fits.c2)) (innkeeplaw07_fits.c1)
def innkeeplaw07_fits.fn : Fn := ⟨1, [.tmp 2], .seq (.reg false [⟨some 1, .box 0 (.t 0), none, [], []⟩,
    ⟨some 2, .move (.c .bool false), none, [], []⟩]) (innkeeplaw07_fits.c0)⟩
def innkeepref07_Is.c2 : Cd := .tidy [5, 6, 7, 8, 9, 10, 11, 12, 13, 14, 15, 16, 17, 18, 19, 20, 21, 22, 23, 24, 25, 26, 27, 28, 29, 30, 31, 32, 33, 34, 35, 36, 37, 38, 39, 40, 41, 42, 43, 44, 45, 46, 47] [] [] none
def innkeepref07_Is.c1 : Cd := .ret
def innkeepref07_Is.c0 : Cd := .seq (.seq (.reg false [⟨some 5, .fieldAddr (.d tPlace) 1 (.t 3), none, [], []⟩,
    ⟨some 6, .load (.d (.int .i64)) (.t 5), none, [], []⟩,
    ⟨some 7, .bin .geq (.t 6) (.c (.int .i64) (0 : Int)), none, [], []⟩,
    ⟨some 8, .move (.t 7), none, [], []⟩,
    ⟨some 9, .fieldAddr (.d tPlace) 0 (.t 3), some (8, true), [], []⟩,
    ⟨some 10, .load (.d (.int .i64)) (.t 9), some (8, true), [], []⟩,
    ⟨some 11, .bin .eql (.t 10) (.c (.int .i64) (0 : Int)), some (8, true), [], []⟩,
    ⟨some 12, .move (.t 11), some (8, true), [], []⟩,
    ⟨some 13, .fieldAddr (.d tPlace) 1 (.t 3), some (12, true), [], []⟩,
    ⟨some 14, .load (.d (.int .i64)) (.t 13), some (12, true), [], []⟩,
    ⟨some 15, .fieldAddr (.d tWorld) 0 (.t 2), some (12, true), [], []⟩,
    ⟨some 16, .fieldAddr (.d tDesc) 0 (.t 15), some (12, true), [], []⟩,
    ⟨some 17, .load (.d (.sl (.arr 4 (.int .i64)))) (.t 16), some (12, true), [], []⟩,
    ⟨some 18, .len (.t 17), some (12, true), [], []⟩,
    ⟨some 19, .bin .lss (.t 14) (.t 18), some (12, true), [], []⟩,
    ⟨some 20, .pick (.t 12) (.t 19) (.c .bool false), some (8, true), [], []⟩,
    ⟨some 21, .move (.t 20), some (8, true), [], []⟩,
    ⟨some 22, .fieldAddr (.d tPlace) 0 (.t 3), some (21, false), [], []⟩,
    ⟨some 23, .load (.d (.int .i64)) (.t 22), some (21, false), [], []⟩,
    ⟨some 24, .bin .eql (.t 23) (.c (.int .i64) (1 : Int)), some (21, false), [], []⟩,
    ⟨some 25, .move (.t 24), some (21, false), [], []⟩,
    ⟨some 26, .fieldAddr (.d tPlace) 1 (.t 3), some (25, true), [], []⟩,
    ⟨some 27, .load (.d (.int .i64)) (.t 26), some (25, true), [], []⟩,
    ⟨some 28, .fieldAddr (.d tWorld) 1 (.t 2), some (25, true), [], []⟩,
    ⟨some 29, .load (.d (.sl (.int .i64))) (.t 28), some (25, true), [], []⟩,
    ⟨some 30, .len (.t 29), some (25, true), [], []⟩,
    ⟨some 31, .bin .lss (.t 27) (.t 30), some (25, true), [], []⟩,
    ⟨some 32, .pick (.t 25) (.t 31) (.c .bool false), some (21, false), [], []⟩,
    ⟨some 33, .pick (.t 21) (.c .bool true) (.t 32), some (8, true), [], []⟩,
    ⟨some 34, .move (.t 33), some (8, true), [], []⟩,
    ⟨some 35, .fieldAddr (.d tPlace) 0 (.t 3), some (34, false), [], []⟩,
    ⟨some 36, .load (.d (.int .i64)) (.t 35), some (34, false), [], []⟩,
    ⟨some 37, .bin .eql (.t 36) (.c (.int .i64) (2 : Int)), some (34, false), [], []⟩,
    ⟨some 38, .move (.t 37), some (34, false), [], []⟩,
    ⟨some 39, .fieldAddr (.d tPlace) 1 (.t 3), some (38, true), [], []⟩,
    ⟨some 40, .load (.d (.int .i64)) (.t 39), some (38, true), [], []⟩,
    ⟨some 41, .fieldAddr (.d tWorld) 3 (.t 2), some (38, true), [], []⟩,
    ⟨some 42, .load (.d (.sl tPlace)) (.t 41), some (38, true), [], []⟩,
    ⟨some 43, .len (.t 42), some (38, true), [], []⟩,
    ⟨some 44, .bin .lss (.t 40) (.t 43), some (38, true), [], []⟩,
    ⟨some 45, .pick (.t 38) (.t 44) (.c .bool false), some (34, false), [], []⟩,
    ⟨some 46, .pick (.t 34) (.c .bool true) (.t 45), some (8, true), [], []⟩,
    ⟨some 47, .pick (.t 8) (.t 46) (.c .bool false), none, [], []⟩,
    ⟨some 4, .move (.t 47), none, [], []⟩]) (innkeepref07_Is.c2)) (innkeepref07_Is.c1)
def innkeepref07_Is.fn : Fn := ⟨2, [.tmp 4], .seq (.reg false [⟨some 2, .box 0 (.t 0), none, [], []⟩,
    ⟨some 3, .box 1 (.t 1), none, [], []⟩,
    ⟨some 4, .move (.c .bool false), none, [], []⟩]) (innkeepref07_Is.c0)⟩
def innkeepref07_In.c8 : Cd := .tidy [7, 8, 9, 10] [] [] none
def innkeepref07_In.c9 : Cd := .skip
def innkeepref07_In.c17 : Cd := .exit 0
def innkeepref07_In.c7 : Cd := .cond (.t 11) (.seq (.tidy [11] [] [] none) (innkeepref07_In.c9)) (.seq (.tidy [11] [] [] none) (innkeepref07_In.c17))
def innkeepref07_In.c12 : Cd := .tidy [14, 15, 16, 17, 18, 19] [] [] none
def innkeepref07_In.c14 : Cd := .tidy [21, 22, 23, 24] [] [] none
def innkeepref07_In.c13 : Cd := .seq (.reg false [⟨some 21, .move (.t 5), none, [], []⟩,
    ⟨some 22, .move (.t 6), none, [], []⟩,
    ⟨some 23, .slice 2 (.int .i64) [(.t 22)], none, [], []⟩,
    ⟨some 24, .append 3 (.int .i64) (.t 21) (.t 23), none, [], []⟩,
    ⟨some 5, .move (.t 24), none, [], []⟩]) (innkeepref07_In.c14)
def innkeepref07_In.c16 : Cd := .skip
def innkeepref07_In.c11 : Cd := .cond (.t 20) (.seq (.tidy [20] [] [] none) (innkeepref07_In.c13)) (.seq (.tidy [20] [] [] none) (innkeepref07_In.c16))
def innkeepref07_In.c15 : Cd := .tidy [12, 13] [] [] none
def innkeepref07_In.c10 : Cd := .seq (.reg false [⟨some 12, .move (.t 6), none, [], []⟩,
    ⟨some 13, .bin .add (.t 12) (.c (.int .i64) (1 : Int)), none, [], []⟩,
    ⟨some 6, .move (.t 13), none, [], []⟩]) (innkeepref07_In.c15)
def innkeepref07_In.c6 : Cd := .seq (.block 1 (.seq (.seq (.reg true [⟨some 14, .fieldAddr (.d tWorld) 3 (.t 2), none, [0], []⟩,
    ⟨some 15, .load (.d (.sl tPlace)) (.t 14), none, [0], []⟩,
    ⟨some 16, .move (.t 6), none, [], []⟩,
    ⟨some 17, .index (.sl tPlace) (.t 15) (.t 16), none, [], []⟩,
    ⟨some 18, .load (.d tPlace) (.t 17), none, [], []⟩,
    ⟨some 19, .load (.d tPlace) (.t 3), none, [1], []⟩,
    ⟨some 20, .eqs tPlace false (.t 18) (.t 19), none, [], []⟩]) (innkeepref07_In.c12)) (innkeepref07_In.c11))) (innkeepref07_In.c10)
def innkeepref07_In.c5 : Cd := .tidy [] [(3, 4)] [2] (some 5)
def innkeepref07_In.c4 : Cd := .seq (.seq (.seq (.seq (.reg false [⟨some 7, .move (.t 6), none, [], []⟩,
    ⟨some 8, .fieldAddr (.d tWorld) 3 (.t 2), none, [], []⟩,
    ⟨some 9, .load (.d (.sl tPlace)) (.t 8), none, [], []⟩,
    ⟨some 10, .len (.t 9), none, [], []⟩,
    ⟨some 11, .bin .lss (.t 7) (.t 10), none, [], []⟩]) (innkeepref07_In.c8)) (innkeepref07_In.c7)) (innkeepref07_In.c6)) (innkeepref07_In.c5)
def innkeepref07_In.c3 : Cd := .block 0 (.loop (innkeepref07_In.c4))
def innkeepref07_In.c19 : Cd := .tidy [25] [] [] none
def innkeepref07_In.c18 : Cd := .ret
def innkeepref07_In.c2 : Cd := .seq (.seq (.reg false [⟨some 25, .move (.t 5), none, [], []⟩,
    ⟨some 4, .move (.t 25), none, [], []⟩]) (innkeepref07_In.c19)) (innkeepref07_In.c18)
def innkeepref07_In.c1 : Cd := .seq (.seq (.reg false [⟨some 6, .move (.c (.int .i64) (0 : Int)), none, [], []⟩]) (innkeepref07_In.c3)) (innkeepref07_In.c2)
def innkeepref07_In.c0 : Cd := .seq (.reg false [⟨some 5, .mknil 4 (.int .i64), none, [], []⟩]) (innkeepref07_In.c1)
def innkeepref07_In.fn : Fn := ⟨2, [.tmp 4], .seq (.reg false [⟨some 2, .box 0 (.t 0), none, [], []⟩,
    ⟨some 3, .box 1 (.t 1), none, [], []⟩,
    ⟨some 4, .move (.c (.sl (.int .i64)) []), none, [], []⟩]) (innkeepref07_In.c0)⟩
def innkeepref07_Room.c2 : Cd := .tidy [5, 6, 7, 8, 9, 10, 11] [] [] none
def innkeepref07_Room.c1 : Cd := .ret
def innkeepref07_Room.c0 : Cd := .seq (.seq (.reg true [⟨some 5, .load (.d tWorld) (.t 2), none, [0], []⟩,
    ⟨some 6, .load (.d tPlace) (.t 3), none, [1], []⟩,
    ⟨some 7, .call (.f 32) [(.t 5), (.t 6)] [.d (.int .i64)] [] false, none, [], []⟩,
    ⟨some 8, .load (.d tWorld) (.t 2), none, [0], []⟩,
    ⟨some 9, .load (.d tPlace) (.t 3), none, [1], []⟩,
    ⟨some 10, .call (.f 33) [(.t 8), (.t 9)] [.d (.int .i64)] [] false, none, [], []⟩,
    ⟨some 11, .bin .sub (.t 7) (.t 10), none, [], []⟩,
    ⟨some 4, .move (.t 11), none, [], []⟩]) (innkeepref07_Room.c2)) (innkeepref07_Room.c1)
def innkeepref07_Room.fn : Fn := ⟨2, [.tmp 4], .seq (.reg false [⟨some 2, .box 0 (.t 0), none, [], []⟩,
    ⟨some 3, .box 1 (.t 1), none, [], []⟩,
    ⟨some 4, .move (.c (.int .i64) (0 : Int)), none, [], []⟩]) (innkeepref07_Room.c0)⟩
def innkeepref07_Root.c2 : Cd := .tidy [6, 7, 8, 9, 10] [] [] none
def innkeepref07_Root.c5 : Cd := .tidy [11, 12] [] [] none
def innkeepref07_Root.c8 : Cd := .tidy [14] [] [] none
def innkeepref07_Root.c7 : Cd := .ret
def innkeepref07_Root.c6 : Cd := .seq (.seq (.reg false [⟨some 14, .load (.d tPlace) (.t 5), none, [], []⟩,
    ⟨none, .store (.d tPlace) (.t 4) (.t 14), none, [], []⟩]) (innkeepref07_Root.c8)) (innkeepref07_Root.c7)
def innkeepref07_Root.c9 : Cd := .skip
def innkeepref07_Root.c4 : Cd := .cond (.t 13) (.seq (.tidy [13] [] [] none) (innkeepref07_Root.c6)) (.seq (.tidy [13] [] [] none) (innkeepref07_Root.c9))
def innkeepref07_Root.c11 : Cd := .tidy [15, 16, 17, 18] [] [] none
def innkeepref07_Root.c10 : Cd := .ret
def innkeepref07_Root.c3 : Cd := .seq (.seq (.reg false [⟨some 15, .load (.d tWorld) (.t 2), none, [], []⟩,
    ⟨some 16, .fieldAddr (.d tPlace) 1 (.t 5), none, [], []⟩,
    ⟨some 17, .load (.d (.int .i64)) (.t 16), none, [], []⟩,
    ⟨some 18, .call (.f 20) [(.t 15), (.t 17)] [.d tPlace] [] false, none, [], []⟩,
    ⟨none, .store (.d tPlace) (.t 4) (.t 18), none, [], []⟩]) (innkeepref07_Root.c11)) (innkeepref07_Root.c10)
def innkeepref07_Root.c1 : Cd := .seq (.seq (.seq (.reg false [⟨some 11, .fieldAddr (.d tPlace) 0 (.t 5), none, [], []⟩,
    ⟨some 12, .load (.d (.int .i64)) (.t 11), none, [], []⟩,
    ⟨some 13, .bin .neq (.t 12) (.c (.int .i64) (2 : Int)), none, [], []⟩]) (innkeepref07_Root.c5)) (innkeepref07_Root.c4)) (innkeepref07_Root.c3)
def innkeepref07_Root.c0 : Cd := .seq (.seq (.reg false [⟨some 6, .fieldAddr (.d tWorld) 3 (.t 2), none, [], []⟩,
    ⟨some 7, .load (.d (.sl tPlace)) (.t 6), none, [], []⟩,
    ⟨some 8, .move (.t 1), none, [], []⟩,
    ⟨some 9, .index (.sl tPlace) (.t 7) (.t 8), none, [], []⟩,
    ⟨some 10, .load (.d tPlace) (.t 9), none, [], []⟩,
    ⟨some 5, .newbox 2 tPlace [], none, [], []⟩,
    ⟨none, .store (.d tPlace) (.t 5) (.t 10), none, [], []⟩]) (innkeepref07_Root.c2)) (innkeepref07_Root.c1)
def innkeepref07_Root.fn : Fn := ⟨2, [.cell 4 (.d tPlace)], .seq (.reg false [⟨some 2, .box 0 (.t 0), none, [], []⟩,
    ⟨some 4, .newbox 1 tPlace [], none, [], []⟩]) (innkeepref07_Root.c0)⟩
def innkeepref07_Under.c8 : Cd := .tidy [7, 8, 9, 10] [] [] none
def innkeepref07_Under.c9 : Cd := .skip
def innkeepref07_Under.c17 : Cd := .exit 0
def innkeepref07_Under.c7 : Cd := .cond (.t 11) (.seq (.tidy [11] [] [] none) (innkeepref07_Under.c9)) (.seq (.tidy [11] [] [] none) (innkeepref07_Under.c17))
def innkeepref07_Under.c12 : Cd := .tidy [14, 15, 16, 17] [] [] none
def innkeepref07_Under.c14 : Cd := .tidy [19, 20, 21, 22, 23, 24, 25, 26, 27, 28] [] [] none
def innkeepref07_Under.c13 : Cd := .seq (.reg false [⟨some 19, .move (.t 5), none, [], []⟩,
    ⟨some 20, .move (.t 6), none, [], []⟩,
    ⟨some 21, .fieldAddr (.d tWorld) 3 (.t 2), none, [], []⟩,
    ⟨some 22, .load (.d (.sl tPlace)) (.t 21), none, [], []⟩,
    ⟨some 23, .move (.t 6), none, [], []⟩,
    ⟨some 24, .index (.sl tPlace) (.t 22) (.t 23), none, [], []⟩,
    ⟨some 25, .load (.d tPlace) (.t 24), none, [], []⟩,
    ⟨some 26, .build tSeen [(0, (.t 20)), (1, (.t 25))] [], none, [], []⟩,
    ⟨some 27, .slice 2 tSeen [(.t 26)], none, [], []⟩,
    ⟨some 28, .append 3 tSeen (.t 19) (.t 27), none, [], []⟩,
    ⟨some 5, .move (.t 28), none, [], []⟩]) (innkeepref07_Under.c14)
def innkeepref07_Under.c16 : Cd := .skip
def innkeepref07_Under.c11 : Cd := .cond (.t 18) (.seq (.tidy [18] [] [] none) (innkeepref07_Under.c13)) (.seq (.tidy [18] [] [] none) (innkeepref07_Under.c16))
def innkeepref07_Under.c15 : Cd := .tidy [12, 13] [] [] none
def innkeepref07_Under.c10 : Cd := .seq (.reg false [⟨some 12, .move (.t 6), none, [], []⟩,
    ⟨some 13, .bin .add (.t 12) (.c (.int .i64) (1 : Int)), none, [], []⟩,
    ⟨some 6, .move (.t 13), none, [], []⟩]) (innkeepref07_Under.c15)
def innkeepref07_Under.c6 : Cd := .seq (.block 1 (.seq (.seq (.reg true [⟨some 14, .load (.d tWorld) (.t 2), none, [0], []⟩,
    ⟨some 15, .move (.t 6), none, [], []⟩,
    ⟨some 16, .call (.f 20) [(.t 14), (.t 15)] [.d tPlace] [] false, none, [], []⟩,
    ⟨some 17, .load (.d tPlace) (.t 3), none, [1], []⟩,
    ⟨some 18, .eqs tPlace false (.t 16) (.t 17), none, [], []⟩]) (innkeepref07_Under.c12)) (innkeepref07_Under.c11))) (innkeepref07_Under.c10)
def innkeepref07_Under.c5 : Cd := .tidy [] [(3, 4)] [2] (some 5)
def innkeepref07_Under.c4 : Cd := .seq (.seq (.seq (.seq (.reg false [⟨some 7, .move (.t 6), none, [], []⟩,
    ⟨some 8, .fieldAddr (.d tWorld) 3 (.t 2), none, [], []⟩,
    ⟨some 9, .load (.d (.sl tPlace)) (.t 8), none, [], []⟩,
    ⟨some 10, .len (.t 9), none, [], []⟩,
    ⟨some 11, .bin .lss (.t 7) (.t 10), none, [], []⟩]) (innkeepref07_Under.c8)) (innkeepref07_Under.c7)) (innkeepref07_Under.c6)) (innkeepref07_Under.c5)
def innkeepref07_Under.c3 : Cd := .block 0 (.loop (innkeepref07_Under.c4))
def innkeepref07_Under.c19 : Cd := .tidy [29] [] [] none
def innkeepref07_Under.c18 : Cd := .ret
def innkeepref07_Under.c2 : Cd := .seq (.seq (.reg false [⟨some 29, .move (.t 5), none, [], []⟩,
    ⟨some 4, .move (.t 29), none, [], []⟩]) (innkeepref07_Under.c19)) (innkeepref07_Under.c18)
def innkeepref07_Under.c1 : Cd := .seq (.seq (.reg false [⟨some 6, .move (.c (.int .i64) (0 : Int)), none, [], []⟩]) (innkeepref07_Under.c3)) (innkeepref07_Under.c2)
def innkeepref07_Under.c0 : Cd := .seq (.reg false [⟨some 5, .mknil 4 tSeen, none, [], []⟩]) (innkeepref07_Under.c1)
def innkeepref07_Under.fn : Fn := ⟨2, [.tmp 4], .seq (.reg false [⟨some 2, .box 0 (.t 0), none, [], []⟩,
    ⟨some 3, .box 1 (.t 1), none, [], []⟩,
    ⟨some 4, .move (.c (.sl tSeen) []), none, [], []⟩]) (innkeepref07_Under.c0)⟩
def innkeepref05_Seens.c3 : Cd := .tidy [6, 7, 8, 9] [] [] none
def innkeepref05_Seens.c5 : Cd := .ret
def innkeepref05_Seens.c4 : Cd := .seq (.reg false [⟨some 4, .move (.c .bool false), none, [], []⟩]) (innkeepref05_Seens.c5)
def innkeepref05_Seens.c6 : Cd := .skip
def innkeepref05_Seens.c2 : Cd := .cond (.t 10) (.seq (.tidy [10] [] [] none) (innkeepref05_Seens.c4)) (.seq (.tidy [10] [] [] none) (innkeepref05_Seens.c6))
def innkeepref05_Seens.c13 : Cd := .tidy [11, 12, 13] [] [] none
def innkeepref05_Seens.c14 : Cd := .skip
def innkeepref05_Seens.c22 : Cd := .exit 0
def innkeepref05_Seens.c12 : Cd := .cond (.t 14) (.seq (.tidy [14] [] [] none) (innkeepref05_Seens.c14)) (.seq (.tidy [14] [] [] none) (innkeepref05_Seens.c22))
def innkeepref05_Seens.c17 : Cd := .tidy [17, 18, 19, 20, 21, 22, 23, 24] [] [] none
def innkeepref05_Seens.c19 : Cd := .ret
def innkeepref05_Seens.c18 : Cd := .seq (.reg false [⟨some 4, .move (.c .bool false), none, [], []⟩]) (innkeepref05_Seens.c19)
def innkeepref05_Seens.c20 : Cd := .skip
def innkeepref05_Seens.c16 : Cd := .cond (.t 25) (.seq (.tidy [25] [] [] none) (innkeepref05_Seens.c18)) (.seq (.tidy [25] [] [] none) (innkeepref05_Seens.c20))
def innkeepref05_Seens.c21 : Cd := .tidy [15, 16] [] [] none
def innkeepref05_Seens.c15 : Cd := .seq (.reg false [⟨some 15, .move (.t 5), none, [], []⟩,
    ⟨some 16, .bin .add (.t 15) (.c (.int .i64) (1 : Int)), none, [], []⟩,
    ⟨some 5, .move (.t 16), none, [], []⟩]) (innkeepref05_Seens.c21)
def innkeepref05_Seens.c11 : Cd := .seq (.block 1 (.seq (.seq (.reg true [⟨some 17, .move (.t 0), none, [], []⟩,
    ⟨some 18, .move (.t 5), none, [], []⟩,
    ⟨some 19, .index (.sl tSeen) (.t 17) (.t 18), none, [], []⟩,
    ⟨some 20, .load (.d tSeen) (.t 19), none, [], []⟩,
    ⟨some 21, .move (.t 1), none, [], []⟩,
    ⟨some 22, .move (.t 5), none, [], []⟩,
    ⟨some 23, .index (.sl tSeen) (.t 21) (.t 22), none, [], []⟩,
    ⟨some 24, .load (.d tSeen) (.t 23), none, [], []⟩,
    ⟨some 25, .eqs tSeen true (.t 20) (.t 24), none, [], []⟩]) (innkeepref05_Seens.c17)) (innkeepref05_Seens.c16))) (innkeepref05_Seens.c15)
def innkeepref05_Seens.c10 : Cd := .tidy [] [] [] (some 0)
def innkeepref05_Seens.c9 : Cd := .seq (.seq (.seq (.seq (.reg false [⟨some 11, .move (.t 5), none, [], []⟩,
    ⟨some 12, .move (.t 0), none, [], []⟩,
    ⟨some 13, .len (.t 12), none, [], []⟩,
    ⟨some 14, .bin .lss (.t 11) (.t 13), none, [], []⟩]) (innkeepref05_Seens.c13)) (innkeepref05_Seens.c12)) (innkeepref05_Seens.c11)) (innkeepref05_Seens.c10)
def innkeepref05_Seens.c8 : Cd := .block 0 (.loop (innkeepref05_Seens.c9))
def innkeepref05_Seens.c23 : Cd := .ret
def innkeepref05_Seens.c7 : Cd := .seq (.reg false [⟨some 4, .move (.c .bool true), none, [], []⟩]) (innkeepref05_Seens.c23)
def innkeepref05_Seens.c1 : Cd := .seq (.seq (.reg false [⟨some 5, .move (.c (.int .i64) (0 : Int)), none, [], []⟩]) (innkeepref05_Seens.c8)) (innkeepref05_Seens.c7)
def innkeepref05_Seens.c0 : Cd := .seq (.seq (.seq (.reg false [⟨some 6, .move (.t 0), none, [], []⟩,
    ⟨some 7, .len (.t 6), none, [], []⟩,
    ⟨some 8, .move (.t 1), none, [], []⟩,
    ⟨some 9, .len (.t 8), none, [], []⟩,
    ⟨some 10, .bin .neq (.t 7) (.t 9), none, [], []⟩]) (innkeepref05_Seens.c3)) (innkeepref05_Seens.c2)) (innkeepref05_Seens.c1)
def innkeepref05_Seens.fn : Fn := ⟨2, [.tmp 4], .seq (.reg false [⟨some 4, .move (.c .bool false), none, [], []⟩]) (innkeepref05_Seens.c0)⟩
def innkeepref07_Depth.c2 : Cd := .tidy [5, 6, 7, 8, 9, 10, 11] [] [] none
def innkeepref07_Depth.c1 : Cd := .ret
def innkeepref07_Depth.c0 : Cd := .seq (.seq (.reg true [⟨some 5, .load (.d tWorld) (.t 2), none, [0], []⟩,
    ⟨some 6, .fieldAddr (.d tWorld) 3 (.t 2), none, [0], []⟩,
    ⟨some 7, .load (.d (.sl tPlace)) (.t 6), none, [0], []⟩,
    ⟨some 8, .move (.t 1), none, [], []⟩,
    ⟨some 9, .index (.sl tPlace) (.t 7) (.t 8), none, [], []⟩,
    ⟨some 10, .load (.d tPlace) (.t 9), none, [], []⟩,
    ⟨some 11, .call (.f 36) [(.t 5), (.t 10)] [.d (.int .i64)] [] false, none, [], []⟩,
    ⟨some 4, .move (.t 11), none, [], []⟩]) (innkeepref07_Depth.c2)) (innkeepref07_Depth.c1)
def innkeepref07_Depth.fn : Fn := ⟨2, [.tmp 4], .seq (.reg false [⟨some 2, .box 0 (.t 0), none, [], []⟩,
    ⟨some 4, .move (.c (.int .i64) (0 : Int)), none, [], []⟩]) (innkeepref07_Depth.c0)⟩
def innkeepref07_Height.c8 : Cd := .tidy [7, 8, 9, 10] [] [] none
def innkeepref07_Height.c9 : Cd := .skip
def innkeepref07_Height.c17 : Cd := .exit 0
def innkeepref07_Height.c7 : Cd := .cond (.t 11) (.seq (.tidy [11] [] [] none) (innkeepref07_Height.c9)) (.seq (.tidy [11] [] [] none) (innkeepref07_Height.c17))
def innkeepref07_Height.c12 : Cd := .tidy [14, 15, 16, 17, 18, 19, 20] [] [] none
def innkeepref07_Height.c14 : Cd := .tidy [22, 23, 24, 25, 26, 27] [] [] none
def innkeepref07_Height.c13 : Cd := .seq (.reg false [⟨some 22, .move (.t 5), none, [], []⟩,
    ⟨some 23, .load (.d tWorld) (.t 2), none, [], []⟩,
    ⟨some 24, .move (.t 6), none, [], []⟩,
    ⟨some 25, .call (.f 24) [(.t 23), (.t 24)] [.d (.int .i64)] [] false, none, [], []⟩,
    ⟨some 26, .bin .add (.c (.int .i64) (1 : Int)) (.t 25), none, [], []⟩,
    ⟨some 27, .max [(.t 22), (.t 26)], none, [], []⟩,
    ⟨some 5, .move (.t 27), none, [], []⟩]) (innkeepref07_Height.c14)
def innkeepref07_Height.c16 : Cd := .skip
def innkeepref07_Height.c11 : Cd := .cond (.t 21) (.seq (.tidy [21] [] [] none) (innkeepref07_Height.c13)) (.seq (.tidy [21] [] [] none) (innkeepref07_Height.c16))
def innkeepref07_Height.c15 : Cd := .tidy [12, 13] [] [] none
def innkeepref07_Height.c10 : Cd := .seq (.reg false [⟨some 12, .move (.t 6), none, [], []⟩,
    ⟨some 13, .bin .add (.t 12) (.c (.int .i64) (1 : Int)), none, [], []⟩,
    ⟨some 6, .move (.t 13), none, [], []⟩]) (innkeepref07_Height.c15)
def innkeepref07_Height.c6 : Cd := .seq (.block 1 (.seq (.seq (.reg false [⟨some 14, .fieldAddr (.d tWorld) 3 (.t 2), none, [], []⟩,
    ⟨some 15, .load (.d (.sl tPlace)) (.t 14), none, [], []⟩,
    ⟨some 16, .move (.t 6), none, [], []⟩,
    ⟨some 17, .index (.sl tPlace) (.t 15) (.t 16), none, [], []⟩,
    ⟨some 18, .load (.d tPlace) (.t 17), none, [], []⟩,
    ⟨some 19, .move (.t 1), none, [], []⟩,
    ⟨some 20, .build tPlace [(0, (.c (.int .i64) (2 : Int))), (1, (.t 19))] [], none, [], []⟩,
    ⟨some 21, .eqs tPlace false (.t 18) (.t 20), none, [], []⟩]) (innkeepref07_Height.c12)) (innkeepref07_Height.c11))) (innkeepref07_Height.c10)
def innkeepref07_Height.c5 : Cd := .tidy [] [] [] (some 1)
def innkeepref07_Height.c4 : Cd := .seq (.seq (.seq (.seq (.reg false [⟨some 7, .move (.t 6), none, [], []⟩,
    ⟨some 8, .fieldAddr (.d tWorld) 3 (.t 2), none, [], []⟩,
    ⟨some 9, .load (.d (.sl tPlace)) (.t 8), none, [], []⟩,
    ⟨some 10, .len (.t 9), none, [], []⟩,
    ⟨some 11, .bin .lss (.t 7) (.t 10), none, [], []⟩]) (innkeepref07_Height.c8)) (innkeepref07_Height.c7)) (innkeepref07_Height.c6)) (innkeepref07_Height.c5)
def innkeepref07_Height.c3 : Cd := .block 0 (.loop (innkeepref07_Height.c4))
def innkeepref07_Height.c19 : Cd := .tidy [28] [] [] none
def innkeepref07_Height.c18 : Cd := .ret
def innkeepref07_Height.c2 : Cd := .seq (.seq (.reg false [⟨some 28, .move (.t 5), none, [], []⟩,
    ⟨some 4, .move (.t 28), none, [], []⟩]) (innkeepref07_Height.c19)) (innkeepref07_Height.c18)
def innkeepref07_Height.c1 : Cd := .seq (.seq (.reg false [⟨some 6, .move (.c (.int .i64) (0 : Int)), none, [], []⟩]) (innkeepref07_Height.c3)) (innkeepref07_Height.c2)
def innkeepref07_Height.c0 : Cd := .seq (.reg false [⟨some 5, .move (.c (.int .i64) (0 : Int)), none, [], []⟩]) (innkeepref07_Height.c1)
def innkeepref07_Height.fn : Fn := ⟨2, [.tmp 4], .seq (.reg false [⟨some 2, .box 0 (.t 0), none, [], []⟩,
    ⟨some 4, .move (.c (.int .i64) (0 : Int)), none, [], []⟩]) (innkeepref07_Height.c0)⟩
def innkeepref07_Within.c3 : Cd := .tidy [8, 9] [] [] none
def innkeepref07_Within.c5 : Cd := .ret
def innkeepref07_Within.c4 : Cd := .seq (.reg false [⟨some 6, .move (.c .bool true), none, [], []⟩]) (innkeepref07_Within.c5)
def innkeepref07_Within.c6 : Cd := .skip
def innkeepref07_Within.c2 : Cd := .cond (.t 10) (.seq (.tidy [10] [] [] none) (innkeepref07_Within.c4)) (.seq (.tidy [10] [] [] none) (innkeepref07_Within.c6))
def innkeepref07_Within.c8 : Cd := .tidy [11, 12, 13, 14, 15] [] [] none
def innkeepref07_Within.c10 : Cd := .tidy [16, 17, 18, 19, 20, 21, 22, 23, 24, 25] [] [] none
def innkeepref07_Within.c9 : Cd := .ret
def innkeepref07_Within.c7 : Cd := .seq (.seq (.reg false [⟨some 16, .fieldAddr (.d tPlace) 0 (.t 7), none, [], []⟩,
    ⟨some 17, .load (.d (.int .i64)) (.t 16), none, [], []⟩,
    ⟨some 18, .bin .eql (.t 17) (.c (.int .i64) (2 : Int)), none, [], []⟩,
    ⟨some 19, .move (.t 18), none, [], []⟩,
    ⟨some 20, .load (.d tWorld) (.t 3), some (19, true), [], []⟩,
    ⟨some 21, .fieldAddr (.d tPlace) 1 (.t 7), some (19, true), [], []⟩,
    ⟨some 22, .load (.d (.int .i64)) (.t 21), some (19, true), [], []⟩,
    ⟨some 23, .move (.t 2), some (19, true), [], []⟩,
    ⟨some 24, .call (.f 26) [(.t 20), (.t 22), (.t 23)] [.d .bool] [] false, some (19, true), [], []⟩,
    ⟨some 25, .pick (.t 19) (.t 24) (.c .bool false), none, [], []⟩,
    ⟨some 6, .move (.t 25), none, [], []⟩]) (innkeepref07_Within.c10)) (innkeepref07_Within.c9)
def innkeepref07_Within.c1 : Cd := .seq (.seq (.reg false [⟨some 11, .fieldAddr (.d tWorld) 3 (.t 3), none, [], []⟩,
    ⟨some 12, .load (.d (.sl tPlace)) (.t 11), none, [], []⟩,
    ⟨some 13, .move (.t 1), none, [], []⟩,
    ⟨some 14, .index (.sl tPlace) (.t 12) (.t 13), none, [], []⟩,
    ⟨some 15, .load (.d tPlace) (.t 14), none, [], []⟩,
    ⟨some 7, .newbox 1 tPlace [], none, [], []⟩,
    ⟨none, .store (.d tPlace) (.t 7) (.t 15), none, [], []⟩]) (innkeepref07_Within.c8)) (innkeepref07_Within.c7)
def innkeepref07_Within.c0 : Cd := .seq (.seq (.seq (.reg false [⟨some 8, .move (.t 1), none, [], []⟩,
    ⟨some 9, .move (.t 2), none, [], []⟩,
    ⟨some 10, .bin .eql (.t 8) (.t 9), none, [], []⟩]) (innkeepref07_Within.c3)) (innkeepref07_Within.c2)) (innkeepref07_Within.c1)
def innkeepref07_Within.fn : Fn := ⟨3, [.tmp 6], .seq (.reg false [⟨some 3, .box 0 (.t 0), none, [], []⟩,
    ⟨some 6, .move (.c .bool false), none, [], []⟩]) (innkeepref07_Within.c0)⟩
def innkeeplaw07_TreeAsks.c3 : Cd := .tidy [11, 12, 13, 14, 15, 16] [] [] none
def innkeeplaw07_TreeAsks.c6 : Cd := .tidy [18] [] [] none
def innkeeplaw07_TreeAsks.c5 : Cd := .ret
def innkeeplaw07_TreeAsks.c4 : Cd := .seq (.seq (.reg false [⟨some 18, .call (.f 8) [] [.d .bool] [] false, none, [], []⟩,
    ⟨some 8, .move (.t 18), none, [], []⟩]) (innkeeplaw07_TreeAsks.c6)) (innkeeplaw07_TreeAsks.c5)
def innkeeplaw07_TreeAsks.c7 : Cd := .skip
def innkeeplaw07_TreeAsks.c2 : Cd := .cond (.t 17) (.seq (.tidy [17] [] [] none) (innkeeplaw07_TreeAsks.c4)) (.seq (.tidy [17] [] [] none) (innkeeplaw07_TreeAsks.c7))
def innkeeplaw07_TreeAsks.c10 : Cd := .tidy [19, 20] [] [] none
def innkeeplaw07_TreeAsks.c13 : Cd := .tidy [22, 23, 24, 25, 26, 27, 28, 29, 30, 31, 32, 33, 34, 35, 36, 37, 38, 39, 40, 41, 42, 43, 44, 45, 46, 47, 48, 49, 50, 51, 52] [] [] none
def innkeeplaw07_TreeAsks.c15 : Cd := .ret
def innkeeplaw07_TreeAsks.c14 : Cd := .seq (.reg false [⟨some 8, .move (.c .bool false), none, [], []⟩]) (innkeeplaw07_TreeAsks.c15)
def innkeeplaw07_TreeAsks.c16 : Cd := .skip
def innkeeplaw07_TreeAsks.c12 : Cd := .cond (.t 53) (.seq (.tidy [53] [] [] none) (innkeeplaw07_TreeAsks.c14)) (.seq (.tidy [53] [] [] none) (innkeeplaw07_TreeAsks.c16))
def innkeeplaw07_TreeAsks.c11 : Cd := .seq (.seq (.reg true [⟨some 22, .load (.d tWorld) (.t 4), none, [0], []⟩,
    ⟨some 23, .load (.d tPlace) (.t 7), none, [1], []⟩,
    ⟨some 24, .call (.f 12) [(.t 22), (.t 23)] [.d (.sl (.int .i64))] [] false, none, [], []⟩,
    ⟨some 25, .load (.d tWorld) (.t 4), none, [0], []⟩,
    ⟨some 26, .load (.d tPlace) (.t 7), none, [1], []⟩,
    ⟨some 27, .call (.f 13) [(.t 25), (.t 26)] [.d (.sl (.int .i64))] [] false, none, [], []⟩,
    ⟨some 28, .call (.f 11) [(.t 24), (.t 27)] [.d .bool] [] false, none, [], []⟩,
    ⟨some 29, .not (.t 28), none, [], []⟩,
    ⟨some 30, .move (.t 29), none, [], []⟩,
    ⟨some 31, .load (.d tWorld) (.t 4), some (30, false), [0], []⟩,
    ⟨some 32, .load (.d tPlace) (.t 7), some (30, false), [1], []⟩,
    ⟨some 33, .call (.f 14) [(.t 31), (.t 32)] [.d (.int .i64)] [] false, some (30, false), [], []⟩,
    ⟨some 34, .load (.d tWorld) (.t 4), some (30, false), [0], []⟩,
    ⟨some 35, .load (.d tPlace) (.t 7), some (30, false), [1], []⟩,
    ⟨some 36, .call (.f 15) [(.t 34), (.t 35)] [.d (.int .i64)] [] false, some (30, false), [], []⟩,
    ⟨some 37, .bin .neq (.t 33) (.t 36), some (30, false), [], []⟩,
    ⟨some 38, .pick (.t 30) (.c .bool true) (.t 37), none, [], []⟩,
    ⟨some 39, .move (.t 38), none, [], []⟩,
    ⟨some 40, .fieldAddr (.d tPlace) 0 (.t 7), some (39, false), [1], []⟩,
    ⟨some 41, .load (.d (.int .i64)) (.t 40), some (39, false), [1], []⟩,
    ⟨some 42, .bin .neq (.t 41) (.c (.int .i64) (2 : Int)), some (39, false), [], []⟩,
    ⟨some 43, .move (.t 42), some (39, false), [], []⟩,
    ⟨some 44, .load (.d tWorld) (.t 4), some (43, true), [0], []⟩,
    ⟨some 45, .load (.d tPlace) (.t 7), some (43, true), [1], []⟩,
    ⟨some 46, .call (.f 17) [(.t 44), (.t 45)] [.d (.sl tSeen)] [] false, some (43, true), [], []⟩,
    ⟨some 47, .load (.d tWorld) (.t 4), some (43, true), [0], []⟩,
    ⟨some 48, .load (.d tPlace) (.t 7), some (43, true), [1], []⟩,
    ⟨some 49, .call (.f 18) [(.t 47), (.t 48)] [.d (.sl tSeen)] [] false, some (43, true), [], []⟩,
    ⟨some 50, .call (.f 16) [(.t 46), (.t 49)] [.d .bool] [] false, some (43, true), [], []⟩,
    ⟨some 51, .not (.t 50), some (43, true), [], []⟩,
    ⟨some 52, .pick (.t 43) (.t 51) (.c .bool false), some (39, false), [], []⟩,
    ⟨some 53, .pick (.t 39) (.c .bool true) (.t 52), none, [], []⟩]) (innkeeplaw07_TreeAsks.c13)) (innkeeplaw07_TreeAsks.c12)
def innkeeplaw07_TreeAsks.c29 : Cd := .skip
def innkeeplaw07_TreeAsks.c9 : Cd := .cond (.t 21) (.seq (.tidy [21] [] [] none) (innkeeplaw07_TreeAsks.c11)) (.seq (.tidy [21] [] [] none) (innkeeplaw07_TreeAsks.c29))
def innkeeplaw07_TreeAsks.c19 : Cd := .tidy [54, 55, 56] [] [] none
def innkeeplaw07_TreeAsks.c21 : Cd := .ret
def innkeeplaw07_TreeAsks.c20 : Cd := .seq (.reg false [⟨some 8, .move (.c .bool true), none, [], []⟩]) (innkeeplaw07_TreeAsks.c21)
def innkeeplaw07_TreeAsks.c22 : Cd := .skip
def innkeeplaw07_TreeAsks.c18 : Cd := .cond (.t 57) (.seq (.tidy [57] [] [] none) (innkeeplaw07_TreeAsks.c20)) (.seq (.tidy [57] [] [] none) (innkeeplaw07_TreeAsks.c22))
def innkeeplaw07_TreeAsks.c24 : Cd := .tidy [58, 59, 60, 61, 62, 63] [] [] none
def innkeeplaw07_TreeAsks.c26 : Cd := .tidy [64, 65, 66, 67, 68, 69] [] [] none
def innkeeplaw07_TreeAsks.c28 : Cd := .tidy [70, 71, 72, 73, 74, 75, 76, 77, 78, 79, 80, 81, 82, 83, 84, 85, 86, 87, 88, 89, 90, 91, 92, 93, 94, 95, 96, 97, 98, 99, 100, 101, 102, 103, 104, 105] [] [] none
def innkeeplaw07_TreeAsks.c27 : Cd := .ret
def innkeeplaw07_TreeAsks.c25 : Cd := .seq (.seq (.reg true [⟨some 70, .load (.d tWorld) (.t 4), none, [0], []⟩,
    ⟨some 71, .move (.t 9), none, [], []⟩,
    ⟨some 72, .call (.f 19) [(.t 70), (.t 71)] [.d tPlace] [] false, none, [], []⟩,
    ⟨some 73, .load (.d tWorld) (.t 4), none, [0], []⟩,
    ⟨some 74, .move (.t 9), none, [], []⟩,
    ⟨some 75, .call (.f 20) [(.t 73), (.t 74)] [.d tPlace] [] false, none, [], []⟩,
    ⟨some 76, .eqs tPlace false (.t 72) (.t 75), none, [], []⟩,
    ⟨some 77, .move (.t 76), none, [], []⟩,
    ⟨some 78, .load (.d tWorld) (.t 4), some (77, true), [0], []⟩,
    ⟨some 79, .move (.t 9), some (77, true), [], []⟩,
    ⟨some 80, .call (.f 21) [(.t 78), (.t 79)] [.d (.int .i64)] [] false, some (77, true), [], []⟩,
    ⟨some 81, .load (.d tWorld) (.t 4), some (77, true), [0], []⟩,
    ⟨some 82, .move (.t 9), some (77, true), [], []⟩,
    ⟨some 83, .call (.f 22) [(.t 81), (.t 82)] [.d (.int .i64)] [] false, some (77, true), [], []⟩,
    ⟨some 84, .bin .eql (.t 80) (.t 83), some (77, true), [], []⟩,
    ⟨some 85, .pick (.t 77) (.t 84) (.c .bool false), none, [], []⟩,
    ⟨some 86, .move (.t 85), none, [], []⟩,
    ⟨some 87, .load (.d tWorld) (.t 4), some (86, true), [0], []⟩,
    ⟨some 88, .move (.t 9), some (86, true), [], []⟩,
    ⟨some 89, .call (.f 23) [(.t 87), (.t 88)] [.d (.int .i64)] [] false, some (86, true), [], []⟩,
    ⟨some 90, .load (.d tWorld) (.t 4), some (86, true), [0], []⟩,
    ⟨some 91, .move (.t 9), some (86, true), [], []⟩,
    ⟨some 92, .call (.f 24) [(.t 90), (.t 91)] [.d (.int .i64)] [] false, some (86, true), [], []⟩,
    ⟨some 93, .bin .eql (.t 89) (.t 92), some (86, true), [], []⟩,
    ⟨some 94, .pick (.t 86) (.t 93) (.c .bool false), none, [], []⟩,
    ⟨some 95, .move (.t 94), none, [], []⟩,
    ⟨some 96, .load (.d tWorld) (.t 4), some (95, true), [0], []⟩,
    ⟨some 97, .move (.t 9), some (95, true), [], []⟩,
    ⟨some 98, .move (.t 10), some (95, true), [], []⟩,
    ⟨some 99, .call (.f 25) [(.t 96), (.t 97), (.t 98)] [.d .bool] [] false, some (95, true), [], []⟩,
    ⟨some 100, .load (.d tWorld) (.t 4), some (95, true), [0], []⟩,
    ⟨some 101, .move (.t 9), some (95, true), [], []⟩,
    ⟨some 102, .move (.t 10), some (95, true), [], []⟩,
    ⟨some 103, .call (.f 26) [(.t 100), (.t 101), (.t 102)] [.d .bool] [] false, some (95, true), [], []⟩,
    ⟨some 104, .eqs .bool false (.t 99) (.t 103), some (95, true), [], []⟩,
    ⟨some 105, .pick (.t 95) (.t 104) (.c .bool false), none, [], []⟩,
    ⟨some 8, .move (.t 105), none, [], []⟩]) (innkeeplaw07_TreeAsks.c28)) (innkeeplaw07_TreeAsks.c27)
def innkeeplaw07_TreeAsks.c23 : Cd := .seq (.seq (.reg false [⟨some 64, .move (.t 2), none, [], []⟩,
    ⟨some 65, .conv .i64 (.t 64), none, [], []⟩,
    ⟨some 66, .fieldAddr (.d tWorld) 3 (.t 4), none, [], []⟩,
    ⟨some 67, .load (.d (.sl tPlace)) (.t 66), none, [], []⟩,
    ⟨some 68, .len (.t 67), none, [], []⟩,
    ⟨some 69, .bin .rem (.t 65) (.t 68), none, [], []⟩,
    ⟨some 10, .move (.t 69), none, [], []⟩]) (innkeeplaw07_TreeAsks.c26)) (innkeeplaw07_TreeAsks.c25)
def innkeeplaw07_TreeAsks.c17 : Cd := .seq (.seq (.reg false [⟨some 58, .move (.t 1), none, [], []⟩,
    ⟨some 59, .conv .i64 (.t 58), none, [], []⟩,
    ⟨some 60, .fieldAddr (.d tWorld) 3 (.t 4), none, [], []⟩,
    ⟨some 61, .load (.d (.sl tPlace)) (.t 60), none, [], []⟩,
    ⟨some 62, .len (.t 61), none, [], []⟩,
    ⟨some 63, .bin .rem (.t 59) (.t 62), none, [], []⟩,
    ⟨some 9, .move (.t 63), none, [], []⟩]) (innkeeplaw07_TreeAsks.c24)) (innkeeplaw07_TreeAsks.c23)
def innkeeplaw07_TreeAsks.c8 : Cd := .seq (.seq (.seq (.reg false [⟨some 54, .fieldAddr (.d tWorld) 3 (.t 4), none, [], []⟩,
    ⟨some 55, .load (.d (.sl tPlace)) (.t 54), none, [], []⟩,
    ⟨some 56, .len (.t 55), none, [], []⟩,
    ⟨some 57, .bin .eql (.t 56) (.c (.int .i64) (0 : Int)), none, [], []⟩]) (innkeeplaw07_TreeAsks.c19)) (innkeeplaw07_TreeAsks.c18)) (innkeeplaw07_TreeAsks.c17)
def innkeeplaw07_TreeAsks.c1 : Cd := .seq (.seq (.seq (.reg false [⟨some 19, .load (.d tWorld) (.t 4), none, [], []⟩,
    ⟨some 20, .load (.d tPlace) (.t 7), none, [], []⟩,
    ⟨some 21, .call (.f 10) [(.t 19), (.t 20)] [.d .bool] [] false, none, [], []⟩]) (innkeeplaw07_TreeAsks.c10)) (innkeeplaw07_TreeAsks.c9)) (innkeeplaw07_TreeAsks.c8)
def innkeeplaw07_TreeAsks.c0 : Cd := .seq (.seq (.seq (.reg false [⟨some 11, .call (.f 8) [] [.d .bool] [] false, none, [], []⟩,
    ⟨some 12, .not (.t 11), none, [], []⟩,
    ⟨some 13, .move (.t 12), none, [], []⟩,
    ⟨some 14, .load (.d tWorld) (.t 4), some (13, false), [], []⟩,
    ⟨some 15, .call (.f 9) [(.t 14)] [.d .bool] [] false, some (13, false), [], []⟩,
    ⟨some 16, .not (.t 15), some (13, false), [], []⟩,
    ⟨some 17, .pick (.t 13) (.c .bool true) (.t 16), none, [], []⟩]) (innkeeplaw07_TreeAsks.c3)) (innkeeplaw07_TreeAsks.c2)) (innkeeplaw07_TreeAsks.c1)
def innkeeplaw07_TreeAsks.fn : Fn := ⟨4, [.tmp 8], .seq (.reg false [⟨some 4, .box 0 (.t 0), none, [], []⟩,
    ⟨some 7, .box 1 (.t 3), none, [], []⟩,
    ⟨some 8, .move (.c .bool false), none, [], []⟩]) (innkeeplaw07_TreeAsks.c0)⟩
def innkeeplaw07_TreeRoots.c3 : Cd := .tidy [12, 13, 14, 15, 16, 17] [] [] none
def innkeeplaw07_TreeRoots.c6 : Cd := .tidy [19] [] [] none
def innkeeplaw07_TreeRoots.c5 : Cd := .ret
def innkeeplaw07_TreeRoots.c4 : Cd := .seq (.seq (.reg false [⟨some 19, .call (.f 8) [] [.d .bool] [] false, none, [], []⟩,
    ⟨some 2, .move (.t 19), none, [], []⟩]) (innkeeplaw07_TreeRoots.c6)) (innkeeplaw07_TreeRoots.c5)
def innkeeplaw07_TreeRoots.c7 : Cd := .skip
def innkeeplaw07_TreeRoots.c2 : Cd := .cond (.t 18) (.seq (.tidy [18] [] [] none) (innkeeplaw07_TreeRoots.c4)) (.seq (.tidy [18] [] [] none) (innkeeplaw07_TreeRoots.c7))
def innkeeplaw07_TreeRoots.c9 : Cd := .tidy [20, 21, 22, 23] [] [] none
def innkeeplaw07_TreeRoots.c16 : Cd := .tidy [24] [] [] none
def innkeeplaw07_TreeRoots.c17 : Cd := .skip
def innkeeplaw07_TreeRoots.c65 : Cd := .exit 0
def innkeeplaw07_TreeRoots.c15 : Cd := .cond (.t 25) (.seq (.tidy [25] [] [] none) (innkeeplaw07_TreeRoots.c17)) (.seq (.tidy [25] [] [] none) (innkeeplaw07_TreeRoots.c65))
def innkeeplaw07_TreeRoots.c20 : Cd := .tidy [28, 29, 30, 31] [] [] none
def innkeeplaw07_TreeRoots.c23 : Cd := .tidy [32] [] [] none
def innkeeplaw07_TreeRoots.c25 : Cd := .tidy [34, 35, 36] [] [] none
def innkeeplaw07_TreeRoots.c24 : Cd := .seq (.reg false [⟨some 34, .fieldAddr (.d tWorld) 1 (.t 1), none, [], []⟩,
    ⟨some 35, .load (.d (.sl (.int .i64))) (.t 34), none, [], []⟩,
    ⟨some 36, .len (.t 35), none, [], []⟩,
    ⟨some 5, .move (.t 36), none, [], []⟩]) (innkeeplaw07_TreeRoots.c25)
def innkeeplaw07_TreeRoots.c64 : Cd := .skip
def innkeeplaw07_TreeRoots.c22 : Cd := .cond (.t 33) (.seq (.tidy [33] [] [] none) (innkeeplaw07_TreeRoots.c24)) (.seq (.tidy [33] [] [] none) (innkeeplaw07_TreeRoots.c64))
def innkeeplaw07_TreeRoots.c31 : Cd := .tidy [37, 38] [] [] none
def innkeeplaw07_TreeRoots.c32 : Cd := .skip
def innkeeplaw07_TreeRoots.c62 : Cd := .exit 2
def innkeeplaw07_TreeRoots.c30 : Cd := .cond (.t 39) (.seq (.tidy [39] [] [] none) (innkeeplaw07_TreeRoots.c32)) (.seq (.tidy [39] [] [] none) (innkeeplaw07_TreeRoots.c62))
def innkeeplaw07_TreeRoots.c35 : Cd := .tidy [42, 43, 44] [] [] none
def innkeeplaw07_TreeRoots.c37 : Cd := .tidy [45, 46, 47] [] [] none
def innkeeplaw07_TreeRoots.c44 : Cd := .tidy [48, 49, 50] [] [] none
def innkeeplaw07_TreeRoots.c45 : Cd := .skip
def innkeeplaw07_TreeRoots.c55 : Cd := .exit 4
def innkeeplaw07_TreeRoots.c43 : Cd := .cond (.t 51) (.seq (.tidy [51] [] [] none) (innkeeplaw07_TreeRoots.c45)) (.seq (.tidy [51] [] [] none) (innkeeplaw07_TreeRoots.c55))
def innkeeplaw07_TreeRoots.c49 : Cd := .tidy [54, 55, 56, 57, 58, 59, 60, 61, 62, 63, 64, 65, 66, 67, 68, 69, 70, 71, 72, 73, 74, 75, 76, 77, 78, 79, 80, 81, 82, 83, 84, 85, 86, 87, 88, 89, 90, 91, 92, 93, 94, 95, 96, 97, 98, 99, 100, 101, 102, 103, 104, 105, 106, 107, 108, 109, 110, 111, 112, 113, 114, 115] [] [] none
def innkeeplaw07_TreeRoots.c51 : Cd := .ret
def innkeeplaw07_TreeRoots.c50 : Cd := .seq (.reg false [⟨some 2, .move (.c .bool false), none, [], []⟩]) (innkeeplaw07_TreeRoots.c51)
def innkeeplaw07_TreeRoots.c52 : Cd := .skip
def innkeeplaw07_TreeRoots.c48 : Cd := .cond (.t 116) (.seq (.tidy [116] [] [] none) (innkeeplaw07_TreeRoots.c50)) (.seq (.tidy [116] [] [] none) (innkeeplaw07_TreeRoots.c52))
def innkeeplaw07_TreeRoots.c53 : Cd := .tidy [117, 118, 119, 120, 121, 122, 123, 124, 125, 126] [] [] none
def innkeeplaw07_TreeRoots.c47 : Cd := .seq (.reg false [⟨some 117, .move (.t 3), none, [], []⟩,
    ⟨some 118, .move (.t 8), none, [], []⟩,
    ⟨some 119, .move (.t 9), none, [], []⟩,
    ⟨some 120, .index (.sl tSeen) (.t 118) (.t 119), none, [], []⟩,
    ⟨some 121, .fieldAddr (.d tSeen) 0 (.t 120), none, [], []⟩,
    ⟨some 122, .load (.d (.int .i64)) (.t 121), none, [], []⟩,
    ⟨some 123, .index (.sl (.int .i64)) (.t 117) (.t 122), none, [], []⟩,
    ⟨some 124, .load (.d (.int .i64)) (.t 123), none, [], []⟩,
    ⟨some 125, .bin .add (.t 124) (.c (.int .i64) (1 : Int)), none, [], []⟩,
    ⟨some 126, .index (.sl (.int .i64)) (.t 117) (.t 122), none, [], []⟩,
    ⟨none, .store (.d (.int .i64)) (.t 126) (.t 125), none, [], []⟩]) (innkeeplaw07_TreeRoots.c53)
def innkeeplaw07_TreeRoots.c54 : Cd := .tidy [52, 53] [] [] none
def innkeeplaw07_TreeRoots.c46 : Cd := .seq (.reg false [⟨some 52, .move (.t 9), none, [], []⟩,
    ⟨some 53, .bin .add (.t 52) (.c (.int .i64) (1 : Int)), none, [], []⟩,
    ⟨some 9, .move (.t 53), none, [], []⟩]) (innkeeplaw07_TreeRoots.c54)
def innkeeplaw07_TreeRoots.c42 : Cd := .seq (.block 5 (.seq (.seq (.seq (.reg true [⟨some 54, .move (.t 8), none, [], []⟩,
    ⟨some 55, .move (.t 9), none, [], []⟩,
    ⟨some 56, .index (.sl tSeen) (.t 54) (.t 55), none, [], []⟩,
    ⟨some 57, .fieldAddr (.d tSeen) 0 (.t 56), none, [], []⟩,
    ⟨some 58, .load (.d (.int .i64)) (.t 57), none, [], []⟩,
    ⟨some 59, .bin .lss (.t 58) (.c (.int .i64) (0 : Int)), none, [], []⟩,
    ⟨some 60, .move (.t 59), none, [], []⟩,
    ⟨some 61, .move (.t 8), some (60, false), [], []⟩,
    ⟨some 62, .move (.t 9), some (60, false), [], []⟩,
    ⟨some 63, .index (.sl tSeen) (.t 61) (.t 62), some (60, false), [], []⟩,
    ⟨some 64, .fieldAddr (.d tSeen) 0 (.t 63), some (60, false), [], []⟩,
    ⟨some 65, .load (.d (.int .i64)) (.t 64), some (60, false), [], []⟩,
    ⟨some 66, .fieldAddr (.d tWorld) 3 (.t 1), some (60, false), [0], []⟩,
    ⟨some 67, .load (.d (.sl tPlace)) (.t 66), some (60, false), [0], []⟩,
    ⟨some 68, .len (.t 67), some (60, false), [], []⟩,
    ⟨some 69, .bin .geq (.t 65) (.t 68), some (60, false), [], []⟩,
    ⟨some 70, .pick (.t 60) (.c .bool true) (.t 69), none, [], []⟩,
    ⟨some 71, .move (.t 70), none, [], []⟩,
    ⟨some 72, .load (.d tWorld) (.t 1), some (71, false), [0], []⟩,
    ⟨some 73, .move (.t 8), some (71, false), [], []⟩,
    ⟨some 74, .move (.t 9), some (71, false), [], []⟩,
    ⟨some 75, .index (.sl tSeen) (.t 73) (.t 74), some (71, false), [], []⟩,
    ⟨some 76, .fieldAddr (.d tSeen) 0 (.t 75), some (71, false), [], []⟩,
    ⟨some 77, .load (.d (.int .i64)) (.t 76), some (71, false), [], []⟩,
    ⟨some 78, .call (.f 19) [(.t 72), (.t 77)] [.d tPlace] [] false, some (71, false), [], []⟩,
    ⟨some 79, .load (.d tPlace) (.t 7), some (71, false), [2], []⟩,
    ⟨some 80, .eqs tPlace true (.t 78) (.t 79), some (71, false), [], []⟩,
    ⟨some 81, .pick (.t 71) (.c .bool true) (.t 80), none, [], []⟩,
    ⟨some 82, .move (.t 81), none, [], []⟩,
    ⟨some 83, .move (.t 8), some (82, false), [], []⟩,
    ⟨some 84, .move (.t 9), some (82, false), [], []⟩,
    ⟨some 85, .index (.sl tSeen) (.t 83) (.t 84), some (82, false), [], []⟩,
    ⟨some 86, .fieldAddr (.d tSeen) 1 (.t 85), some (82, false), [], []⟩,
    ⟨some 87, .load (.d tPlace) (.t 86), some (82, false), [], []⟩,
    ⟨some 88, .fieldAddr (.d tWorld) 3 (.t 1), some (82, false), [0], []⟩,
    ⟨some 89, .load (.d (.sl tPlace)) (.t 88), some (82, false), [0], []⟩,
    ⟨some 90, .move (.t 8), some (82, false), [], []⟩,
    ⟨some 91, .move (.t 9), some (82, false), [], []⟩,
    ⟨some 92, .index (.sl tSeen) (.t 90) (.t 91), some (82, false), [], []⟩,
    ⟨some 93, .fieldAddr (.d tSeen) 0 (.t 92), some (82, false), [], []⟩,
    ⟨some 94, .load (.d (.int .i64)) (.t 93), some (82, false), [], []⟩,
    ⟨some 95, .index (.sl tPlace) (.t 89) (.t 94), some (82, false), [], []⟩,
    ⟨some 96, .load (.d tPlace) (.t 95), some (82, false), [], []⟩,
    ⟨some 97, .eqs tPlace true (.t 87) (.t 96), some (82, false), [], []⟩,
    ⟨some 98, .pick (.t 82) (.c .bool true) (.t 97), none, [], []⟩,
    ⟨some 99, .move (.t 98), none, [], []⟩,
    ⟨some 100, .move (.t 9), some (99, false), [], []⟩,
    ⟨some 101, .bin .gtr (.t 100) (.c (.int .i64) (0 : Int)), some (99, false), [], []⟩,
    ⟨some 102, .move (.t 101), some (99, false), [], []⟩,
    ⟨some 103, .move (.t 8), some (102, true), [], []⟩,
    ⟨some 104, .move (.t 9), some (102, true), [], []⟩,
    ⟨some 105, .bin .sub (.t 104) (.c (.int .i64) (1 : Int)), some (102, true), [], []⟩,
    ⟨some 106, .index (.sl tSeen) (.t 103) (.t 105), some (102, true), [], []⟩,
    ⟨some 107, .fieldAddr (.d tSeen) 0 (.t 106), some (102, true), [], []⟩,
    ⟨some 108, .load (.d (.int .i64)) (.t 107), some (102, true), [], []⟩,
    ⟨some 109, .move (.t 8), some (102, true), [], []⟩,
    ⟨some 110, .move (.t 9), some (102, true), [], []⟩,
    ⟨some 111, .index (.sl tSeen) (.t 109) (.t 110), some (102, true), [], []⟩,
    ⟨some 112, .fieldAddr (.d tSeen) 0 (.t 111), some (102, true), [], []⟩,
    ⟨some 113, .load (.d (.int .i64)) (.t 112), some (102, true), [], []⟩,
    ⟨some 114, .bin .geq (.t 108) (.t 113), some (102, true), [], []⟩,
    ⟨some 115, .pick (.t 102) (.t 114) (.c .bool false), some (99, false), [], []⟩,
    ⟨some 116, .pick (.t 99) (.c .bool true) (.t 115), none, [], []⟩]) (innkeeplaw07_TreeRoots.c49)) (innkeeplaw07_TreeRoots.c48)) (innkeeplaw07_TreeRoots.c47))) (innkeeplaw07_TreeRoots.c46)
def innkeeplaw07_TreeRoots.c41 : Cd := .tidy [] [] [] (some 3)
def innkeeplaw07_TreeRoots.c40 : Cd := .seq (.seq (.seq (.seq (.reg false [⟨some 48, .move (.t 9), none, [], []⟩,
    ⟨some 49, .move (.t 8), none, [], []⟩,
    ⟨some 50, .len (.t 49), none, [], []⟩,
    ⟨some 51, .bin .lss (.t 48) (.t 50), none, [], []⟩]) (innkeeplaw07_TreeRoots.c44)) (innkeeplaw07_TreeRoots.c43)) (innkeeplaw07_TreeRoots.c42)) (innkeeplaw07_TreeRoots.c41)
def innkeeplaw07_TreeRoots.c39 : Cd := .block 4 (.loop (innkeeplaw07_TreeRoots.c40))
def innkeeplaw07_TreeRoots.c57 : Cd := .tidy [127, 128, 129] [] [] none
def innkeeplaw07_TreeRoots.c59 : Cd := .ret
def innkeeplaw07_TreeRoots.c58 : Cd := .seq (.reg false [⟨some 2, .move (.c .bool false), none, [], []⟩]) (innkeeplaw07_TreeRoots.c59)
def innkeeplaw07_TreeRoots.c60 : Cd := .skip
def innkeeplaw07_TreeRoots.c56 : Cd := .cond (.t 130) (.seq (.tidy [130] [] [] none) (innkeeplaw07_TreeRoots.c58)) (.seq (.tidy [130] [] [] none) (innkeeplaw07_TreeRoots.c60))
def innkeeplaw07_TreeRoots.c38 : Cd := .seq (.seq (.reg false [⟨some 127, .load (.d tWorld) (.t 1), none, [], []⟩,
    ⟨some 128, .load (.d tPlace) (.t 7), none, [], []⟩,
    ⟨some 129, .call (.f 14) [(.t 127), (.t 128)] [.d (.int .i64)] [] false, none, [], []⟩,
    ⟨some 130, .bin .lss (.t 129) (.c (.int .i64) (0 : Int)), none, [], []⟩]) (innkeeplaw07_TreeRoots.c57)) (innkeeplaw07_TreeRoots.c56)
def innkeeplaw07_TreeRoots.c36 : Cd := .seq (.seq (.reg false [⟨some 9, .move (.c (.int .i64) (0 : Int)), none, [], []⟩]) (innkeeplaw07_TreeRoots.c39)) (innkeeplaw07_TreeRoots.c38)
def innkeeplaw07_TreeRoots.c34 : Cd := .seq (.seq (.reg false [⟨some 45, .load (.d tWorld) (.t 1), none, [], []⟩,
    ⟨some 46, .load (.d tPlace) (.t 7), none, [], []⟩,
    ⟨some 47, .call (.f 17) [(.t 45), (.t 46)] [.d (.sl tSeen)] [] false, none, [], []⟩,
    ⟨some 8, .move (.t 47), none, [], []⟩]) (innkeeplaw07_TreeRoots.c37)) (innkeeplaw07_TreeRoots.c36)
def innkeeplaw07_TreeRoots.c61 : Cd := .tidy [40, 41] [] [] none
def innkeeplaw07_TreeRoots.c33 : Cd := .seq (.reg false [⟨some 40, .move (.t 6), none, [], []⟩,
    ⟨some 41, .bin .add (.t 40) (.c (.int .i64) (1 : Int)), none, [], []⟩,
    ⟨some 6, .move (.t 41), none, [], []⟩]) (innkeeplaw07_TreeRoots.c61)
def innkeeplaw07_TreeRoots.c29 : Cd := .seq (.block 3 (.seq (.seq (.reg false [⟨some 42, .move (.t 4), none, [], []⟩,
    ⟨some 43, .move (.t 6), none, [], []⟩,
    ⟨some 44, .build tPlace [(0, (.t 42)), (1, (.t 43))] [], none, [], []⟩,
    ⟨some 7, .newbox 2 tPlace [], none, [], []⟩,
    ⟨none, .store (.d tPlace) (.t 7) (.t 44), none, [], []⟩]) (innkeeplaw07_TreeRoots.c35)) (innkeeplaw07_TreeRoots.c34))) (innkeeplaw07_TreeRoots.c33)
def innkeeplaw07_TreeRoots.c28 : Cd := .tidy [7, 8, 9] [] [] (some 2)
def innkeeplaw07_TreeRoots.c27 : Cd := .seq (.seq (.seq (.seq (.reg false [⟨some 37, .move (.t 6), none, [], []⟩,
    ⟨some 38, .move (.t 5), none, [], []⟩,
    ⟨some 39, .bin .lss (.t 37) (.t 38), none, [], []⟩]) (innkeeplaw07_TreeRoots.c31)) (innkeeplaw07_TreeRoots.c30)) (innkeeplaw07_TreeRoots.c29)) (innkeeplaw07_TreeRoots.c28)
def innkeeplaw07_TreeRoots.c26 : Cd := .block 2 (.loop (innkeeplaw07_TreeRoots.c27))
def innkeeplaw07_TreeRoots.c21 : Cd := .seq (.reg false [⟨some 6, .move (.c (.int .i64) (0 : Int)), none, [], []⟩]) (innkeeplaw07_TreeRoots.c26)
def innkeeplaw07_TreeRoots.c19 : Cd := .seq (.seq (.seq (.reg false [⟨some 32, .move (.t 4), none, [], []⟩,
    ⟨some 33, .bin .eql (.t 32) (.c (.int .i64) (1 : Int)), none, [], []⟩]) (innkeeplaw07_TreeRoots.c23)) (innkeeplaw07_TreeRoots.c22)) (innkeeplaw07_TreeRoots.c21)
def innkeeplaw07_TreeRoots.c63 : Cd := .tidy [26, 27] [] [] none
def innkeeplaw07_TreeRoots.c18 : Cd := .seq (.reg false [⟨some 26, .move (.t 4), none, [], []⟩,
    ⟨some 27, .bin .add (.t 26) (.c (.int .i64) (1 : Int)), none, [], []⟩,
    ⟨some 4, .move (.t 27), none, [], []⟩]) (innkeeplaw07_TreeRoots.c63)
def innkeeplaw07_TreeRoots.c14 : Cd := .seq (.block 1 (.seq (.seq (.reg false [⟨some 28, .fieldAddr (.d tWorld) 0 (.t 1), none, [], []⟩,
    ⟨some 29, .fieldAddr (.d tDesc) 0 (.t 28), none, [], []⟩,
    ⟨some 30, .load (.d (.sl (.arr 4 (.int .i64)))) (.t 29), none, [], []⟩,
    ⟨some 31, .len (.t 30), none, [], []⟩,
    ⟨some 5, .move (.t 31), none, [], []⟩]) (innkeeplaw07_TreeRoots.c20)) (innkeeplaw07_TreeRoots.c19))) (innkeeplaw07_TreeRoots.c18)
def innkeeplaw07_TreeRoots.c13 : Cd := .tidy [5, 6] [] [] (some 2)
def innkeeplaw07_TreeRoots.c12 : Cd := .seq (.seq (.seq (.seq (.reg false [⟨some 24, .move (.t 4), none, [], []⟩,
    ⟨some 25, .bin .lss (.t 24) (.c (.int .i64) (2 : Int)), none, [], []⟩]) (innkeeplaw07_TreeRoots.c16)) (innkeeplaw07_TreeRoots.c15)) (innkeeplaw07_TreeRoots.c14)) (innkeeplaw07_TreeRoots.c13)
def innkeeplaw07_TreeRoots.c11 : Cd := .block 0 (.loop (innkeeplaw07_TreeRoots.c12))
def innkeeplaw07_TreeRoots.c72 : Cd := .tidy [131, 132, 133, 134] [] [] none
def innkeeplaw07_TreeRoots.c73 : Cd := .skip
def innkeeplaw07_TreeRoots.c89 : Cd := .exit 6
def innkeeplaw07_TreeRoots.c71 : Cd := .cond (.t 135) (.seq (.tidy [135] [] [] none) (innkeeplaw07_TreeRoots.c73)) (.seq (.tidy [135] [] [] none) (innkeeplaw07_TreeRoots.c89))
def innkeeplaw07_TreeRoots.c76 : Cd := .tidy [138, 139, 140, 141, 142] [] [] none
def innkeeplaw07_TreeRoots.c79 : Cd := .tidy [143, 144, 145, 146, 147, 148, 149, 150, 151, 152, 153, 154, 155, 156] [] [] none
def innkeeplaw07_TreeRoots.c81 : Cd := .ret
def innkeeplaw07_TreeRoots.c80 : Cd := .seq (.reg false [⟨some 2, .move (.c .bool false), none, [], []⟩]) (innkeeplaw07_TreeRoots.c81)
def innkeeplaw07_TreeRoots.c82 : Cd := .skip
def innkeeplaw07_TreeRoots.c78 : Cd := .cond (.t 157) (.seq (.tidy [157] [] [] none) (innkeeplaw07_TreeRoots.c80)) (.seq (.tidy [157] [] [] none) (innkeeplaw07_TreeRoots.c82))
def innkeeplaw07_TreeRoots.c84 : Cd := .tidy [158, 159, 160, 161, 162, 163, 164, 165, 166, 167, 168, 169, 170, 171, 172, 173, 174, 175, 176, 177, 178, 179, 180, 181, 182, 183, 184, 185, 186, 187, 188, 189, 190, 191, 192, 193, 194, 195, 196, 197, 198, 199, 200, 201, 202, 203, 204, 205, 206] [] [] none
def innkeeplaw07_TreeRoots.c86 : Cd := .ret
def innkeeplaw07_TreeRoots.c85 : Cd := .seq (.reg false [⟨some 2, .move (.c .bool false), none, [], []⟩]) (innkeeplaw07_TreeRoots.c86)
def innkeeplaw07_TreeRoots.c87 : Cd := .skip
def innkeeplaw07_TreeRoots.c83 : Cd := .cond (.t 207) (.seq (.tidy [207] [] [] none) (innkeeplaw07_TreeRoots.c85)) (.seq (.tidy [207] [] [] none) (innkeeplaw07_TreeRoots.c87))
def innkeeplaw07_TreeRoots.c77 : Cd := .seq (.seq (.reg true [⟨some 158, .fieldAddr (.d tPlace) 0 (.t 11), none, [3], []⟩,
    ⟨some 159, .load (.d (.int .i64)) (.t 158), none, [3], []⟩,
    ⟨some 160, .bin .eql (.t 159) (.c (.int .i64) (2 : Int)), none, [], []⟩,
    ⟨some 161, .move (.t 160), none, [], []⟩,
    ⟨some 162, .load (.d tWorld) (.t 1), some (161, true), [0], []⟩,
    ⟨some 163, .move (.t 10), some (161, true), [], []⟩,
    ⟨some 164, .call (.f 19) [(.t 162), (.t 163)] [.d tPlace] [] false, some (161, true), [], []⟩,
    ⟨some 165, .load (.d tWorld) (.t 1), some (161, true), [0], []⟩,
    ⟨some 166, .fieldAddr (.d tPlace) 1 (.t 11), some (161, true), [3], []⟩,
    ⟨some 167, .load (.d (.int .i64)) (.t 166), some (161, true), [3], []⟩,
    ⟨some 168, .call (.f 19) [(.t 165), (.t 167)] [.d tPlace] [] false, some (161, true), [], []⟩,
    ⟨some 169, .eqs tPlace true (.t 164) (.t 168), some (161, true), [], []⟩,
    ⟨some 170, .move (.t 169), some (161, true), [], []⟩,
    ⟨some 171, .load (.d tWorld) (.t 1), some (170, false), [0], []⟩,
    ⟨some 172, .move (.t 10), some (170, false), [], []⟩,
    ⟨some 173, .call (.f 21) [(.t 171), (.t 172)] [.d (.int .i64)] [] false, some (170, false), [], []⟩,
    ⟨some 174, .load (.d tWorld) (.t 1), some (170, false), [0], []⟩,
    ⟨some 175, .fieldAddr (.d tPlace) 1 (.t 11), some (170, false), [3], []⟩,
    ⟨some 176, .load (.d (.int .i64)) (.t 175), some (170, false), [3], []⟩,
    ⟨some 177, .call (.f 21) [(.t 174), (.t 176)] [.d (.int .i64)] [] false, some (170, false), [], []⟩,
    ⟨some 178, .bin .add (.t 177) (.c (.int .i64) (1 : Int)), some (170, false), [], []⟩,
    ⟨some 179, .bin .neq (.t 173) (.t 178), some (170, false), [], []⟩,
    ⟨some 180, .pick (.t 170) (.c .bool true) (.t 179), some (161, true), [], []⟩,
    ⟨some 181, .move (.t 180), some (161, true), [], []⟩,
    ⟨some 182, .load (.d tWorld) (.t 1), some (181, false), [0], []⟩,
    ⟨some 183, .move (.t 10), some (181, false), [], []⟩,
    ⟨some 184, .fieldAddr (.d tPlace) 1 (.t 11), some (181, false), [3], []⟩,
    ⟨some 185, .load (.d (.int .i64)) (.t 184), some (181, false), [3], []⟩,
    ⟨some 186, .call (.f 25) [(.t 182), (.t 183), (.t 185)] [.d .bool] [] false, some (181, false), [], []⟩,
    ⟨some 187, .not (.t 186), some (181, false), [], []⟩,
    ⟨some 188, .pick (.t 181) (.c .bool true) (.t 187), some (161, true), [], []⟩,
    ⟨some 189, .pick (.t 161) (.t 188) (.c .bool false), none, [], []⟩,
    ⟨some 190, .move (.t 189), none, [], []⟩,
    ⟨some 191, .fieldAddr (.d tPlace) 0 (.t 11), some (190, false), [3], []⟩,
    ⟨some 192, .load (.d (.int .i64)) (.t 191), some (190, false), [3], []⟩,
    ⟨some 193, .bin .neq (.t 192) (.c (.int .i64) (2 : Int)), some (190, false), [], []⟩,
    ⟨some 194, .move (.t 193), some (190, false), [], []⟩,
    ⟨some 195, .load (.d tWorld) (.t 1), some (194, true), [0], []⟩,
    ⟨some 196, .move (.t 10), some (194, true), [], []⟩,
    ⟨some 197, .call (.f 19) [(.t 195), (.t 196)] [.d tPlace] [] false, some (194, true), [], []⟩,
    ⟨some 198, .load (.d tPlace) (.t 11), some (194, true), [3], []⟩,
    ⟨some 199, .eqs tPlace true (.t 197) (.t 198), some (194, true), [], []⟩,
    ⟨some 200, .move (.t 199), some (194, true), [], []⟩,
    ⟨some 201, .load (.d tWorld) (.t 1), some (200, false), [0], []⟩,
    ⟨some 202, .move (.t 10), some (200, false), [], []⟩,
    ⟨some 203, .call (.f 21) [(.t 201), (.t 202)] [.d (.int .i64)] [] false, some (200, false), [], []⟩,
    ⟨some 204, .bin .neq (.t 203) (.c (.int .i64) (0 : Int)), some (200, false), [], []⟩,
    ⟨some 205, .pick (.t 200) (.c .bool true) (.t 204), some (194, true), [], []⟩,
    ⟨some 206, .pick (.t 194) (.t 205) (.c .bool false), some (190, false), [], []⟩,
    ⟨some 207, .pick (.t 190) (.c .bool true) (.t 206), none, [], []⟩]) (innkeeplaw07_TreeRoots.c84)) (innkeeplaw07_TreeRoots.c83)
def innkeeplaw07_TreeRoots.c75 : Cd := .seq (.seq (.seq (.reg true [⟨some 143, .move (.t 3), none, [], []⟩,
    ⟨some 144, .move (.t 10), none, [], []⟩,
    ⟨some 145, .index (.sl (.int .i64)) (.t 143) (.t 144), none, [1], []⟩,
    ⟨some 146, .load (.d (.int .i64)) (.t 145), none, [1], []⟩,
    ⟨some 147, .bin .neq (.t 146) (.c (.int .i64) (1 : Int)), none, [], []⟩,
    ⟨some 148, .move (.t 147), none, [], []⟩,
    ⟨some 149, .load (.d tWorld) (.t 1), some (148, false), [0], []⟩,
    ⟨some 150, .move (.t 10), some (148, false), [], []⟩,
    ⟨some 151, .call (.f 21) [(.t 149), (.t 150)] [.d (.int .i64)] [] false, some (148, false), [], []⟩,
    ⟨some 152, .load (.d tWorld) (.t 1), some (148, false), [0], []⟩,
    ⟨some 153, .move (.t 10), some (148, false), [], []⟩,
    ⟨some 154, .call (.f 23) [(.t 152), (.t 153)] [.d (.int .i64)] [] false, some (148, false), [], []⟩,
    ⟨some 155, .bin .add (.t 151) (.t 154), some (148, false), [], []⟩,
    ⟨some 156, .bin .gtr (.t 155) (.c (.int .i64) (4 : Int)), some (148, false), [], []⟩,
    ⟨some 157, .pick (.t 148) (.c .bool true) (.t 156), none, [], []⟩]) (innkeeplaw07_TreeRoots.c79)) (innkeeplaw07_TreeRoots.c78)) (innkeeplaw07_TreeRoots.c77)
def innkeeplaw07_TreeRoots.c88 : Cd := .tidy [136, 137] [] [] none
def innkeeplaw07_TreeRoots.c74 : Cd := .seq (.reg false [⟨some 136, .move (.t 10), none, [], []⟩,
    ⟨some 137, .bin .add (.t 136) (.c (.int .i64) (1 : Int)), none, [], []⟩,
    ⟨some 10, .move (.t 137), none, [], []⟩]) (innkeeplaw07_TreeRoots.c88)
def innkeeplaw07_TreeRoots.c70 : Cd := .seq (.block 7 (.seq (.seq (.reg false [⟨some 138, .fieldAddr (.d tWorld) 3 (.t 1), none, [], []⟩,
    ⟨some 139, .load (.d (.sl tPlace)) (.t 138), none, [], []⟩,
    ⟨some 140, .move (.t 10), none, [], []⟩,
    ⟨some 141, .index (.sl tPlace) (.t 139) (.t 140), none, [], []⟩,
    ⟨some 142, .load (.d tPlace) (.t 141), none, [], []⟩,
    ⟨some 11, .newbox 3 tPlace [], none, [], []⟩,
    ⟨none, .store (.d tPlace) (.t 11) (.t 142), none, [], []⟩]) (innkeeplaw07_TreeRoots.c76)) (innkeeplaw07_TreeRoots.c75))) (innkeeplaw07_TreeRoots.c74)
def innkeeplaw07_TreeRoots.c69 : Cd := .tidy [11] [] [] (some 2)
def innkeeplaw07_TreeRoots.c68 : Cd := .seq (.seq (.seq (.seq (.reg false [⟨some 131, .move (.t 10), none, [], []⟩,
    ⟨some 132, .fieldAddr (.d tWorld) 3 (.t 1), none, [], []⟩,
    ⟨some 133, .load (.d (.sl tPlace)) (.t 132), none, [], []⟩,
    ⟨some 134, .len (.t 133), none, [], []⟩,
    ⟨some 135, .bin .lss (.t 131) (.t 134), none, [], []⟩]) (innkeeplaw07_TreeRoots.c72)) (innkeeplaw07_TreeRoots.c71)) (innkeeplaw07_TreeRoots.c70)) (innkeeplaw07_TreeRoots.c69)
def innkeeplaw07_TreeRoots.c67 : Cd := .block 6 (.loop (innkeeplaw07_TreeRoots.c68))
def innkeeplaw07_TreeRoots.c90 : Cd := .ret
def innkeeplaw07_TreeRoots.c66 : Cd := .seq (.reg false [⟨some 2, .move (.c .bool true), none, [], []⟩]) (innkeeplaw07_TreeRoots.c90)
def innkeeplaw07_TreeRoots.c10 : Cd := .seq (.seq (.reg false [⟨some 10, .move (.c (.int .i64) (0 : Int)), none, [], []⟩]) (innkeeplaw07_TreeRoots.c67)) (innkeeplaw07_TreeRoots.c66)
def innkeeplaw07_TreeRoots.c8 : Cd := .seq (.seq (.reg false [⟨some 4, .move (.c (.int .i64) (0 : Int)), none, [], []⟩]) (innkeeplaw07_TreeRoots.c11)) (innkeeplaw07_TreeRoots.c10)
def innkeeplaw07_TreeRoots.c1 : Cd := .seq (.seq (.reg false [⟨some 20, .fieldAddr (.d tWorld) 3 (.t 1), none, [], []⟩,
    ⟨some 21, .load (.d (.sl tPlace)) (.t 20), none, [], []⟩,
    ⟨some 22, .len (.t 21), none, [], []⟩,
    ⟨some 23, .make 1 (.int .i64) (.t 22), none, [], []⟩,
    ⟨some 3, .move (.t 23), none, [], []⟩]) (innkeeplaw07_TreeRoots.c9)) (innkeeplaw07_TreeRoots.c8)
def innkeeplaw07_TreeRoots.c0 : Cd := .seq (.seq (.seq (.reg false [⟨some 12, .call (.f 8) [] [.d .bool] [] false, none, [], []⟩,
    ⟨some 13, .not (.t 12), none, [], []⟩,
    ⟨some 14, .move (.t 13), none, [], []⟩,
    ⟨some 15, .load (.d tWorld) (.t 1), some (14, false), [], []⟩,
    ⟨some 16, .call (.f 9) [(.t 15)] [.d .bool] [] false, some (14, false), [], []⟩,
    ⟨some 17, .not (.t 16), some (14, false), [], []⟩,
    ⟨some 18, .pick (.t 14) (.c .bool true) (.t 17), none, [], []⟩]) (innkeeplaw07_TreeRoots.c3)) (innkeeplaw07_TreeRoots.c2)) (innkeeplaw07_TreeRoots.c1)
def innkeeplaw07_TreeRoots.fn : Fn := ⟨1, [.tmp 2], .seq (.reg false [⟨some 1, .box 0 (.t 0), none, [], []⟩,
    ⟨some 2, .move (.c .bool false), none, [], []⟩]) (innkeeplaw07_TreeRoots.c0)⟩
def innkeeplaw07_TreeWithin.c3 : Cd := .tidy [12, 13, 14, 15, 16, 17, 18, 19, 20, 21, 22, 23] [] [] none
def innkeeplaw07_TreeWithin.c6 : Cd := .tidy [25] [] [] none
def innkeeplaw07_TreeWithin.c5 : Cd := .ret
def innkeeplaw07_TreeWithin.c4 : Cd := .seq (.seq (.reg false [⟨some 25, .call (.f 8) [] [.d .bool] [] false, none, [], []⟩,
    ⟨some 8, .move (.t 25), none, [], []⟩]) (innkeeplaw07_TreeWithin.c6)) (innkeeplaw07_TreeWithin.c5)
def innkeeplaw07_TreeWithin.c7 : Cd := .skip
def innkeeplaw07_TreeWithin.c2 : Cd := .cond (.t 24) (.seq (.tidy [24] [] [] none) (innkeeplaw07_TreeWithin.c4)) (.seq (.tidy [24] [] [] none) (innkeeplaw07_TreeWithin.c7))
def innkeeplaw07_TreeWithin.c9 : Cd := .tidy [26, 27, 28, 29, 30, 31] [] [] none
def innkeeplaw07_TreeWithin.c11 : Cd := .tidy [32, 33, 34, 35, 36, 37] [] [] none
def innkeeplaw07_TreeWithin.c13 : Cd := .tidy [38, 39, 40, 41, 42, 43] [] [] none
def innkeeplaw07_TreeWithin.c16 : Cd := .tidy [44, 45, 46, 47, 48, 49, 50, 51, 52, 53, 54, 55, 56, 57, 58, 59, 60, 61, 62, 63, 64, 65, 66, 67, 68, 69, 70, 71, 72, 73, 74, 75, 76, 77, 78, 79, 80, 81, 82, 83] [] [] none
def innkeeplaw07_TreeWithin.c18 : Cd := .ret
def innkeeplaw07_TreeWithin.c17 : Cd := .seq (.reg false [⟨some 8, .move (.c .bool false), none, [], []⟩]) (innkeeplaw07_TreeWithin.c18)
def innkeeplaw07_TreeWithin.c19 : Cd := .skip
def innkeeplaw07_TreeWithin.c15 : Cd := .cond (.t 84) (.seq (.tidy [84] [] [] none) (innkeeplaw07_TreeWithin.c17)) (.seq (.tidy [84] [] [] none) (innkeeplaw07_TreeWithin.c19))
def innkeeplaw07_TreeWithin.c21 : Cd := .tidy [85, 86, 87, 88, 89, 90, 91, 92, 93, 94, 95, 96, 97, 98, 99, 100, 101, 102, 103, 104, 105, 106, 107, 108, 109, 110, 111, 112, 113, 114, 115, 116, 117, 118, 119, 120] [] [] none
def innkeeplaw07_TreeWithin.c20 : Cd := .ret
def innkeeplaw07_TreeWithin.c14 : Cd := .seq (.seq (.reg true [⟨some 85, .load (.d tWorld) (.t 4), none, [0], []⟩,
    ⟨some 86, .move (.t 9), none, [], []⟩,
    ⟨some 87, .move (.t 10), none, [], []⟩,
    ⟨some 88, .call (.f 25) [(.t 85), (.t 86), (.t 87)] [.d .bool] [] false, none, [], []⟩,
    ⟨some 89, .not (.t 88), none, [], []⟩,
    ⟨some 90, .move (.t 89), none, [], []⟩,
    ⟨some 91, .load (.d tWorld) (.t 4), some (90, false), [0], []⟩,
    ⟨some 92, .move (.t 9), some (90, false), [], []⟩,
    ⟨some 93, .call (.f 19) [(.t 91), (.t 92)] [.d tPlace] [] false, some (90, false), [], []⟩,
    ⟨some 94, .load (.d tWorld) (.t 4), some (90, false), [0], []⟩,
    ⟨some 95, .move (.t 10), some (90, false), [], []⟩,
    ⟨some 96, .call (.f 19) [(.t 94), (.t 95)] [.d tPlace] [] false, some (90, false), [], []⟩,
    ⟨some 97, .eqs tPlace false (.t 93) (.t 96), some (90, false), [], []⟩,
    ⟨some 98, .move (.t 97), some (90, false), [], []⟩,
    ⟨some 99, .load (.d tWorld) (.t 4), some (98, true), [0], []⟩,
    ⟨some 100, .move (.t 9), some (98, true), [], []⟩,
    ⟨some 101, .call (.f 21) [(.t 99), (.t 100)] [.d (.int .i64)] [] false, some (98, true), [], []⟩,
    ⟨some 102, .load (.d tWorld) (.t 4), some (98, true), [0], []⟩,
    ⟨some 103, .move (.t 10), some (98, true), [], []⟩,
    ⟨some 104, .call (.f 21) [(.t 102), (.t 103)] [.d (.int .i64)] [] false, some (98, true), [], []⟩,
    ⟨some 105, .bin .geq (.t 101) (.t 104), some (98, true), [], []⟩,
    ⟨some 106, .pick (.t 98) (.t 105) (.c .bool false), some (90, false), [], []⟩,
    ⟨some 107, .move (.t 106), some (90, false), [], []⟩,
    ⟨some 108, .load (.d tWorld) (.t 4), some (107, true), [0], []⟩,
    ⟨some 109, .move (.t 9), some (107, true), [], []⟩,
    ⟨some 110, .call (.f 21) [(.t 108), (.t 109)] [.d (.int .i64)] [] false, some (107, true), [], []⟩,
    ⟨some 111, .load (.d tWorld) (.t 4), some (107, true), [0], []⟩,
    ⟨some 112, .move (.t 10), some (107, true), [], []⟩,
    ⟨some 113, .call (.f 21) [(.t 111), (.t 112)] [.d (.int .i64)] [] false, some (107, true), [], []⟩,
    ⟨some 114, .load (.d tWorld) (.t 4), some (107, true), [0], []⟩,
    ⟨some 115, .move (.t 10), some (107, true), [], []⟩,
    ⟨some 116, .call (.f 23) [(.t 114), (.t 115)] [.d (.int .i64)] [] false, some (107, true), [], []⟩,
    ⟨some 117, .bin .add (.t 113) (.t 116), some (107, true), [], []⟩,
    ⟨some 118, .bin .leq (.t 110) (.t 117), some (107, true), [], []⟩,
    ⟨some 119, .pick (.t 107) (.t 118) (.c .bool false), some (90, false), [], []⟩,
    ⟨some 120, .pick (.t 90) (.c .bool true) (.t 119), none, [], []⟩,
    ⟨some 8, .move (.t 120), none, [], []⟩]) (innkeeplaw07_TreeWithin.c21)) (innkeeplaw07_TreeWithin.c20)
def innkeeplaw07_TreeWithin.c12 : Cd := .seq (.seq (.seq (.reg false [⟨some 44, .load (.d tWorld) (.t 4), none, [], []⟩,
    ⟨some 45, .move (.t 9), none, [], []⟩,
    ⟨some 46, .move (.t 9), none, [], []⟩,
    ⟨some 47, .call (.f 25) [(.t 44), (.t 45), (.t 46)] [.d .bool] [] false, none, [], []⟩,
    ⟨some 48, .not (.t 47), none, [], []⟩,
    ⟨some 49, .move (.t 48), none, [], []⟩,
    ⟨some 50, .load (.d tWorld) (.t 4), some (49, false), [], []⟩,
    ⟨some 51, .move (.t 9), some (49, false), [], []⟩,
    ⟨some 52, .move (.t 10), some (49, false), [], []⟩,
    ⟨some 53, .call (.f 25) [(.t 50), (.t 51), (.t 52)] [.d .bool] [] false, some (49, false), [], []⟩,
    ⟨some 54, .move (.t 53), some (49, false), [], []⟩,
    ⟨some 55, .load (.d tWorld) (.t 4), some (54, true), [], []⟩,
    ⟨some 56, .move (.t 10), some (54, true), [], []⟩,
    ⟨some 57, .move (.t 9), some (54, true), [], []⟩,
    ⟨some 58, .call (.f 25) [(.t 55), (.t 56), (.t 57)] [.d .bool] [] false, some (54, true), [], []⟩,
    ⟨some 59, .pick (.t 54) (.t 58) (.c .bool false), some (49, false), [], []⟩,
    ⟨some 60, .move (.t 59), some (49, false), [], []⟩,
    ⟨some 61, .move (.t 9), some (60, true), [], []⟩,
    ⟨some 62, .move (.t 10), some (60, true), [], []⟩,
    ⟨some 63, .bin .neq (.t 61) (.t 62), some (60, true), [], []⟩,
    ⟨some 64, .pick (.t 60) (.t 63) (.c .bool false), some (49, false), [], []⟩,
    ⟨some 65, .pick (.t 49) (.c .bool true) (.t 64), none, [], []⟩,
    ⟨some 66, .move (.t 65), none, [], []⟩,
    ⟨some 67, .load (.d tWorld) (.t 4), some (66, false), [], []⟩,
    ⟨some 68, .move (.t 9), some (66, false), [], []⟩,
    ⟨some 69, .move (.t 10), some (66, false), [], []⟩,
    ⟨some 70, .call (.f 25) [(.t 67), (.t 68), (.t 69)] [.d .bool] [] false, some (66, false), [], []⟩,
    ⟨some 71, .move (.t 70), some (66, false), [], []⟩,
    ⟨some 72, .load (.d tWorld) (.t 4), some (71, true), [], []⟩,
    ⟨some 73, .move (.t 10), some (71, true), [], []⟩,
    ⟨some 74, .move (.t 11), some (71, true), [], []⟩,
    ⟨some 75, .call (.f 25) [(.t 72), (.t 73), (.t 74)] [.d .bool] [] false, some (71, true), [], []⟩,
    ⟨some 76, .pick (.t 71) (.t 75) (.c .bool false), some (66, false), [], []⟩,
    ⟨some 77, .move (.t 76), some (66, false), [], []⟩,
    ⟨some 78, .load (.d tWorld) (.t 4), some (77, true), [], []⟩,
    ⟨some 79, .move (.t 9), some (77, true), [], []⟩,
    ⟨some 80, .move (.t 11), some (77, true), [], []⟩,
    ⟨some 81, .call (.f 25) [(.t 78), (.t 79), (.t 80)] [.d .bool] [] false, some (77, true), [], []⟩,
    ⟨some 82, .not (.t 81), some (77, true), [], []⟩,
    ⟨some 83, .pick (.t 77) (.t 82) (.c .bool false), some (66, false), [], []⟩,
    ⟨some 84, .pick (.t 66) (.c .bool true) (.t 83), none, [], []⟩]) (innkeeplaw07_TreeWithin.c16)) (innkeeplaw07_TreeWithin.c15)) (innkeeplaw07_TreeWithin.c14)
def innkeeplaw07_TreeWithin.c10 : Cd := .seq (.seq (.reg false [⟨some 38, .move (.t 3), none, [], []⟩,
    ⟨some 39, .conv .i64 (.t 38), none, [], []⟩,
    ⟨some 40, .fieldAddr (.d tWorld) 3 (.t 4), none, [], []⟩,
    ⟨some 41, .load (.d (.sl tPlace)) (.t 40), none, [], []⟩,
    ⟨some 42, .len (.t 41), none, [], []⟩,
    ⟨some 43, .bin .rem (.t 39) (.t 42), none, [], []⟩,
    ⟨some 11, .move (.t 43), none, [], []⟩]) (innkeeplaw07_TreeWithin.c13)) (innkeeplaw07_TreeWithin.c12)
def innkeeplaw07_TreeWithin.c8 : Cd := .seq (.seq (.reg false [⟨some 32, .move (.t 2), none, [], []⟩,
    ⟨some 33, .conv .i64 (.t 32), none, [], []⟩,
    ⟨some 34, .fieldAddr (.d tWorld) 3 (.t 4), none, [], []⟩,
    ⟨some 35, .load (.d (.sl tPlace)) (.t 34), none, [], []⟩,
    ⟨some 36, .len (.t 35), none, [], []⟩,
    ⟨some 37, .bin .rem (.t 33) (.t 36), none, [], []⟩,
    ⟨some 10, .move (.t 37), none, [], []⟩]) (innkeeplaw07_TreeWithin.c11)) (innkeeplaw07_TreeWithin.c10)
def innkeeplaw07_TreeWithin.c1 : Cd := .seq (.seq (.reg false [⟨some 26, .move (.t 1), none, [], []⟩,
    ⟨some 27, .conv .i64 (.t 26), none, [], []⟩,
    ⟨some 28, .fieldAddr (.d tWorld) 3 (.t 4), none, [], []⟩,
    ⟨some 29, .load (.d (.sl tPlace)) (.t 28), none, [], []⟩,
    ⟨some 30, .len (.t 29), none, [], []⟩,
    ⟨some 31, .bin .rem (.t 27) (.t 30), none, [], []⟩,
    ⟨some 9, .move (.t 31), none, [], []⟩]) (innkeeplaw07_TreeWithin.c9)) (innkeeplaw07_TreeWithin.c8)
def innkeeplaw07_TreeWithin.c0 : Cd := .seq (.seq (.seq (.reg false [⟨some 12, .call (.f 8) [] [.d .bool] [] false, none, [], []⟩,
    ⟨some 13, .not (.t 12), none, [], []⟩,
    ⟨some 14, .move (.t 13), none, [], []⟩,
    ⟨some 15, .load (.d tWorld) (.t 4), some (14, false), [], []⟩,
    ⟨some 16, .call (.f 9) [(.t 15)] [.d .bool] [] false, some (14, false), [], []⟩,
    ⟨some 17, .not (.t 16), some (14, false), [], []⟩,
    ⟨some 18, .pick (.t 14) (.c .bool true) (.t 17), none, [], []⟩,
    ⟨some 19, .move (.t 18), none, [], []⟩,
    ⟨some 20, .fieldAddr (.d tWorld) 3 (.t 4), some (19, false), [], []⟩,
    ⟨some 21, .load (.d (.sl tPlace)) (.t 20), some (19, false), [], []⟩,
    ⟨some 22, .len (.t 21), some (19, false), [], []⟩,
    ⟨some 23, .bin .eql (.t 22) (.c (.int .i64) (0 : Int)), some (19, false), [], []⟩,
    ⟨some 24, .pick (.t 19) (.c .bool true) (.t 23), none, [], []⟩]) (innkeeplaw07_TreeWithin.c3)) (innkeeplaw07_TreeWithin.c2)) (innkeeplaw07_TreeWithin.c1)
def innkeeplaw07_TreeWithin.fn : Fn := ⟨4, [.tmp 8], .seq (.reg false [⟨some 4, .box 0 (.t 0), none, [], []⟩,
    ⟨some 8, .move (.c .bool false), none, [], []⟩]) (innkeeplaw07_TreeWithin.c0)⟩
def innkeepref06_Copied.c2 : Cd := .tidy [3, 4, 5, 6, 7] [] [] none
def innkeepref06_Copied.c4 : Cd := .tidy [8, 9, 10, 11, 12] [] [] none
def innkeepref06_Copied.c6 : Cd := .tidy [13, 14, 15, 16, 17] [] [] none
def innkeepref06_Copied.c8 : Cd := .tidy [18] [] [] none
def innkeepref06_Copied.c7 : Cd := .ret
def innkeepref06_Copied.c5 : Cd := .seq (.seq (.reg false [⟨some 18, .load (.d tWorld) (.t 1), none, [], []⟩,
    ⟨none, .store (.d tWorld) (.t 2) (.t 18), none, [], []⟩]) (innkeepref06_Copied.c8)) (innkeepref06_Copied.c7)
def innkeepref06_Copied.c3 : Cd := .seq (.seq (.reg false [⟨some 13, .slice 6 tPlace [], none, [], []⟩,
    ⟨some 14, .fieldAddr (.d tWorld) 3 (.t 1), none, [], []⟩,
    ⟨some 15, .load (.d (.sl tPlace)) (.t 14), none, [], []⟩,
    ⟨some 16, .append 7 tPlace (.t 13) (.t 15), none, [], []⟩,
    ⟨some 17, .fieldAddr (.d tWorld) 3 (.t 1), none, [], []⟩,
    ⟨none, .store (.d (.sl tPlace)) (.t 17) (.t 16), none, [], []⟩]) (innkeepref06_Copied.c6)) (innkeepref06_Copied.c5)
def innkeepref06_Copied.c1 : Cd := .seq (.seq (.reg false [⟨some 8, .slice 4 (.int .i64) [], none, [], []⟩,
    ⟨some 9, .fieldAddr (.d tWorld) 2 (.t 1), none, [], []⟩,
    ⟨some 10, .load (.d (.sl (.int .i64))) (.t 9), none, [], []⟩,
    ⟨some 11, .append 5 (.int .i64) (.t 8) (.t 10), none, [], []⟩,
    ⟨some 12, .fieldAddr (.d tWorld) 2 (.t 1), none, [], []⟩,
    ⟨none, .store (.d (.sl (.int .i64))) (.t 12) (.t 11), none, [], []⟩]) (innkeepref06_Copied.c4)) (innkeepref06_Copied.c3)
def innkeepref06_Copied.c0 : Cd := .seq (.seq (.reg false [⟨some 3, .slice 2 (.int .i64) [], none, [], []⟩,
    ⟨some 4, .fieldAddr (.d tWorld) 1 (.t 1), none, [], []⟩,
    ⟨some 5, .load (.d (.sl (.int .i64))) (.t 4), none, [], []⟩,
    ⟨some 6, .append 3 (.int .i64) (.t 3) (.t 5), none, [], []⟩,
    ⟨some 7, .fieldAddr (.d tWorld) 1 (.t 1), none, [], []⟩,
    ⟨none, .store (.d (.sl (.int .i64))) (.t 7) (.t 6), none, [], []⟩]) (innkeepref06_Copied.c2)) (innkeepref06_Copied.c1)
def innkeepref06_Copied.fn : Fn := ⟨1, [.cell 2 (.d tWorld)], .seq (.reg false [⟨some 1, .box 0 (.t 0), none, [], []⟩,
    ⟨some 2, .newbox 1 tWorld [], none, [], []⟩]) (innkeepref06_Copied.c0)⟩
def innkeepref06_Places.c3 : Cd := .tidy [6, 7, 8, 9] [] [] none
def innkeepref06_Places.c5 : Cd := .ret
def innkeepref06_Places.c4 : Cd := .seq (.reg false [⟨some 4, .move (.c .bool false), none, [], []⟩]) (innkeepref06_Places.c5)
def innkeepref06_Places.c6 : Cd := .skip
def innkeepref06_Places.c2 : Cd := .cond (.t 10) (.seq (.tidy [10] [] [] none) (innkeepref06_Places.c4)) (.seq (.tidy [10] [] [] none) (innkeepref06_Places.c6))
def innkeepref06_Places.c13 : Cd := .tidy [11, 12, 13] [] [] none
def innkeepref06_Places.c14 : Cd := .skip
def innkeepref06_Places.c22 : Cd := .exit 0
def innkeepref06_Places.c12 : Cd := .cond (.t 14) (.seq (.tidy [14] [] [] none) (innkeepref06_Places.c14)) (.seq (.tidy [14] [] [] none) (innkeepref06_Places.c22))
def innkeepref06_Places.c17 : Cd := .tidy [17, 18, 19, 20, 21, 22, 23, 24] [] [] none
def innkeepref06_Places.c19 : Cd := .ret
def innkeepref06_Places.c18 : Cd := .seq (.reg false [⟨some 4, .move (.c .bool false), none, [], []⟩]) (innkeepref06_Places.c19)
def innkeepref06_Places.c20 : Cd := .skip
def innkeepref06_Places.c16 : Cd := .cond (.t 25) (.seq (.tidy [25] [] [] none) (innkeepref06_Places.c18)) (.seq (.tidy [25] [] [] none) (innkeepref06_Places.c20))
def innkeepref06_Places.c21 : Cd := .tidy [15, 16] [] [] none
def innkeepref06_Places.c15 : Cd := .seq (.reg false [⟨some 15, .move (.t 5), none, [], []⟩,
    ⟨some 16, .bin .add (.t 15) (.c (.int .i64) (1 : Int)), none, [], []⟩,
    ⟨some 5, .move (.t 16), none, [], []⟩]) (innkeepref06_Places.c21)
def innkeepref06_Places.c11 : Cd := .seq (.block 1 (.seq (.seq (.reg true [⟨some 17, .move (.t 0), none, [], []⟩,
    ⟨some 18, .move (.t 5), none, [], []⟩,
    ⟨some 19, .index (.sl tPlace) (.t 17) (.t 18), none, [], []⟩,
    ⟨some 20, .load (.d tPlace) (.t 19), none, [], []⟩,
    ⟨some 21, .move (.t 1), none, [], []⟩,
    ⟨some 22, .move (.t 5), none, [], []⟩,
    ⟨some 23, .index (.sl tPlace) (.t 21) (.t 22), none, [], []⟩,
    ⟨some 24, .load (.d tPlace) (.t 23), none, [], []⟩,
    ⟨some 25, .eqs tPlace true (.t 20) (.t 24), none, [], []⟩]) (innkeepref06_Places.c17)) (innkeepref06_Places.c16))) (innkeepref06_Places.c15)
def innkeepref06_Places.c10 : Cd := .tidy [] [] [] (some 0)
def innkeepref06_Places.c9 : Cd := .seq (.seq (.seq (.seq (.reg false [⟨some 11, .move (.t 5), none, [], []⟩,
    ⟨some 12, .move (.t 0), none, [], []⟩,
    ⟨some 13, .len (.t 12), none, [], []⟩,
    ⟨some 14, .bin .lss (.t 11) (.t 13), none, [], []⟩]) (innkeepref06_Places.c13)) (innkeepref06_Places.c12)) (innkeepref06_Places.c11)) (innkeepref06_Places.c10)
def innkeepref06_Places.c8 : Cd := .block 0 (.loop (innkeepref06_Places.c9))
def innkeepref06_Places.c23 : Cd := .ret
def innkeepref06_Places.c7 : Cd := .seq (.reg false [⟨some 4, .move (.c .bool true), none, [], []⟩]) (innkeepref06_Places.c23)
def innkeepref06_Places.c1 : Cd := .seq (.seq (.reg false [⟨some 5, .move (.c (.int .i64) (0 : Int)), none, [], []⟩]) (innkeepref06_Places.c8)) (innkeepref06_Places.c7)
def innkeepref06_Places.c0 : Cd := .seq (.seq (.seq (.reg false [⟨some 6, .move (.t 0), none, [], []⟩,
    ⟨some 7, .len (.t 6), none, [], []⟩,
    ⟨some 8, .move (.t 1), none, [], []⟩,
    ⟨some 9, .len (.t 8), none, [], []⟩,
    ⟨some 10, .bin .neq (.t 7) (.t 9), none, [], []⟩]) (innkeepref06_Places.c3)) (innkeepref06_Places.c2)) (innkeepref06_Places.c1)
def innkeepref06_Places.fn : Fn := ⟨2, [.tmp 4], .seq (.reg false [⟨some 4, .move (.c .bool false), none, [], []⟩]) (innkeepref06_Places.c0)⟩
def innkeepref06_Same.c2 : Cd := .tidy [9, 10] [] [] none
def innkeepref06_Same.c4 : Cd := .tidy [11, 12] [] [] none
def innkeepref06_Same.c7 : Cd := .tidy [13, 14, 15, 16, 17, 18, 19, 20, 21, 22, 23, 24, 25, 26, 27, 28, 29, 30, 31, 32, 33, 34, 35, 36, 37, 38, 39, 40, 41, 42, 43, 44, 45, 46, 47, 48] [] [] none
def innkeepref06_Same.c9 : Cd := .ret
def innkeepref06_Same.c8 : Cd := .seq (.reg false [⟨some 4, .move (.c .bool false), none, [], []⟩]) (innkeepref06_Same.c9)
def innkeepref06_Same.c10 : Cd := .skip
def innkeepref06_Same.c6 : Cd := .cond (.t 49) (.seq (.tidy [49] [] [] none) (innkeepref06_Same.c8)) (.seq (.tidy [49] [] [] none) (innkeepref06_Same.c10))
def innkeepref06_Same.c17 : Cd := .tidy [50, 51, 52, 53] [] [] none
def innkeepref06_Same.c18 : Cd := .skip
def innkeepref06_Same.c26 : Cd := .exit 0
def innkeepref06_Same.c16 : Cd := .cond (.t 54) (.seq (.tidy [54] [] [] none) (innkeepref06_Same.c18)) (.seq (.tidy [54] [] [] none) (innkeepref06_Same.c26))
def innkeepref06_Same.c21 : Cd := .tidy [57, 58, 59, 60, 61, 62, 63, 64, 65, 66] [] [] none
def innkeepref06_Same.c23 : Cd := .ret
def innkeepref06_Same.c22 : Cd := .seq (.reg false [⟨some 4, .move (.c .bool false), none, [], []⟩]) (innkeepref06_Same.c23)
def innkeepref06_Same.c24 : Cd := .skip
def innkeepref06_Same.c20 : Cd := .cond (.t 67) (.seq (.tidy [67] [] [] none) (innkeepref06_Same.c22)) (.seq (.tidy [67] [] [] none) (innkeepref06_Same.c24))
def innkeepref06_Same.c25 : Cd := .tidy [55, 56] [] [] none
def innkeepref06_Same.c19 : Cd := .seq (.reg false [⟨some 55, .move (.t 7), none, [], []⟩,
    ⟨some 56, .bin .add (.t 55) (.c (.int .i64) (1 : Int)), none, [], []⟩,
    ⟨some 7, .move (.t 56), none, [], []⟩]) (innkeepref06_Same.c25)
def innkeepref06_Same.c15 : Cd := .seq (.block 1 (.seq (.seq (.reg true [⟨some 57, .fieldAddr (.d tDesc) 0 (.t 5), none, [2], []⟩,
    ⟨some 58, .load (.d (.sl (.arr 4 (.int .i64)))) (.t 57), none, [2], []⟩,
    ⟨some 59, .move (.t 7), none, [], []⟩,
    ⟨some 60, .index (.sl (.arr 4 (.int .i64))) (.t 58) (.t 59), none, [], []⟩,
    ⟨some 61, .load (.d (.arr 4 (.int .i64))) (.t 60), none, [], []⟩,
    ⟨some 62, .fieldAddr (.d tDesc) 0 (.t 6), none, [3], []⟩,
    ⟨some 63, .load (.d (.sl (.arr 4 (.int .i64)))) (.t 62), none, [3], []⟩,
    ⟨some 64, .move (.t 7), none, [], []⟩,
    ⟨some 65, .index (.sl (.arr 4 (.int .i64))) (.t 63) (.t 64), none, [], []⟩,
    ⟨some 66, .load (.d (.arr 4 (.int .i64))) (.t 65), none, [], []⟩,
    ⟨some 67, .eqs (.arr 4 (.int .i64)) true (.t 61) (.t 66), none, [], []⟩]) (innkeepref06_Same.c21)) (innkeepref06_Same.c20))) (innkeepref06_Same.c19)
def innkeepref06_Same.c14 : Cd := .tidy [] [] [] (some 4)
def innkeepref06_Same.c13 : Cd := .seq (.seq (.seq (.seq (.reg false [⟨some 50, .move (.t 7), none, [], []⟩,
    ⟨some 51, .fieldAddr (.d tDesc) 0 (.t 5), none, [], []⟩,
    ⟨some 52, .load (.d (.sl (.arr 4 (.int .i64)))) (.t 51), none, [], []⟩,
    ⟨some 53, .len (.t 52), none, [], []⟩,
    ⟨some 54, .bin .lss (.t 50) (.t 53), none, [], []⟩]) (innkeepref06_Same.c17)) (innkeepref06_Same.c16)) (innkeepref06_Same.c15)) (innkeepref06_Same.c14)
def innkeepref06_Same.c12 : Cd := .block 0 (.loop (innkeepref06_Same.c13))
def innkeepref06_Same.c33 : Cd := .tidy [68, 69, 70, 71] [] [] none
def innkeepref06_Same.c34 : Cd := .skip
def innkeepref06_Same.c42 : Cd := .exit 2
def innkeepref06_Same.c32 : Cd := .cond (.t 72) (.seq (.tidy [72] [] [] none) (innkeepref06_Same.c34)) (.seq (.tidy [72] [] [] none) (innkeepref06_Same.c42))
def innkeepref06_Same.c37 : Cd := .tidy [75, 76, 77, 78, 79, 80, 81, 82, 83, 84] [] [] none
def innkeepref06_Same.c39 : Cd := .ret
def innkeepref06_Same.c38 : Cd := .seq (.reg false [⟨some 4, .move (.c .bool false), none, [], []⟩]) (innkeepref06_Same.c39)
def innkeepref06_Same.c40 : Cd := .skip
def innkeepref06_Same.c36 : Cd := .cond (.t 85) (.seq (.tidy [85] [] [] none) (innkeepref06_Same.c38)) (.seq (.tidy [85] [] [] none) (innkeepref06_Same.c40))
def innkeepref06_Same.c41 : Cd := .tidy [73, 74] [] [] none
def innkeepref06_Same.c35 : Cd := .seq (.reg false [⟨some 73, .move (.t 8), none, [], []⟩,
    ⟨some 74, .bin .add (.t 73) (.c (.int .i64) (1 : Int)), none, [], []⟩,
    ⟨some 8, .move (.t 74), none, [], []⟩]) (innkeepref06_Same.c41)
def innkeepref06_Same.c31 : Cd := .seq (.block 3 (.seq (.seq (.reg true [⟨some 75, .fieldAddr (.d tDesc) 4 (.t 5), none, [2], []⟩,
    ⟨some 76, .load (.d (.sl .bool)) (.t 75), none, [2], []⟩,
    ⟨some 77, .move (.t 8), none, [], []⟩,
    ⟨some 78, .index (.sl .bool) (.t 76) (.t 77), none, [], []⟩,
    ⟨some 79, .load (.d .bool) (.t 78), none, [], []⟩,
    ⟨some 80, .fieldAddr (.d tDesc) 4 (.t 6), none, [3], []⟩,
    ⟨some 81, .load (.d (.sl .bool)) (.t 80), none, [3], []⟩,
    ⟨some 82, .move (.t 8), none, [], []⟩,
    ⟨some 83, .index (.sl .bool) (.t 81) (.t 82), none, [], []⟩,
    ⟨some 84, .load (.d .bool) (.t 83), none, [], []⟩,
    ⟨some 85, .eqs .bool true (.t 79) (.t 84), none, [], []⟩]) (innkeepref06_Same.c37)) (innkeepref06_Same.c36))) (innkeepref06_Same.c35)
def innkeepref06_Same.c30 : Cd := .tidy [] [] [] (some 4)
def innkeepref06_Same.c29 : Cd := .seq (.seq (.seq (.seq (.reg false [⟨some 68, .move (.t 8), none, [], []⟩,
    ⟨some 69, .fieldAddr (.d tDesc) 4 (.t 5), none, [], []⟩,
    ⟨some 70, .load (.d (.sl .bool)) (.t 69), none, [], []⟩,
    ⟨some 71, .len (.t 70), none, [], []⟩,
    ⟨some 72, .bin .lss (.t 68) (.t 71), none, [], []⟩]) (innkeepref06_Same.c33)) (innkeepref06_Same.c32)) (innkeepref06_Same.c31)) (innkeepref06_Same.c30)
def innkeepref06_Same.c28 : Cd := .block 2 (.loop (innkeepref06_Same.c29))
def innkeepref06_Same.c44 : Cd := .tidy [86, 87, 88, 89, 90, 91, 92, 93, 94, 95, 96, 97, 98, 99, 100, 101, 102, 103, 104, 105, 106, 107, 108, 109, 110, 111, 112, 113, 114, 115, 116, 117, 118, 119, 120, 121, 122, 123, 124, 125] [] [] none
def innkeepref06_Same.c43 : Cd := .ret
def innkeepref06_Same.c27 : Cd := .seq (.seq (.reg false [⟨some 86, .fieldAddr (.d tDesc) 1 (.t 5), none, [], []⟩,
    ⟨some 87, .load (.d (.sl (.int .i64))) (.t 86), none, [], []⟩,
    ⟨some 88, .fieldAddr (.d tDesc) 1 (.t 6), none, [], []⟩,
    ⟨some 89, .load (.d (.sl (.int .i64))) (.t 88), none, [], []⟩,
    ⟨some 90, .call (.f 11) [(.t 87), (.t 89)] [.d .bool] [] false, none, [], []⟩,
    ⟨some 91, .move (.t 90), none, [], []⟩,
    ⟨some 92, .fieldAddr (.d tDesc) 2 (.t 5), some (91, true), [], []⟩,
    ⟨some 93, .load (.d (.sl (.int .i64))) (.t 92), some (91, true), [], []⟩,
    ⟨some 94, .fieldAddr (.d tDesc) 2 (.t 6), some (91, true), [], []⟩,
    ⟨some 95, .load (.d (.sl (.int .i64))) (.t 94), some (91, true), [], []⟩,
    ⟨some 96, .call (.f 11) [(.t 93), (.t 95)] [.d .bool] [] false, some (91, true), [], []⟩,
    ⟨some 97, .pick (.t 91) (.t 96) (.c .bool false), none, [], []⟩,
    ⟨some 98, .move (.t 97), none, [], []⟩,
    ⟨some 99, .fieldAddr (.d tDesc) 3 (.t 5), some (98, true), [], []⟩,
    ⟨some 100, .load (.d (.sl (.int .i64))) (.t 99), some (98, true), [], []⟩,
    ⟨some 101, .fieldAddr (.d tDesc) 3 (.t 6), some (98, true), [], []⟩,
    ⟨some 102, .load (.d (.sl (.int .i64))) (.t 101), some (98, true), [], []⟩,
    ⟨some 103, .call (.f 11) [(.t 100), (.t 102)] [.d .bool] [] false, some (98, true), [], []⟩,
    ⟨some 104, .pick (.t 98) (.t 103) (.c .bool false), none, [], []⟩,
    ⟨some 105, .move (.t 104), none, [], []⟩,
    ⟨some 106, .fieldAddr (.d tWorld) 1 (.t 2), some (105, true), [], []⟩,
    ⟨some 107, .load (.d (.sl (.int .i64))) (.t 106), some (105, true), [], []⟩,
    ⟨some 108, .fieldAddr (.d tWorld) 1 (.t 3), some (105, true), [], []⟩,
    ⟨some 109, .load (.d (.sl (.int .i64))) (.t 108), some (105, true), [], []⟩,
    ⟨some 110, .call (.f 11) [(.t 107), (.t 109)] [.d .bool] [] false, some (105, true), [], []⟩,
    ⟨some 111, .pick (.t 105) (.t 110) (.c .bool false), none, [], []⟩,
    ⟨some 112, .move (.t 111), none, [], []⟩,
    ⟨some 113, .fieldAddr (.d tWorld) 2 (.t 2), some (112, true), [], []⟩,
    ⟨some 114, .load (.d (.sl (.int .i64))) (.t 113), some (112, true), [], []⟩,
    ⟨some 115, .fieldAddr (.d tWorld) 2 (.t 3), some (112, true), [], []⟩,
    ⟨some 116, .load (.d (.sl (.int .i64))) (.t 115), some (112, true), [], []⟩,
    ⟨some 117, .call (.f 11) [(.t 114), (.t 116)] [.d .bool] [] false, some (112, true), [], []⟩,
    ⟨some 118, .pick (.t 112) (.t 117) (.c .bool false), none, [], []⟩,
    ⟨some 119, .move (.t 118), none, [], []⟩,
    ⟨some 120, .fieldAddr (.d tWorld) 3 (.t 2), some (119, true), [], []⟩,
    ⟨some 121, .load (.d (.sl tPlace)) (.t 120), some (119, true), [], []⟩,
    ⟨some 122, .fieldAddr (.d tWorld) 3 (.t 3), some (119, true), [], []⟩,
    ⟨some 123, .load (.d (.sl tPlace)) (.t 122), some (119, true), [], []⟩,
    ⟨some 124, .call (.f 37) [(.t 121), (.t 123)] [.d .bool] [] false, some (119, true), [], []⟩,
    ⟨some 125, .pick (.t 119) (.t 124) (.c .bool false), none, [], []⟩,
    ⟨some 4, .move (.t 125), none, [], []⟩]) (innkeepref06_Same.c44)) (innkeepref06_Same.c43)
def innkeepref06_Same.c11 : Cd := .seq (.seq (.reg false [⟨some 8, .move (.c (.int .i64) (0 : Int)), none, [], []⟩]) (innkeepref06_Same.c28)) (innkeepref06_Same.c27)
def innkeepref06_Same.c5 : Cd := .seq (.seq (.reg false [⟨some 7, .move (.c (.int .i64) (0 : Int)), none, [], []⟩]) (innkeepref06_Same.c12)) (innkeepref06_Same.c11)
def innkeepref06_Same.c3 : Cd := .seq (.seq (.seq (.reg false [⟨some 13, .fieldAddr (.d tDesc) 5 (.t 5), none, [], []⟩,
    ⟨some 14, .load (.d (.int .i64)) (.t 13), none, [], []⟩,
    ⟨some 15, .fieldAddr (.d tDesc) 5 (.t 6), none, [], []⟩,
    ⟨some 16, .load (.d (.int .i64)) (.t 15), none, [], []⟩,
    ⟨some 17, .bin .neq (.t 14) (.t 16), none, [], []⟩,
    ⟨some 18, .move (.t 17), none, [], []⟩,
    ⟨some 19, .fieldAddr (.d tDesc) 6 (.t 5), some (18, false), [], []⟩,
    ⟨some 20, .load (.d (.int .i64)) (.t 19), some (18, false), [], []⟩,
    ⟨some 21, .fieldAddr (.d tDesc) 6 (.t 6), some (18, false), [], []⟩,
    ⟨some 22, .load (.d (.int .i64)) (.t 21), some (18, false), [], []⟩,
    ⟨some 23, .bin .neq (.t 20) (.t 22), some (18, false), [], []⟩,
    ⟨some 24, .pick (.t 18) (.c .bool true) (.t 23), none, [], []⟩,
    ⟨some 25, .move (.t 24), none, [], []⟩,
    ⟨some 26, .fieldAddr (.d tDesc) 7 (.t 5), some (25, false), [], []⟩,
    ⟨some 27, .load (.d (.int .i64)) (.t 26), some (25, false), [], []⟩,
    ⟨some 28, .fieldAddr (.d tDesc) 7 (.t 6), some (25, false), [], []⟩,
    ⟨some 29, .load (.d (.int .i64)) (.t 28), some (25, false), [], []⟩,
    ⟨some 30, .bin .neq (.t 27) (.t 29), some (25, false), [], []⟩,
    ⟨some 31, .pick (.t 25) (.c .bool true) (.t 30), none, [], []⟩,
    ⟨some 32, .move (.t 31), none, [], []⟩,
    ⟨some 33, .fieldAddr (.d tDesc) 0 (.t 5), some (32, false), [], []⟩,
    ⟨some 34, .load (.d (.sl (.arr 4 (.int .i64)))) (.t 33), some (32, false), [], []⟩,
    ⟨some 35, .len (.t 34), some (32, false), [], []⟩,
    ⟨some 36, .fieldAddr (.d tDesc) 0 (.t 6), some (32, false), [], []⟩,
    ⟨some 37, .load (.d (.sl (.arr 4 (.int .i64)))) (.t 36), some (32, false), [], []⟩,
    ⟨some 38, .len (.t 37), some (32, false), [], []⟩,
    ⟨some 39, .bin .neq (.t 35) (.t 38), some (32, false), [], []⟩,
    ⟨some 40, .pick (.t 32) (.c .bool true) (.t 39), none, [], []⟩,
    ⟨some 41, .move (.t 40), none, [], []⟩,
    ⟨some 42, .fieldAddr (.d tDesc) 4 (.t 5), some (41, false), [], []⟩,
    ⟨some 43, .load (.d (.sl .bool)) (.t 42), some (41, false), [], []⟩,
    ⟨some 44, .len (.t 43), some (41, false), [], []⟩,
    ⟨some 45, .fieldAddr (.d tDesc) 4 (.t 6), some (41, false), [], []⟩,
    ⟨some 46, .load (.d (.sl .bool)) (.t 45), some (41, false), [], []⟩,
    ⟨some 47, .len (.t 46), some (41, false), [], []⟩,
    ⟨some 48, .bin .neq (.t 44) (.t 47), some (41, false), [], []⟩,
    ⟨some 49, .pick (.t 41) (.c .bool true) (.t 48), none, [], []⟩]) (innkeepref06_Same.c7)) (innkeepref06_Same.c6)) (innkeepref06_Same.c5)
def innkeepref06_Same.c1 : Cd := .seq (.seq (.reg false [⟨some 11, .fieldAddr (.d tWorld) 0 (.t 3), none, [], []⟩,
    ⟨some 12, .load (.d tDesc) (.t 11), none, [], []⟩,
    ⟨some 6, .newbox 3 tDesc [], none, [], []⟩,
    ⟨none, .store (.d tDesc) (.t 6) (.t 12), none, [], []⟩]) (innkeepref06_Same.c4)) (innkeepref06_Same.c3)
def innkeepref06_Same.c0 : Cd := .seq (.seq (.reg false [⟨some 9, .fieldAddr (.d tWorld) 0 (.t 2), none, [], []⟩,
    ⟨some 10, .load (.d tDesc) (.t 9), none, [], []⟩,
    ⟨some 5, .newbox 2 tDesc [], none, [], []⟩,
    ⟨none, .store (.d tDesc) (.t 5) (.t 10), none, [], []⟩]) (innkeepref06_Same.c2)) (innkeepref06_Same.c1)
def innkeepref06_Same.fn : Fn := ⟨2, [.tmp 4], .seq (.reg false [⟨some 2, .box 0 (.t 0), none, [], []⟩,
    ⟨some 3, .box 1 (.t 1), none, [], []⟩,
    ⟨some 4, .move (.c .bool false), none, [], []⟩]) (innkeepref06_Same.c0)⟩
def innkeeplaw07_TreeKeeps.c3 : Cd := .tidy [10, 11, 12, 13, 14, 15, 16, 17, 18, 19, 20, 21, 22, 23, 24, 25, 26] [] [] none
def innkeeplaw07_TreeKeeps.c6 : Cd := .tidy [28] [] [] none
def innkeeplaw07_TreeKeeps.c5 : Cd := .ret
def innkeeplaw07_TreeKeeps.c4 : Cd := .seq (.seq (.reg false [⟨some 28, .call (.f 8) [] [.d .bool] [] false, none, [], []⟩,
    ⟨some 4, .move (.t 28), none, [], []⟩]) (innkeeplaw07_TreeKeeps.c6)) (innkeeplaw07_TreeKeeps.c5)
def innkeeplaw07_TreeKeeps.c7 : Cd := .skip
def innkeeplaw07_TreeKeeps.c2 : Cd := .cond (.t 27) (.seq (.tidy [27] [] [] none) (innkeeplaw07_TreeKeeps.c4)) (.seq (.tidy [27] [] [] none) (innkeeplaw07_TreeKeeps.c7))
def innkeeplaw07_TreeKeeps.c9 : Cd := .tidy [29, 30] [] [] none
def innkeeplaw07_TreeKeeps.c11 : Cd := .tidy [31, 32, 33] [] [] none
def innkeeplaw07_TreeKeeps.c18 : Cd := .tidy [34, 35, 36] [] [] none
def innkeeplaw07_TreeKeeps.c19 : Cd := .skip
def innkeeplaw07_TreeKeeps.c23 : Cd := .exit 0
def innkeeplaw07_TreeKeeps.c17 : Cd := .cond (.t 37) (.seq (.tidy [37] [] [] none) (innkeeplaw07_TreeKeeps.c19)) (.seq (.tidy [37] [] [] none) (innkeeplaw07_TreeKeeps.c23))
def innkeeplaw07_TreeKeeps.c21 : Cd := .tidy [40, 41, 42, 43] [] [] none
def innkeeplaw07_TreeKeeps.c22 : Cd := .tidy [38, 39] [] [] none
def innkeeplaw07_TreeKeeps.c20 : Cd := .seq (.reg false [⟨some 38, .move (.t 7), none, [], []⟩,
    ⟨some 39, .bin .add (.t 38) (.c (.int .i64) (1 : Int)), none, [], []⟩,
    ⟨some 7, .move (.t 39), none, [], []⟩]) (innkeeplaw07_TreeKeeps.c22)
def innkeeplaw07_TreeKeeps.c16 : Cd := .seq (.block 1 (.seq (.reg false [⟨some 40, .move (.t 6), none, [], []⟩,
    ⟨some 41, .move (.t 7), none, [], []⟩,
    ⟨some 42, .build tSeen [(0, (.c (.int .i64) (99 : Int)))] [], none, [], []⟩,
    ⟨some 43, .index (.sl tSeen) (.t 40) (.t 41), none, [], []⟩,
    ⟨none, .store (.d tSeen) (.t 43) (.t 42), none, [], []⟩]) (innkeeplaw07_TreeKeeps.c21))) (innkeeplaw07_TreeKeeps.c20)
def innkeeplaw07_TreeKeeps.c15 : Cd := .tidy [] [] [] (some 4)
def innkeeplaw07_TreeKeeps.c14 : Cd := .seq (.seq (.seq (.seq (.reg false [⟨some 34, .move (.t 7), none, [], []⟩,
    ⟨some 35, .move (.t 6), none, [], []⟩,
    ⟨some 36, .len (.t 35), none, [], []⟩,
    ⟨some 37, .bin .lss (.t 34) (.t 36), none, [], []⟩]) (innkeeplaw07_TreeKeeps.c18)) (innkeeplaw07_TreeKeeps.c17)) (innkeeplaw07_TreeKeeps.c16)) (innkeeplaw07_TreeKeeps.c15)
def innkeeplaw07_TreeKeeps.c13 : Cd := .block 0 (.loop (innkeeplaw07_TreeKeeps.c14))
def innkeeplaw07_TreeKeeps.c25 : Cd := .tidy [44, 45, 46] [] [] none
def innkeeplaw07_TreeKeeps.c32 : Cd := .tidy [47, 48, 49] [] [] none
def innkeeplaw07_TreeKeeps.c33 : Cd := .skip
def innkeeplaw07_TreeKeeps.c37 : Cd := .exit 2
def innkeeplaw07_TreeKeeps.c31 : Cd := .cond (.t 50) (.seq (.tidy [50] [] [] none) (innkeeplaw07_TreeKeeps.c33)) (.seq (.tidy [50] [] [] none) (innkeeplaw07_TreeKeeps.c37))
def innkeeplaw07_TreeKeeps.c35 : Cd := .tidy [53, 54, 55] [] [] none
def innkeeplaw07_TreeKeeps.c36 : Cd := .tidy [51, 52] [] [] none
def innkeeplaw07_TreeKeeps.c34 : Cd := .seq (.reg false [⟨some 51, .move (.t 9), none, [], []⟩,
    ⟨some 52, .bin .add (.t 51) (.c (.int .i64) (1 : Int)), none, [], []⟩,
    ⟨some 9, .move (.t 52), none, [], []⟩]) (innkeeplaw07_TreeKeeps.c36)
def innkeeplaw07_TreeKeeps.c30 : Cd := .seq (.block 3 (.seq (.reg false [⟨some 53, .move (.t 8), none, [], []⟩,
    ⟨some 54, .move (.t 9), none, [], []⟩,
    ⟨some 55, .index (.sl (.int .i64)) (.t 53) (.t 54), none, [], []⟩,
    ⟨none, .store (.d (.int .i64)) (.t 55) (.c (.int .i64) (99 : Int)), none, [], []⟩]) (innkeeplaw07_TreeKeeps.c35))) (innkeeplaw07_TreeKeeps.c34)
def innkeeplaw07_TreeKeeps.c29 : Cd := .tidy [] [] [] (some 5)
def innkeeplaw07_TreeKeeps.c28 : Cd := .seq (.seq (.seq (.seq (.reg false [⟨some 47, .move (.t 9), none, [], []⟩,
    ⟨some 48, .move (.t 8), none, [], []⟩,
    ⟨some 49, .len (.t 48), none, [], []⟩,
    ⟨some 50, .bin .lss (.t 47) (.t 49), none, [], []⟩]) (innkeeplaw07_TreeKeeps.c32)) (innkeeplaw07_TreeKeeps.c31)) (innkeeplaw07_TreeKeeps.c30)) (innkeeplaw07_TreeKeeps.c29)
def innkeeplaw07_TreeKeeps.c27 : Cd := .block 2 (.loop (innkeeplaw07_TreeKeeps.c28))
def innkeeplaw07_TreeKeeps.c39 : Cd := .tidy [56, 57, 58, 59, 60, 61, 62, 63, 64, 65, 66, 67] [] [] none
def innkeeplaw07_TreeKeeps.c38 : Cd := .ret
def innkeeplaw07_TreeKeeps.c26 : Cd := .seq (.seq (.reg true [⟨some 56, .load (.d tWorld) (.t 5), none, [2], []⟩,
    ⟨some 57, .load (.d tWorld) (.t 2), none, [0], []⟩,
    ⟨some 58, .call (.f 28) [(.t 56), (.t 57)] [.d .bool] [] false, none, [], []⟩,
    ⟨some 59, .move (.t 58), none, [], []⟩,
    ⟨some 60, .load (.d tWorld) (.t 5), some (59, true), [2], []⟩,
    ⟨some 61, .load (.d tPlace) (.t 3), some (59, true), [1], []⟩,
    ⟨some 62, .call (.f 17) [(.t 60), (.t 61)] [.d (.sl tSeen)] [] false, some (59, true), [], []⟩,
    ⟨some 63, .load (.d tWorld) (.t 2), some (59, true), [0], []⟩,
    ⟨some 64, .load (.d tPlace) (.t 3), some (59, true), [1], []⟩,
    ⟨some 65, .call (.f 18) [(.t 63), (.t 64)] [.d (.sl tSeen)] [] false, some (59, true), [], []⟩,
    ⟨some 66, .call (.f 16) [(.t 62), (.t 65)] [.d .bool] [] false, some (59, true), [], []⟩,
    ⟨some 67, .pick (.t 59) (.t 66) (.c .bool false), none, [], []⟩,
    ⟨some 4, .move (.t 67), none, [], []⟩]) (innkeeplaw07_TreeKeeps.c39)) (innkeeplaw07_TreeKeeps.c38)
def innkeeplaw07_TreeKeeps.c24 : Cd := .seq (.seq (.reg false [⟨some 9, .move (.c (.int .i64) (0 : Int)), none, [], []⟩]) (innkeeplaw07_TreeKeeps.c27)) (innkeeplaw07_TreeKeeps.c26)
def innkeeplaw07_TreeKeeps.c12 : Cd := .seq (.seq (.reg false [⟨some 44, .load (.d tWorld) (.t 5), none, [], []⟩,
    ⟨some 45, .load (.d tPlace) (.t 3), none, [], []⟩,
    ⟨some 46, .call (.f 12) [(.t 44), (.t 45)] [.d (.sl (.int .i64))] [((0, []), 4)] false, none, [], []⟩,
    ⟨some 8, .move (.t 46), none, [], []⟩]) (innkeeplaw07_TreeKeeps.c25)) (innkeeplaw07_TreeKeeps.c24)
def innkeeplaw07_TreeKeeps.c10 : Cd := .seq (.seq (.reg false [⟨some 7, .move (.c (.int .i64) (0 : Int)), none, [], []⟩]) (innkeeplaw07_TreeKeeps.c13)) (innkeeplaw07_TreeKeeps.c12)
def innkeeplaw07_TreeKeeps.c8 : Cd := .seq (.seq (.reg false [⟨some 31, .load (.d tWorld) (.t 5), none, [], []⟩,
    ⟨some 32, .load (.d tPlace) (.t 3), none, [], []⟩,
    ⟨some 33, .call (.f 17) [(.t 31), (.t 32)] [.d (.sl tSeen)] [((0, []), 3)] false, none, [], []⟩,
    ⟨some 6, .move (.t 33), none, [], []⟩]) (innkeeplaw07_TreeKeeps.c11)) (innkeeplaw07_TreeKeeps.c10)
def innkeeplaw07_TreeKeeps.c1 : Cd := .seq (.seq (.reg false [⟨some 29, .load (.d tWorld) (.t 2), none, [], []⟩,
    ⟨some 30, .call (.f 27) [(.t 29)] [.d tWorld] [] false, none, [], []⟩,
    ⟨some 5, .newbox 2 tWorld [], none, [], []⟩,
    ⟨none, .store (.d tWorld) (.t 5) (.t 30), none, [], []⟩]) (innkeeplaw07_TreeKeeps.c9)) (innkeeplaw07_TreeKeeps.c8)
def innkeeplaw07_TreeKeeps.c0 : Cd := .seq (.seq (.seq (.reg false [⟨some 10, .call (.f 8) [] [.d .bool] [] false, none, [], []⟩,
    ⟨some 11, .not (.t 10), none, [], []⟩,
    ⟨some 12, .move (.t 11), none, [], []⟩,
    ⟨some 13, .load (.d tWorld) (.t 2), some (12, false), [], []⟩,
    ⟨some 14, .call (.f 9) [(.t 13)] [.d .bool] [] false, some (12, false), [], []⟩,
    ⟨some 15, .not (.t 14), some (12, false), [], []⟩,
    ⟨some 16, .pick (.t 12) (.c .bool true) (.t 15), none, [], []⟩,
    ⟨some 17, .move (.t 16), none, [], []⟩,
    ⟨some 18, .load (.d tWorld) (.t 2), some (17, false), [], []⟩,
    ⟨some 19, .load (.d tPlace) (.t 3), some (17, false), [], []⟩,
    ⟨some 20, .call (.f 10) [(.t 18), (.t 19)] [.d .bool] [] false, some (17, false), [], []⟩,
    ⟨some 21, .not (.t 20), some (17, false), [], []⟩,
    ⟨some 22, .pick (.t 17) (.c .bool true) (.t 21), none, [], []⟩,
    ⟨some 23, .move (.t 22), none, [], []⟩,
    ⟨some 24, .fieldAddr (.d tPlace) 0 (.t 3), some (23, false), [], []⟩,
    ⟨some 25, .load (.d (.int .i64)) (.t 24), some (23, false), [], []⟩,
    ⟨some 26, .bin .eql (.t 25) (.c (.int .i64) (2 : Int)), some (23, false), [], []⟩,
    ⟨some 27, .pick (.t 23) (.c .bool true) (.t 26), none, [], []⟩]) (innkeeplaw07_TreeKeeps.c3)) (innkeeplaw07_TreeKeeps.c2)) (innkeeplaw07_TreeKeeps.c1)
def innkeeplaw07_TreeKeeps.fn : Fn := ⟨2, [.tmp 4], .seq (.reg false [⟨some 2, .box 0 (.t 0), none, [], []⟩,
    ⟨some 3, .box 1 (.t 1), none, [], []⟩,
    ⟨some 4, .move (.c .bool false), none, [], []⟩]) (innkeeplaw07_TreeKeeps.c0)⟩
def innkeeplaw07_TreeMoved.c3 : Cd := .tidy [12, 13, 14, 15, 16, 17, 18, 19, 20, 21, 22, 23] [] [] none
def innkeeplaw07_TreeMoved.c6 : Cd := .tidy [25] [] [] none
def innkeeplaw07_TreeMoved.c5 : Cd := .ret
def innkeeplaw07_TreeMoved.c4 : Cd := .seq (.seq (.reg false [⟨some 25, .call (.f 8) [] [.d .bool] [] false, none, [], []⟩,
    ⟨some 6, .move (.t 25), none, [], []⟩]) (innkeeplaw07_TreeMoved.c6)) (innkeeplaw07_TreeMoved.c5)
def innkeeplaw07_TreeMoved.c7 : Cd := .skip
def innkeeplaw07_TreeMoved.c2 : Cd := .cond (.t 24) (.seq (.tidy [24] [] [] none) (innkeeplaw07_TreeMoved.c4)) (.seq (.tidy [24] [] [] none) (innkeeplaw07_TreeMoved.c7))
def innkeeplaw07_TreeMoved.c9 : Cd := .tidy [26, 27, 28, 29, 30, 31] [] [] none
def innkeeplaw07_TreeMoved.c11 : Cd := .tidy [32, 33] [] [] none
def innkeeplaw07_TreeMoved.c13 : Cd := .tidy [34, 35, 36, 37, 38, 39, 40, 41] [] [] none
def innkeeplaw07_TreeMoved.c15 : Cd := .tidy [42, 43, 44, 45, 46] [] [] none
def innkeeplaw07_TreeMoved.c18 : Cd := .tidy [47, 48] [] [] none
def innkeeplaw07_TreeMoved.c20 : Cd := .ret
def innkeeplaw07_TreeMoved.c19 : Cd := .seq (.reg false [⟨some 6, .move (.c .bool true), none, [], []⟩]) (innkeeplaw07_TreeMoved.c20)
def innkeeplaw07_TreeMoved.c21 : Cd := .skip
def innkeeplaw07_TreeMoved.c17 : Cd := .cond (.t 49) (.seq (.tidy [49] [] [] none) (innkeeplaw07_TreeMoved.c19)) (.seq (.tidy [49] [] [] none) (innkeeplaw07_TreeMoved.c21))
def innkeeplaw07_TreeMoved.c28 : Cd := .tidy [50, 51, 52, 53] [] [] none
def innkeeplaw07_TreeMoved.c29 : Cd := .skip
def innkeeplaw07_TreeMoved.c39 : Cd := .exit 0
def innkeeplaw07_TreeMoved.c27 : Cd := .cond (.t 54) (.seq (.tidy [54] [] [] none) (innkeeplaw07_TreeMoved.c29)) (.seq (.tidy [54] [] [] none) (innkeeplaw07_TreeMoved.c39))
def innkeeplaw07_TreeMoved.c32 : Cd := .tidy [57, 58, 59, 60] [] [] none
def innkeeplaw07_TreeMoved.c34 : Cd := .tidy [61, 62, 63, 64, 65, 66, 67, 68, 69, 70, 71, 72, 73, 74, 75, 76, 77, 78, 79, 80, 81, 82, 83, 84, 85, 86, 87, 88, 89, 90, 91, 92, 93, 94, 95, 96, 97, 98, 99, 100, 101, 102, 103, 104, 105, 106, 107, 108, 109, 110] [] [] none
def innkeeplaw07_TreeMoved.c36 : Cd := .ret
def innkeeplaw07_TreeMoved.c35 : Cd := .seq (.reg false [⟨some 6, .move (.c .bool false), none, [], []⟩]) (innkeeplaw07_TreeMoved.c36)
def innkeeplaw07_TreeMoved.c37 : Cd := .skip
def innkeeplaw07_TreeMoved.c33 : Cd := .cond (.t 111) (.seq (.tidy [111] [] [] none) (innkeeplaw07_TreeMoved.c35)) (.seq (.tidy [111] [] [] none) (innkeeplaw07_TreeMoved.c37))
def innkeeplaw07_TreeMoved.c31 : Cd := .seq (.seq (.reg true [⟨some 61, .move (.t 11), none, [], []⟩,
    ⟨some 62, .load (.d tWorld) (.t 8), none, [1], []⟩,
    ⟨some 63, .move (.t 10), none, [], []⟩,
    ⟨some 64, .move (.t 7), none, [], []⟩,
    ⟨some 65, .call (.f 25) [(.t 62), (.t 63), (.t 64)] [.d .bool] [] false, none, [3], []⟩,
    ⟨some 66, .eqs .bool true (.t 61) (.t 65), none, [], []⟩,
    ⟨some 67, .move (.t 66), none, [], []⟩,
    ⟨some 68, .move (.t 11), some (67, false), [], []⟩,
    ⟨some 69, .move (.t 68), some (67, false), [], []⟩,
    ⟨some 70, .load (.d tWorld) (.t 8), some (69, true), [1], []⟩,
    ⟨some 71, .move (.t 10), some (69, true), [], []⟩,
    ⟨some 72, .call (.f 19) [(.t 70), (.t 71)] [.d tPlace] [] false, some (69, true), [3], []⟩,
    ⟨some 73, .load (.d tPlace) (.t 9), some (69, true), [2], []⟩,
    ⟨some 74, .eqs tPlace true (.t 72) (.t 73), some (69, true), [], []⟩,
    ⟨some 75, .move (.t 74), some (69, true), [], []⟩,
    ⟨some 76, .load (.d tWorld) (.t 8), some (75, false), [1], []⟩,
    ⟨some 77, .move (.t 10), some (75, false), [], []⟩,
    ⟨some 78, .call (.f 21) [(.t 76), (.t 77)] [.d (.int .i64)] [] false, some (75, false), [3], []⟩,
    ⟨some 79, .load (.d tWorld) (.t 3), some (75, false), [0], []⟩,
    ⟨some 80, .move (.t 10), some (75, false), [], []⟩,
    ⟨some 81, .call (.f 21) [(.t 79), (.t 80)] [.d (.int .i64)] [] false, some (75, false), [], []⟩,
    ⟨some 82, .load (.d tWorld) (.t 3), some (75, false), [0], []⟩,
    ⟨some 83, .move (.t 7), some (75, false), [], []⟩,
    ⟨some 84, .call (.f 21) [(.t 82), (.t 83)] [.d (.int .i64)] [] false, some (75, false), [], []⟩,
    ⟨some 85, .bin .sub (.t 81) (.t 84), some (75, false), [], []⟩,
    ⟨some 86, .bin .neq (.t 78) (.t 85), some (75, false), [], []⟩,
    ⟨some 87, .pick (.t 75) (.c .bool true) (.t 86), some (69, true), [], []⟩,
    ⟨some 88, .pick (.t 69) (.t 87) (.c .bool false), some (67, false), [], []⟩,
    ⟨some 89, .pick (.t 67) (.c .bool true) (.t 88), none, [], []⟩,
    ⟨some 90, .move (.t 89), none, [], []⟩,
    ⟨some 91, .move (.t 11), some (90, false), [], []⟩,
    ⟨some 92, .not (.t 91), some (90, false), [], []⟩,
    ⟨some 93, .move (.t 92), some (90, false), [], []⟩,
    ⟨some 94, .load (.d tWorld) (.t 8), some (93, true), [1], []⟩,
    ⟨some 95, .move (.t 10), some (93, true), [], []⟩,
    ⟨some 96, .call (.f 19) [(.t 94), (.t 95)] [.d tPlace] [] false, some (93, true), [3], []⟩,
    ⟨some 97, .load (.d tWorld) (.t 3), some (93, true), [0], []⟩,
    ⟨some 98, .move (.t 10), some (93, true), [], []⟩,
    ⟨some 99, .call (.f 19) [(.t 97), (.t 98)] [.d tPlace] [] false, some (93, true), [], []⟩,
    ⟨some 100, .eqs tPlace true (.t 96) (.t 99), some (93, true), [], []⟩,
    ⟨some 101, .move (.t 100), some (93, true), [], []⟩,
    ⟨some 102, .load (.d tWorld) (.t 8), some (101, false), [1], []⟩,
    ⟨some 103, .move (.t 10), some (101, false), [], []⟩,
    ⟨some 104, .call (.f 21) [(.t 102), (.t 103)] [.d (.int .i64)] [] false, some (101, false), [3], []⟩,
    ⟨some 105, .load (.d tWorld) (.t 3), some (101, false), [0], []⟩,
    ⟨some 106, .move (.t 10), some (101, false), [], []⟩,
    ⟨some 107, .call (.f 21) [(.t 105), (.t 106)] [.d (.int .i64)] [] false, some (101, false), [], []⟩,
    ⟨some 108, .bin .neq (.t 104) (.t 107), some (101, false), [], []⟩,
    ⟨some 109, .pick (.t 101) (.c .bool true) (.t 108), some (93, true), [], []⟩,
    ⟨some 110, .pick (.t 93) (.t 109) (.c .bool false), some (90, false), [], []⟩,
    ⟨some 111, .pick (.t 90) (.c .bool true) (.t 110), none, [], []⟩]) (innkeeplaw07_TreeMoved.c34)) (innkeeplaw07_TreeMoved.c33)
def innkeeplaw07_TreeMoved.c38 : Cd := .tidy [55, 56] [] [] none
def innkeeplaw07_TreeMoved.c30 : Cd := .seq (.reg false [⟨some 55, .move (.t 10), none, [], []⟩,
    ⟨some 56, .bin .add (.t 55) (.c (.int .i64) (1 : Int)), none, [], []⟩,
    ⟨some 10, .move (.t 56), none, [], []⟩]) (innkeeplaw07_TreeMoved.c38)
def innkeeplaw07_TreeMoved.c26 : Cd := .seq (.block 1 (.seq (.seq (.reg false [⟨some 57, .load (.d tWorld) (.t 3), none, [], []⟩,
    ⟨some 58, .move (.t 10), none, [], []⟩,
    ⟨some 59, .move (.t 7), none, [], []⟩,
    ⟨some 60, .call (.f 25) [(.t 57), (.t 58), (.t 59)] [.d .bool] [] false, none, [], []⟩,
    ⟨some 11, .move (.t 60), none, [], []⟩]) (innkeeplaw07_TreeMoved.c32)) (innkeeplaw07_TreeMoved.c31))) (innkeeplaw07_TreeMoved.c30)
def innkeeplaw07_TreeMoved.c25 : Cd := .tidy [11] [] [] (some 4)
def innkeeplaw07_TreeMoved.c24 : Cd := .seq (.seq (.seq (.seq (.reg false [⟨some 50, .move (.t 10), none, [], []⟩,
    ⟨some 51, .fieldAddr (.d tWorld) 3 (.t 3), none, [], []⟩,
    ⟨some 52, .load (.d (.sl tPlace)) (.t 51), none, [], []⟩,
    ⟨some 53, .len (.t 52), none, [], []⟩,
    ⟨some 54, .bin .lss (.t 50) (.t 53), none, [], []⟩]) (innkeeplaw07_TreeMoved.c28)) (innkeeplaw07_TreeMoved.c27)) (innkeeplaw07_TreeMoved.c26)) (innkeeplaw07_TreeMoved.c25)
def innkeeplaw07_TreeMoved.c23 : Cd := .block 0 (.loop (innkeeplaw07_TreeMoved.c24))
def innkeeplaw07_TreeMoved.c41 : Cd := .tidy [112, 113, 114, 115, 116, 117, 118] [] [] none
def innkeeplaw07_TreeMoved.c40 : Cd := .ret
def innkeeplaw07_TreeMoved.c22 : Cd := .seq (.seq (.reg true [⟨some 112, .load (.d tWorld) (.t 8), none, [1], []⟩,
    ⟨some 113, .move (.t 7), none, [], []⟩,
    ⟨some 114, .call (.f 23) [(.t 112), (.t 113)] [.d (.int .i64)] [] false, none, [3], []⟩,
    ⟨some 115, .load (.d tWorld) (.t 3), none, [0], []⟩,
    ⟨some 116, .move (.t 7), none, [], []⟩,
    ⟨some 117, .call (.f 23) [(.t 115), (.t 116)] [.d (.int .i64)] [] false, none, [], []⟩,
    ⟨some 118, .bin .eql (.t 114) (.t 117), none, [], []⟩,
    ⟨some 6, .move (.t 118), none, [], []⟩]) (innkeeplaw07_TreeMoved.c41)) (innkeeplaw07_TreeMoved.c40)
def innkeeplaw07_TreeMoved.c16 : Cd := .seq (.seq (.reg false [⟨some 10, .move (.c (.int .i64) (0 : Int)), none, [], []⟩]) (innkeeplaw07_TreeMoved.c23)) (innkeeplaw07_TreeMoved.c22)
def innkeeplaw07_TreeMoved.c14 : Cd := .seq (.seq (.seq (.reg false [⟨some 47, .load (.d tWorld) (.t 8), none, [], []⟩,
    ⟨some 48, .call (.f 29) [(.t 47)] [.d .bool] [] false, none, [], []⟩,
    ⟨some 49, .not (.t 48), none, [], []⟩]) (innkeeplaw07_TreeMoved.c18)) (innkeeplaw07_TreeMoved.c17)) (innkeeplaw07_TreeMoved.c16)
def innkeeplaw07_TreeMoved.c12 : Cd := .seq (.seq (.reg false [⟨some 42, .fieldAddr (.d tWorld) 3 (.t 8), none, [], []⟩,
    ⟨some 43, .load (.d (.sl tPlace)) (.t 42), none, [], []⟩,
    ⟨some 44, .move (.t 7), none, [], []⟩,
    ⟨some 45, .load (.d tPlace) (.t 9), none, [], []⟩,
    ⟨some 46, .index (.sl tPlace) (.t 43) (.t 44), none, [], []⟩,
    ⟨none, .store (.d tPlace) (.t 46) (.t 45), none, [], []⟩]) (innkeeplaw07_TreeMoved.c15)) (innkeeplaw07_TreeMoved.c14)
def innkeeplaw07_TreeMoved.c10 : Cd := .seq (.seq (.reg false [⟨some 34, .move (.t 2), none, [], []⟩,
    ⟨some 35, .conv .i64 (.t 34), none, [], []⟩,
    ⟨some 36, .fieldAddr (.d tWorld) 0 (.t 3), none, [], []⟩,
    ⟨some 37, .fieldAddr (.d tDesc) 0 (.t 36), none, [], []⟩,
    ⟨some 38, .load (.d (.sl (.arr 4 (.int .i64)))) (.t 37), none, [], []⟩,
    ⟨some 39, .len (.t 38), none, [], []⟩,
    ⟨some 40, .bin .rem (.t 35) (.t 39), none, [], []⟩,
    ⟨some 41, .build tPlace [(1, (.t 40))] [], none, [], []⟩,
    ⟨some 9, .newbox 2 tPlace [], none, [], []⟩,
    ⟨none, .store (.d tPlace) (.t 9) (.t 41), none, [], []⟩]) (innkeeplaw07_TreeMoved.c13)) (innkeeplaw07_TreeMoved.c12)
def innkeeplaw07_TreeMoved.c8 : Cd := .seq (.seq (.reg false [⟨some 32, .load (.d tWorld) (.t 3), none, [], []⟩,
    ⟨some 33, .call (.f 27) [(.t 32)] [.d tWorld] [((0, [3]), 3)] false, none, [], []⟩,
    ⟨some 8, .newbox 1 tWorld [], none, [], []⟩,
    ⟨none, .store (.d tWorld) (.t 8) (.t 33), none, [], []⟩]) (innkeeplaw07_TreeMoved.c11)) (innkeeplaw07_TreeMoved.c10)
def innkeeplaw07_TreeMoved.c1 : Cd := .seq (.seq (.reg false [⟨some 26, .move (.t 1), none, [], []⟩,
    ⟨some 27, .conv .i64 (.t 26), none, [], []⟩,
    ⟨some 28, .fieldAddr (.d tWorld) 3 (.t 3), none, [], []⟩,
    ⟨some 29, .load (.d (.sl tPlace)) (.t 28), none, [], []⟩,
    ⟨some 30, .len (.t 29), none, [], []⟩,
    ⟨some 31, .bin .rem (.t 27) (.t 30), none, [], []⟩,
    ⟨some 7, .move (.t 31), none, [], []⟩]) (innkeeplaw07_TreeMoved.c9)) (innkeeplaw07_TreeMoved.c8)
def innkeeplaw07_TreeMoved.c0 : Cd := .seq (.seq (.seq (.reg false [⟨some 12, .call (.f 8) [] [.d .bool] [] false, none, [], []⟩,
    ⟨some 13, .not (.t 12), none, [], []⟩,
    ⟨some 14, .move (.t 13), none, [], []⟩,
    ⟨some 15, .load (.d tWorld) (.t 3), some (14, false), [], []⟩,
    ⟨some 16, .call (.f 9) [(.t 15)] [.d .bool] [] false, some (14, false), [], []⟩,
    ⟨some 17, .not (.t 16), some (14, false), [], []⟩,
    ⟨some 18, .pick (.t 14) (.c .bool true) (.t 17), none, [], []⟩,
    ⟨some 19, .move (.t 18), none, [], []⟩,
    ⟨some 20, .fieldAddr (.d tWorld) 3 (.t 3), some (19, false), [], []⟩,
    ⟨some 21, .load (.d (.sl tPlace)) (.t 20), some (19, false), [], []⟩,
    ⟨some 22, .len (.t 21), some (19, false), [], []⟩,
    ⟨some 23, .bin .eql (.t 22) (.c (.int .i64) (0 : Int)), some (19, false), [], []⟩,
    ⟨some 24, .pick (.t 19) (.c .bool true) (.t 23), none, [], []⟩]) (innkeeplaw07_TreeMoved.c3)) (innkeeplaw07_TreeMoved.c2)) (innkeeplaw07_TreeMoved.c1)
def innkeeplaw07_TreeMoved.fn : Fn := ⟨3, [.tmp 6], .seq (.reg false [⟨some 3, .box 0 (.t 0), none, [], []⟩,
    ⟨some 6, .move (.c .bool false), none, [], []⟩]) (innkeeplaw07_TreeMoved.c0)⟩
def prog : FuncId → Option Fn
  | 3 => some innkeeplaw07_TreeAsks.fn
  | 4 => some innkeeplaw07_TreeRoots.fn
  | 5 => some innkeeplaw07_TreeWithin.fn
  | 6 => some innkeeplaw07_TreeKeeps.fn
  | 7 => some innkeeplaw07_TreeMoved.fn
  | 8 => some innkeeplaw07_awake.fn
  | 9 => some innkeeplaw07_fits.fn
  | 10 => some innkeepref07_Is.fn
  | 11 => some innkeepref03_Ints.fn
  | 12 => some tree_In.fn
  | 13 => some innkeepref07_In.fn
  | 14 => some tree_Room.fn
  | 15 => some innkeepref07_Room.fn
  | 16 => some innkeepref05_Seens.fn
  | 17 => some tree_Under.fn
  | 18 => some innkeepref07_Under.fn
  | 19 => some tree_Root.fn
  | 20 => some innkeepref07_Root.fn
  | 21 => some tree_Depth.fn
  | 22 => some innkeepref07_Depth.fn
  | 23 => some tree_Height.fn
  | 24 => some innkeepref07_Height.fn
  | 26 => some innkeepref07_Within.fn
  | 27 => some innkeepref06_Copied.fn
  | 28 => some innkeepref06_Same.fn
  | 29 => some innkeepref06_Right.fn
  | 30 => some innkeepref06_New.fn
  | 31 => some innkeepref06_Few.fn
  | 32 => some innkeepref06_Cap.fn
  | 33 => some innkeepref06_Many.fn
  | 35 => some tree_up.fn
  | 36 => some innkeepref06_Depth.fn
  | 37 => some innkeepref06_Places.fn
  | 38 => some innkeepref06_May.fn
  | 39 => some innkeepref06_in.fn
  | 40 => some innkeepref01_Is.fn
  | _ => none
end Go.Proofs.Ytlnnpcgfhcaafaa.Ghost
