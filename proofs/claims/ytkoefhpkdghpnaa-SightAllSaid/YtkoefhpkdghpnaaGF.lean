/- The functions as ghost code. Conditions: none; no statement is proved here. -/
import Derived.Test.YtkoefhpkdghpnaaA1
set_option linter.unusedVariables false
set_option linter.unusedSimpArgs false
set_option linter.unusedSectionVars false
set_option linter.unnecessarySimpa false
namespace Go.Proofs.Ytkoefhpkdghpnaa.Ghost
open Go
abbrev tboundsError : Ty := .st [(.int .i64), (.int .i64), .bool, (.int .u8)]
abbrev terrorAddressString : Ty := .st [.str, (.int .u64)]
abbrev tDesc : Ty := .st [(.sl (.arr 4 (.int .i64))), (.sl (.int .i64)), (.sl (.int .i64)), (.sl (.int .i64)), (.sl .bool), (.int .i64), (.int .i64), (.int .i64)]
abbrev tPlace : Ty := .st [(.int .i64), (.int .i64)]
abbrev tWorld : Ty := .st [tDesc, (.sl (.int .i64)), (.sl (.int .i64)), (.sl tPlace)]
abbrev tSeen : Ty := .st [(.int .i64), tPlace]
abbrev tReply : Ty := .st [(.int .i64), (.int .i64), (.int .i64), (.sl (.int .i64)), (.sl tSeen), (.int .i64)]
def innkeepref06_New.c2 : Cd := .tidy [5, 6] [] [] none
def innkeepref06_New.c4 : Cd := .tidy [7, 8, 9, 10, 11, 12] [] [] none
def innkeepref06_New.c6 : Cd := .tidy [13, 14, 15, 16, 17, 18] [] [] none
def innkeepref06_New.c13 : Cd := .tidy [19, 20, 21, 22] [] [] none
def innkeepref06_New.c14 : Cd := .skip
def innkeepref06_New.c18 : Cd := .exit 0
def innkeepref06_New.c12 : Cd := .cond (.t 23) (.seq (.tidy [23] [] [] none) (innkeepref06_New.c14)) (.seq (.tidy [23] [] [] none) (innkeepref06_New.c18))
def innkeepref06_New.c16 : Cd := .tidy [26, 27, 28, 29, 30, 31, 32, 33, 34, 35, 36] [] [] none
def innkeepref06_New.c17 : Cd := .tidy [24, 25] [] [] none
def innkeepref06_New.c15 : Cd := .seq (.reg false [⟨some 24, .move (.t 4), none, [], []⟩,
    ⟨some 25, .bin .add (.t 24) (.c (.int .i64) (1 : Int)), none, [], []⟩,
    ⟨some 4, .move (.t 25), none, [], []⟩]) (innkeepref06_New.c17)
def innkeepref06_New.c11 : Cd := .seq (.block 1 (.seq (.reg true [⟨some 26, .fieldAddr (.d tWorld) 3 (.t 3), none, [2], []⟩,
    ⟨some 27, .load (.d (.sl tPlace)) (.t 26), none, [2], []⟩,
    ⟨some 28, .fieldAddr (.d tDesc) 3 (.t 1), none, [0], []⟩,
    ⟨some 29, .load (.d (.sl (.int .i64))) (.t 28), none, [0], []⟩,
    ⟨some 30, .move (.t 4), none, [], []⟩,
    ⟨some 31, .index (.sl (.int .i64)) (.t 29) (.t 30), none, [], []⟩,
    ⟨some 32, .load (.d (.int .i64)) (.t 31), none, [], []⟩,
    ⟨some 33, .build tPlace [(1, (.t 32))] [], none, [], []⟩,
    ⟨some 34, .slice 5 tPlace [(.t 33)], none, [], [5]⟩,
    ⟨some 35, .append 6 tPlace (.t 27) (.t 34), none, [5], [6, 9]⟩,
    ⟨some 36, .fieldAddr (.d tWorld) 3 (.t 3), none, [2], []⟩,
    ⟨none, .store (.d (.sl tPlace)) (.t 36) (.t 35), none, [], [2]⟩]) (innkeepref06_New.c16))) (innkeepref06_New.c15)
def innkeepref06_New.c10 : Cd := .tidy [] [(6, 9)] [5] (some 10)
def innkeepref06_New.c9 : Cd := .seq (.seq (.seq (.seq (.reg false [⟨some 19, .move (.t 4), none, [], []⟩,
    ⟨some 20, .fieldAddr (.d tDesc) 3 (.t 1), none, [], []⟩,
    ⟨some 21, .load (.d (.sl (.int .i64))) (.t 20), none, [], []⟩,
    ⟨some 22, .len (.t 21), none, [], []⟩,
    ⟨some 23, .bin .lss (.t 19) (.t 22), none, [], []⟩]) (innkeepref06_New.c13)) (innkeepref06_New.c12)) (innkeepref06_New.c11)) (innkeepref06_New.c10)
def innkeepref06_New.c8 : Cd := .block 0 (.loop (innkeepref06_New.c9))
def innkeepref06_New.c20 : Cd := .tidy [37] [] [] none
def innkeepref06_New.c19 : Cd := .ret
def innkeepref06_New.c7 : Cd := .seq (.seq (.reg false [⟨some 37, .load (.d tWorld) (.t 3), none, [], []⟩,
    ⟨none, .store (.d tWorld) (.t 2) (.t 37), none, [], []⟩]) (innkeepref06_New.c20)) (innkeepref06_New.c19)
def innkeepref06_New.c5 : Cd := .seq (.seq (.reg false [⟨some 4, .move (.c (.int .i64) (0 : Int)), none, [], []⟩]) (innkeepref06_New.c8)) (innkeepref06_New.c7)
def innkeepref06_New.c3 : Cd := .seq (.seq (.reg false [⟨some 13, .fieldAddr (.d tWorld) 2 (.t 3), none, [], []⟩,
    ⟨some 14, .load (.d (.sl (.int .i64))) (.t 13), none, [], []⟩,
    ⟨some 15, .fieldAddr (.d tDesc) 2 (.t 1), none, [], []⟩,
    ⟨some 16, .load (.d (.sl (.int .i64))) (.t 15), none, [], []⟩,
    ⟨some 17, .append 4 (.int .i64) (.t 14) (.t 16), none, [], []⟩,
    ⟨some 18, .fieldAddr (.d tWorld) 2 (.t 3), none, [], []⟩,
    ⟨none, .store (.d (.sl (.int .i64))) (.t 18) (.t 17), none, [], []⟩]) (innkeepref06_New.c6)) (innkeepref06_New.c5)
def innkeepref06_New.c1 : Cd := .seq (.seq (.reg false [⟨some 7, .fieldAddr (.d tWorld) 1 (.t 3), none, [], []⟩,
    ⟨some 8, .load (.d (.sl (.int .i64))) (.t 7), none, [], []⟩,
    ⟨some 9, .fieldAddr (.d tDesc) 1 (.t 1), none, [], []⟩,
    ⟨some 10, .load (.d (.sl (.int .i64))) (.t 9), none, [], []⟩,
    ⟨some 11, .append 3 (.int .i64) (.t 8) (.t 10), none, [], []⟩,
    ⟨some 12, .fieldAddr (.d tWorld) 1 (.t 3), none, [], []⟩,
    ⟨none, .store (.d (.sl (.int .i64))) (.t 12) (.t 11), none, [], []⟩]) (innkeepref06_New.c4)) (innkeepref06_New.c3)
def innkeepref06_New.c0 : Cd := .seq (.seq (.reg false [⟨some 5, .load (.d tDesc) (.t 1), none, [], []⟩,
    ⟨some 6, .build tWorld [(0, (.t 5))] [([1], 7), ([2], 8), ([3], 9)], none, [], []⟩,
    ⟨some 3, .newbox 2 tWorld [], none, [], []⟩,
    ⟨none, .store (.d tWorld) (.t 3) (.t 6), none, [], []⟩]) (innkeepref06_New.c2)) (innkeepref06_New.c1)
def innkeepref06_New.fn : Fn := ⟨1, [.cell 2 (.d tWorld)], .seq (.reg false [⟨some 1, .box 0 (.t 0), none, [], []⟩,
    ⟨some 2, .newbox 1 tWorld [], none, [], []⟩]) (innkeepref06_New.c0)⟩
def sight_Present.c4 : Cd := .tidy [7, 8] [] [] none
def sight_Present.c9 : Cd := .skip
def sight_Present.c19 : Cd := .exit 0
def sight_Present.c12 : Cd := .tidy [12] [] [] none
def sight_Present.c14 : Cd := .tidy [13, 14, 15, 16, 17, 18] [] [] none
def sight_Present.c16 : Cd := .tidy [20, 21, 22, 23] [] [] none
def sight_Present.c15 : Cd := .seq (.reg false [⟨some 20, .move (.t 5), none, [], []⟩,
    ⟨some 21, .move (.t 6), none, [], []⟩,
    ⟨some 22, .slice 1 (.int .i64) [(.t 21)], none, [], []⟩,
    ⟨some 23, .append 2 (.int .i64) (.t 20) (.t 22), none, [], []⟩,
    ⟨some 5, .move (.t 23), none, [], []⟩]) (sight_Present.c16)
def sight_Present.c18 : Cd := .skip
def sight_Present.c13 : Cd := .cond (.t 19) (.seq (.tidy [19] [] [] none) (sight_Present.c15)) (.seq (.tidy [19] [] [] none) (sight_Present.c18))
def sight_Present.c11 : Cd := .seq (.seq (.reg false [⟨some 13, .fieldAddr (.d tWorld) 1 (.t 2), none, [], []⟩,
    ⟨some 14, .load (.d (.sl (.int .i64))) (.t 13), none, [], []⟩,
    ⟨some 15, .move (.t 6), none, [], []⟩,
    ⟨some 16, .index (.sl (.int .i64)) (.t 14) (.t 15), none, [], []⟩,
    ⟨some 17, .load (.d (.int .i64)) (.t 16), none, [], []⟩,
    ⟨some 18, .move (.t 1), none, [], []⟩,
    ⟨some 19, .bin .eql (.t 17) (.t 18), none, [], []⟩]) (sight_Present.c14)) (sight_Present.c13)
def sight_Present.c17 : Cd := .tidy [24] [] [] none
def sight_Present.c10 : Cd := .seq (.reg false [⟨some 24, .bin .add (.t 10) (.c (.int .i64) (1 : Int)), none, [], []⟩,
    ⟨some 10, .move (.t 24), none, [], []⟩]) (sight_Present.c17)
def sight_Present.c8 : Cd := .seq (.block 1 (.seq (.seq (.reg false [⟨some 12, .move (.t 10), none, [], []⟩,
    ⟨some 6, .move (.t 12), none, [], []⟩]) (sight_Present.c12)) (sight_Present.c11))) (sight_Present.c10)
def sight_Present.c7 : Cd := .seq (.cond (.t 11) (.seq (.tidy [11] [] [] none) (sight_Present.c9)) (.seq (.tidy [11] [] [] none) (sight_Present.c19))) (sight_Present.c8)
def sight_Present.c6 : Cd := .tidy [6] [(2, 3)] [1] (some 4)
def sight_Present.c5 : Cd := .seq (.seq (.reg false [⟨some 11, .bin .lss (.t 10) (.t 9), none, [], []⟩]) (sight_Present.c7)) (sight_Present.c6)
def sight_Present.c3 : Cd := .block 0 (.loop (sight_Present.c5))
def sight_Present.c21 : Cd := .tidy [25] [] [] none
def sight_Present.c20 : Cd := .ret
def sight_Present.c2 : Cd := .seq (.seq (.reg false [⟨some 25, .move (.t 5), none, [], []⟩,
    ⟨some 4, .move (.t 25), none, [], []⟩]) (sight_Present.c21)) (sight_Present.c20)
def sight_Present.c1 : Cd := .seq (.seq (.seq (.reg false [⟨some 7, .fieldAddr (.d tWorld) 1 (.t 2), none, [], []⟩,
    ⟨some 8, .load (.d (.sl (.int .i64))) (.t 7), none, [], []⟩,
    ⟨some 9, .len (.t 8), none, [], []⟩,
    ⟨some 10, .move (.c (.int .i64) (0 : Int)), none, [], []⟩]) (sight_Present.c4)) (sight_Present.c3)) (sight_Present.c2)
def sight_Present.c0 : Cd := .seq (.reg false [⟨some 5, .mknil 3 (.int .i64), none, [], []⟩]) (sight_Present.c1)
def sight_Present.fn : Fn := ⟨2, [.tmp 4], .seq (.reg false [⟨some 2, .box 0 (.t 0), none, [], []⟩,
    ⟨some 4, .move (.c (.sl (.int .i64)) []), none, [], []⟩]) (sight_Present.c0)⟩
def tree_up.c2 : Cd := .tidy [5] [] [] none
def tree_up.c1 : Cd := .ret
def tree_up.c0 : Cd := .seq (.seq (.reg false [⟨some 5, .func 40 [(.t 2), (.t 3)], none, [], []⟩,
    ⟨some 4, .move (.t 5), none, [], []⟩]) (tree_up.c2)) (tree_up.c1)
def tree_up.fn : Fn := ⟨2, [.tmp 4], .seq (.reg false [⟨some 2, .box 0 (.t 0), none, [], []⟩,
    ⟨some 3, .box 1 (.t 1), none, [], []⟩,
    ⟨some 4, .move .nf, none, [], []⟩]) (tree_up.c0)⟩
def tree_Root.c2 : Cd := .tidy [6, 7, 8, 9] [] [] none
def tree_Root.c4 : Cd := .tidy [10, 11, 12, 13, 14, 15] [] [] none
def tree_Root.c3 : Cd := .ret
def tree_Root.c1 : Cd := .seq (.seq (.reg false [⟨some 10, .move (.t 5), none, [], []⟩,
    ⟨some 11, .move (.t 5), none, [], []⟩,
    ⟨some 12, .len (.t 11), none, [], []⟩,
    ⟨some 13, .bin .sub (.t 12) (.c (.int .i64) (1 : Int)), none, [], []⟩,
    ⟨some 14, .index (.sl tPlace) (.t 10) (.t 13), none, [], []⟩,
    ⟨some 15, .load (.d tPlace) (.t 14), none, [], []⟩,
    ⟨none, .store (.d tPlace) (.t 4) (.t 15), none, [], []⟩]) (tree_Root.c4)) (tree_Root.c3)
def tree_Root.c0 : Cd := .seq (.seq (.reg false [⟨some 6, .load (.d tWorld) (.t 2), none, [], []⟩,
    ⟨some 7, .move (.t 1), none, [], []⟩,
    ⟨some 8, .call (.f 38) [(.t 6), (.t 7)] [.clo 40 [.ref tWorld, .ref (.int .i64)]] [] false, none, [], []⟩,
    ⟨some 9, .call (.f 37) [(.t 8)] [.d (.sl tPlace)] [] false, none, [], []⟩,
    ⟨some 5, .move (.t 9), none, [], []⟩]) (tree_Root.c2)) (tree_Root.c1)
def tree_Root.fn : Fn := ⟨2, [.cell 4 (.d tPlace)], .seq (.reg false [⟨some 2, .box 0 (.t 0), none, [], []⟩,
    ⟨some 4, .newbox 1 tPlace [], none, [], []⟩]) (tree_Root.c0)⟩
def tree_Under.c4 : Cd := .tidy [8] [] [] none
def tree_Under.c9 : Cd := .skip
def tree_Under.c19 : Cd := .exit 0
def tree_Under.c12 : Cd := .tidy [13, 14, 15] [] [] none
def tree_Under.c14 : Cd := .tidy [16, 17, 18, 19] [] [] none
def tree_Under.c16 : Cd := .tidy [21, 22, 23, 24, 25, 26] [] [] none
def tree_Under.c15 : Cd := .seq (.reg false [⟨some 21, .move (.t 5), none, [], []⟩,
    ⟨some 22, .move (.t 6), none, [], []⟩,
    ⟨some 23, .load (.d tPlace) (.t 7), none, [], []⟩,
    ⟨some 24, .build tSeen [(0, (.t 22)), (1, (.t 23))] [], none, [], []⟩,
    ⟨some 25, .slice 3 tSeen [(.t 24)], none, [], []⟩,
    ⟨some 26, .append 4 tSeen (.t 21) (.t 25), none, [], []⟩,
    ⟨some 5, .move (.t 26), none, [], []⟩]) (tree_Under.c16)
def tree_Under.c18 : Cd := .skip
def tree_Under.c13 : Cd := .cond (.t 20) (.seq (.tidy [20] [] [] none) (tree_Under.c15)) (.seq (.tidy [20] [] [] none) (tree_Under.c18))
def tree_Under.c11 : Cd := .seq (.seq (.reg true [⟨some 16, .load (.d tWorld) (.t 2), none, [0], []⟩,
    ⟨some 17, .move (.t 6), none, [], []⟩,
    ⟨some 18, .call (.f 35) [(.t 16), (.t 17)] [.d tPlace] [] false, none, [], []⟩,
    ⟨some 19, .load (.d tPlace) (.t 3), none, [1], []⟩,
    ⟨some 20, .eqs tPlace false (.t 18) (.t 19), none, [], []⟩]) (tree_Under.c14)) (tree_Under.c13)
def tree_Under.c17 : Cd := .tidy [27] [] [] none
def tree_Under.c10 : Cd := .seq (.reg false [⟨some 27, .bin .add (.t 11) (.c (.int .i64) (1 : Int)), none, [], []⟩,
    ⟨some 11, .move (.t 27), none, [], []⟩]) (tree_Under.c17)
def tree_Under.c8 : Cd := .seq (.block 1 (.seq (.seq (.reg false [⟨some 13, .move (.t 11), none, [], []⟩,
    ⟨some 14, .index (.sl tPlace) (.t 9) (.t 11), none, [], []⟩,
    ⟨some 15, .load (.d tPlace) (.t 14), none, [], []⟩,
    ⟨some 7, .newbox 2 tPlace [], none, [], []⟩,
    ⟨some 6, .move (.t 13), none, [], []⟩,
    ⟨none, .store (.d tPlace) (.t 7) (.t 15), none, [], []⟩]) (tree_Under.c12)) (tree_Under.c11))) (tree_Under.c10)
def tree_Under.c7 : Cd := .seq (.cond (.t 12) (.seq (.tidy [12] [] [] none) (tree_Under.c9)) (.seq (.tidy [12] [] [] none) (tree_Under.c19))) (tree_Under.c8)
def tree_Under.c6 : Cd := .tidy [6, 7] [(4, 5)] [2, 3] (some 6)
def tree_Under.c5 : Cd := .seq (.seq (.reg false [⟨some 12, .bin .lss (.t 11) (.t 10), none, [], []⟩]) (tree_Under.c7)) (tree_Under.c6)
def tree_Under.c3 : Cd := .block 0 (.loop (tree_Under.c5))
def tree_Under.c21 : Cd := .tidy [28] [] [] none
def tree_Under.c20 : Cd := .ret
def tree_Under.c2 : Cd := .seq (.seq (.reg false [⟨some 28, .move (.t 5), none, [], []⟩,
    ⟨some 4, .move (.t 28), none, [], []⟩]) (tree_Under.c21)) (tree_Under.c20)
def tree_Under.c1 : Cd := .seq (.seq (.seq (.reg false [⟨some 8, .fieldAddr (.d tWorld) 3 (.t 2), none, [], []⟩,
    ⟨some 9, .load (.d (.sl tPlace)) (.t 8), none, [], []⟩,
    ⟨some 10, .len (.t 9), none, [], []⟩,
    ⟨some 11, .move (.c (.int .i64) (0 : Int)), none, [], []⟩]) (tree_Under.c4)) (tree_Under.c3)) (tree_Under.c2)
def tree_Under.c0 : Cd := .seq (.reg false [⟨some 5, .mknil 5 tSeen, none, [], []⟩]) (tree_Under.c1)
def tree_Under.fn : Fn := ⟨2, [.tmp 4], .seq (.reg false [⟨some 2, .box 0 (.t 0), none, [], []⟩,
    ⟨some 3, .box 1 (.t 1), none, [], []⟩,
    ⟨some 4, .move (.c (.sl tSeen) []), none, [], []⟩]) (tree_Under.c0)⟩
def sight_Look.c2 : Cd := .tidy [6, 7, 8, 9, 10] [] [] none
def sight_Look.c4 : Cd := .tidy [11, 12, 13, 14, 15, 16, 17, 18, 19] [] [] none
def sight_Look.c3 : Cd := .ret
def sight_Look.c1 : Cd := .seq (.seq (.reg true [⟨some 11, .move (.t 5), none, [], []⟩,
    ⟨some 12, .load (.d tWorld) (.t 2), none, [0], []⟩,
    ⟨some 13, .move (.t 5), none, [], []⟩,
    ⟨some 14, .call (.f 16) [(.t 12), (.t 13)] [.d (.sl (.int .i64))] [((0, []), 2)] false, none, [], [2]⟩,
    ⟨some 15, .load (.d tWorld) (.t 2), none, [0], []⟩,
    ⟨some 16, .move (.t 5), none, [], []⟩,
    ⟨some 17, .build tPlace [(0, (.c (.int .i64) (0 : Int))), (1, (.t 16))] [], none, [], []⟩,
    ⟨some 18, .call (.f 25) [(.t 15), (.t 17)] [.d (.sl tSeen)] [((0, []), 3)] false, none, [], [3]⟩,
    ⟨some 19, .build tReply [(1, (.c (.int .i64) (9 : Int))), (2, (.t 11)), (3, (.t 14)), (4, (.t 18))] [], none, [], []⟩,
    ⟨none, .store (.d tReply) (.t 4) (.t 19), none, [], [1]⟩]) (sight_Look.c4)) (sight_Look.c3)
def sight_Look.c0 : Cd := .seq (.seq (.reg false [⟨some 6, .fieldAddr (.d tWorld) 1 (.t 2), none, [], []⟩,
    ⟨some 7, .load (.d (.sl (.int .i64))) (.t 6), none, [], []⟩,
    ⟨some 8, .move (.t 1), none, [], []⟩,
    ⟨some 9, .index (.sl (.int .i64)) (.t 7) (.t 8), none, [], []⟩,
    ⟨some 10, .load (.d (.int .i64)) (.t 9), none, [], []⟩,
    ⟨some 5, .move (.t 10), none, [], []⟩]) (sight_Look.c2)) (sight_Look.c1)
def sight_Look.fn : Fn := ⟨2, [.cell 4 (.d tReply)], .seq (.reg false [⟨some 2, .box 0 (.t 0), none, [], []⟩,
    ⟨some 4, .newbox 1 tReply [], none, [], []⟩]) (sight_Look.c0)⟩
def sight_Own.c2 : Cd := .tidy [5, 6, 7, 8, 9, 10, 11, 12, 13, 14] [] [] none
def sight_Own.c1 : Cd := .ret
def sight_Own.c0 : Cd := .seq (.seq (.reg true [⟨some 5, .fieldAddr (.d tWorld) 2 (.t 2), none, [0], []⟩,
    ⟨some 6, .load (.d (.sl (.int .i64))) (.t 5), none, [0], []⟩,
    ⟨some 7, .move (.t 1), none, [], []⟩,
    ⟨some 8, .index (.sl (.int .i64)) (.t 6) (.t 7), none, [], []⟩,
    ⟨some 9, .load (.d (.int .i64)) (.t 8), none, [], []⟩,
    ⟨some 10, .load (.d tWorld) (.t 2), none, [0], []⟩,
    ⟨some 11, .move (.t 1), none, [], []⟩,
    ⟨some 12, .build tPlace [(0, (.c (.int .i64) (1 : Int))), (1, (.t 11))] [], none, [], []⟩,
    ⟨some 13, .call (.f 25) [(.t 10), (.t 12)] [.d (.sl tSeen)] [((0, []), 2)] false, none, [], [2]⟩,
    ⟨some 14, .build tReply [(1, (.c (.int .i64) (10 : Int))), (5, (.t 9)), (4, (.t 13))] [], none, [], []⟩,
    ⟨none, .store (.d tReply) (.t 4) (.t 14), none, [], [1]⟩]) (sight_Own.c2)) (sight_Own.c1)
def sight_Own.fn : Fn := ⟨2, [.cell 4 (.d tReply)], .seq (.reg false [⟨some 2, .box 0 (.t 0), none, [], []⟩,
    ⟨some 4, .newbox 1 tReply [], none, [], []⟩]) (sight_Own.c0)⟩
def innkeepref03_Ints.c3 : Cd := .tidy [6, 7, 8, 9] [] [] none
def innkeepref03_Ints.c5 : Cd := .ret
def innkeepref03_Ints.c4 : Cd := .seq (.reg false [⟨some 4, .move (.c .bool false), none, [], []⟩]) (innkeepref03_Ints.c5)
def innkeepref03_Ints.c6 : Cd := .skip
def innkeepref03_Ints.c2 : Cd := .cond (.t 10) (.seq (.tidy [10] [] [] none) (innkeepref03_Ints.c4)) (.seq (.tidy [10] [] [] none) (innkeepref03_Ints.c6))
def innkeepref03_Ints.c13 : Cd := .tidy [11, 12, 13] [] [] none
def innkeepref03_Ints.c14 : Cd := .skip
def innkeepref03_Ints.c22 : Cd := .exit 0
def innkeepref03_Ints.c12 : Cd := .cond (.t 14) (.seq (.tidy [14] [] [] none) (innkeepref03_Ints.c14)) (.seq (.tidy [14] [] [] none) (innkeepref03_Ints.c22))
def innkeepref03_Ints.c17 : Cd := .tidy [17, 18, 19, 20, 21, 22, 23, 24] [] [] none
def innkeepref03_Ints.c19 : Cd := .ret
def innkeepref03_Ints.c18 : Cd := .seq (.reg false [⟨some 4, .move (.c .bool false), none, [], []⟩]) (innkeepref03_Ints.c19)
def innkeepref03_Ints.c20 : Cd := .skip
def innkeepref03_Ints.c16 : Cd := .cond (.t 25) (.seq (.tidy [25] [] [] none) (innkeepref03_Ints.c18)) (.seq (.tidy [25] [] [] none) (innkeepref03_Ints.c20))
def innkeepref03_Ints.c21 : Cd := .tidy [15, 16] [] [] none
def innkeepref03_Ints.c15 : Cd := .seq (.reg false [⟨some 15, .move (.t 5), none, [], []⟩,
    ⟨some 16, .bin .add (.t 15) (.c (.int .i64) (1 : Int)), none, [], []⟩,
    ⟨some 5, .move (.t 16), none, [], []⟩]) (innkeepref03_Ints.c21)
def innkeepref03_Ints.c11 : Cd := .seq (.block 1 (.seq (.seq (.reg true [⟨some 17, .move (.t 0), none, [], []⟩,
    ⟨some 18, .move (.t 5), none, [], []⟩,
    ⟨some 19, .index (.sl (.int .i64)) (.t 17) (.t 18), none, [], []⟩,
    ⟨some 20, .load (.d (.int .i64)) (.t 19), none, [], []⟩,
    ⟨some 21, .move (.t 1), none, [], []⟩,
    ⟨some 22, .move (.t 5), none, [], []⟩,
    ⟨some 23, .index (.sl (.int .i64)) (.t 21) (.t 22), none, [], []⟩,
    ⟨some 24, .load (.d (.int .i64)) (.t 23), none, [], []⟩,
    ⟨some 25, .bin .neq (.t 20) (.t 24), none, [], []⟩]) (innkeepref03_Ints.c17)) (innkeepref03_Ints.c16))) (innkeepref03_Ints.c15)
def innkeepref03_Ints.c10 : Cd := .tidy [] [] [] (some 0)
def innkeepref03_Ints.c9 : Cd := .seq (.seq (.seq (.seq (.reg false [⟨some 11, .move (.t 5), none, [], []⟩,
    ⟨some 12, .move (.t 0), none, [], []⟩,
    ⟨some 13, .len (.t 12), none, [], []⟩,
    ⟨some 14, .bin .lss (.t 11) (.t 13), none, [], []⟩]) (innkeepref03_Ints.c13)) (innkeepref03_Ints.c12)) (innkeepref03_Ints.c11)) (innkeepref03_Ints.c10)
def innkeepref03_Ints.c8 : Cd := .block 0 (.loop (innkeepref03_Ints.c9))
def innkeepref03_Ints.c23 : Cd := .ret
def innkeepref03_Ints.c7 : Cd := .seq (.reg false [⟨some 4, .move (.c .bool true), none, [], []⟩]) (innkeepref03_Ints.c23)
def innkeepref03_Ints.c1 : Cd := .seq (.seq (.reg false [⟨some 5, .move (.c (.int .i64) (0 : Int)), none, [], []⟩]) (innkeepref03_Ints.c8)) (innkeepref03_Ints.c7)
def innkeepref03_Ints.c0 : Cd := .seq (.seq (.seq (.reg false [⟨some 6, .move (.t 0), none, [], []⟩,
    ⟨some 7, .len (.t 6), none, [], []⟩,
    ⟨some 8, .move (.t 1), none, [], []⟩,
    ⟨some 9, .len (.t 8), none, [], []⟩,
    ⟨some 10, .bin .neq (.t 7) (.t 9), none, [], []⟩]) (innkeepref03_Ints.c3)) (innkeepref03_Ints.c2)) (innkeepref03_Ints.c1)
def innkeepref03_Ints.fn : Fn := ⟨2, [.tmp 4], .seq (.reg false [⟨some 4, .move (.c .bool false), none, [], []⟩]) (innkeepref03_Ints.c0)⟩
def innkeepref05_Seens.c3 : Cd := .tidy [6, 7, 8, 9] [] [] none
def innkeepref05_Seens.c5 : Cd := .ret
def innkeepref05_Seens.c4 : Cd := .seq (.reg false [⟨some 4, .move (.c .bool false), none, [], []⟩]) (innkeepref05_Seens.c5)
def innkeepref05_Seens.c6 : Cd := .skip
def innkeepref05_Seens.c2 : Cd := .cond (.t 10) (.seq (.tidy [10] [] [] none) (innkeepref05_Seens.c4)) (.seq (.tidy [10] [] [] none) (innkeepref05_Seens.c6))
def innkeepref05_Seens.c13 : Cd := .tidy [11, 12, 13] [] [] none
def innkeepref05_Seens.c14 : Cd := .skip
def innkeepref05_Seens.c22 : Cd := .exit 0
def innkeepref05_Seens.c12 : Cd := .cond (.t 14) (.seq (.tidy [14] [] [] none) (innkeepref05_Seens.c14)) (.seq (.tidy [14] [] [] none) (innkeepref05_Seens.c22))
def innkeepref05_Seens.c17 : Cd := .tidy [17, 18, 19, 20, 21, 22, 23, 24] [] [] none
def innkeepref05_Seens.c19 : Cd := .ret
def innkeepref05_Seens.c18 : Cd := .seq (.reg false [⟨some 4, .move (.c .bool false), none, [], []⟩]) (innkeepref05_Seens.c19)
def innkeepref05_Seens.c20 : Cd := .skip
def innkeepref05_Seens.c16 : Cd := .cond (.t 25) (.seq (.tidy [25] [] [] none) (innkeepref05_Seens.c18)) (.seq (.tidy [25] [] [] none) (innkeepref05_Seens.c20))
def innkeepref05_Seens.c21 : Cd := .tidy [15, 16] [] [] none
def innkeepref05_Seens.c15 : Cd := .seq (.reg false [⟨some 15, .move (.t 5), none, [], []⟩,
    ⟨some 16, .bin .add (.t 15) (.c (.int .i64) (1 : Int)), none, [], []⟩,
    ⟨some 5, .move (.t 16), none, [], []⟩]) (innkeepref05_Seens.c21)
def innkeepref05_Seens.c11 : Cd := .seq (.block 1 (.seq (.seq (.reg true [⟨some 17, .move (.t 0), none, [], []⟩,
    ⟨some 18, .move (.t 5), none, [], []⟩,
    ⟨some 19, .index (.sl tSeen) (.t 17) (.t 18), none, [], []⟩,
    ⟨some 20, .load (.d tSeen) (.t 19), none, [], []⟩,
    ⟨some 21, .move (.t 1), none, [], []⟩,
    ⟨some 22, .move (.t 5), none, [], []⟩,
    ⟨some 23, .index (.sl tSeen) (.t 21) (.t 22), none, [], []⟩,
    ⟨some 24, .load (.d tSeen) (.t 23), none, [], []⟩,
    ⟨some 25, .eqs tSeen true (.t 20) (.t 24), none, [], []⟩]) (innkeepref05_Seens.c17)) (innkeepref05_Seens.c16))) (innkeepref05_Seens.c15)
def innkeepref05_Seens.c10 : Cd := .tidy [] [] [] (some 0)
def innkeepref05_Seens.c9 : Cd := .seq (.seq (.seq (.seq (.reg false [⟨some 11, .move (.t 5), none, [], []⟩,
    ⟨some 12, .move (.t 0), none, [], []⟩,
    ⟨some 13, .len (.t 12), none, [], []⟩,
    ⟨some 14, .bin .lss (.t 11) (.t 13), none, [], []⟩]) (innkeepref05_Seens.c13)) (innkeepref05_Seens.c12)) (innkeepref05_Seens.c11)) (innkeepref05_Seens.c10)
def innkeepref05_Seens.c8 : Cd := .block 0 (.loop (innkeepref05_Seens.c9))
def innkeepref05_Seens.c23 : Cd := .ret
def innkeepref05_Seens.c7 : Cd := .seq (.reg false [⟨some 4, .move (.c .bool true), none, [], []⟩]) (innkeepref05_Seens.c23)
def innkeepref05_Seens.c1 : Cd := .seq (.seq (.reg false [⟨some 5, .move (.c (.int .i64) (0 : Int)), none, [], []⟩]) (innkeepref05_Seens.c8)) (innkeepref05_Seens.c7)
def innkeepref05_Seens.c0 : Cd := .seq (.seq (.seq (.reg false [⟨some 6, .move (.t 0), none, [], []⟩,
    ⟨some 7, .len (.t 6), none, [], []⟩,
    ⟨some 8, .move (.t 1), none, [], []⟩,
    ⟨some 9, .len (.t 8), none, [], []⟩,
    ⟨some 10, .bin .neq (.t 7) (.t 9), none, [], []⟩]) (innkeepref05_Seens.c3)) (innkeepref05_Seens.c2)) (innkeepref05_Seens.c1)
def innkeepref05_Seens.fn : Fn := ⟨2, [.tmp 4], .seq (.reg false [⟨some 4, .move (.c .bool false), none, [], []⟩]) (innkeepref05_Seens.c0)⟩
def innkeepref05_Same.c2 : Cd := .tidy [5, 6, 7, 8, 9, 10, 11, 12, 13, 14, 15, 16, 17, 18, 19, 20, 21, 22, 23, 24, 25, 26, 27, 28, 29, 30, 31, 32, 33, 34, 35, 36, 37, 38, 39, 40, 41, 42, 43, 44] [] [] none
def innkeepref05_Same.c1 : Cd := .ret
def innkeepref05_Same.c0 : Cd := .seq (.seq (.reg false [⟨some 5, .fieldAddr (.d tReply) 0 (.t 2), none, [], []⟩,
    ⟨some 6, .load (.d (.int .i64)) (.t 5), none, [], []⟩,
    ⟨some 7, .fieldAddr (.d tReply) 0 (.t 3), none, [], []⟩,
    ⟨some 8, .load (.d (.int .i64)) (.t 7), none, [], []⟩,
    ⟨some 9, .bin .eql (.t 6) (.t 8), none, [], []⟩,
    ⟨some 10, .move (.t 9), none, [], []⟩,
    ⟨some 11, .fieldAddr (.d tReply) 1 (.t 2), some (10, true), [], []⟩,
    ⟨some 12, .load (.d (.int .i64)) (.t 11), some (10, true), [], []⟩,
    ⟨some 13, .fieldAddr (.d tReply) 1 (.t 3), some (10, true), [], []⟩,
    ⟨some 14, .load (.d (.int .i64)) (.t 13), some (10, true), [], []⟩,
    ⟨some 15, .bin .eql (.t 12) (.t 14), some (10, true), [], []⟩,
    ⟨some 16, .pick (.t 10) (.t 15) (.c .bool false), none, [], []⟩,
    ⟨some 17, .move (.t 16), none, [], []⟩,
    ⟨some 18, .fieldAddr (.d tReply) 2 (.t 2), some (17, true), [], []⟩,
    ⟨some 19, .load (.d (.int .i64)) (.t 18), some (17, true), [], []⟩,
    ⟨some 20, .fieldAddr (.d tReply) 2 (.t 3), some (17, true), [], []⟩,
    ⟨some 21, .load (.d (.int .i64)) (.t 20), some (17, true), [], []⟩,
    ⟨some 22, .bin .eql (.t 19) (.t 21), some (17, true), [], []⟩,
    ⟨some 23, .pick (.t 17) (.t 22) (.c .bool false), none, [], []⟩,
    ⟨some 24, .move (.t 23), none, [], []⟩,
    ⟨some 25, .fieldAddr (.d tReply) 5 (.t 2), some (24, true), [], []⟩,
    ⟨some 26, .load (.d (.int .i64)) (.t 25), some (24, true), [], []⟩,
    ⟨some 27, .fieldAddr (.d tReply) 5 (.t 3), some (24, true), [], []⟩,
    ⟨some 28, .load (.d (.int .i64)) (.t 27), some (24, true), [], []⟩,
    ⟨some 29, .bin .eql (.t 26) (.t 28), some (24, true), [], []⟩,
    ⟨some 30, .pick (.t 24) (.t 29) (.c .bool false), none, [], []⟩,
    ⟨some 31, .move (.t 30), none, [], []⟩,
    ⟨some 32, .fieldAddr (.d tReply) 3 (.t 2), some (31, true), [], []⟩,
    ⟨some 33, .load (.d (.sl (.int .i64))) (.t 32), some (31, true), [], []⟩,
    ⟨some 34, .fieldAddr (.d tReply) 3 (.t 3), some (31, true), [], []⟩,
    ⟨some 35, .load (.d (.sl (.int .i64))) (.t 34), some (31, true), [], []⟩,
    ⟨some 36, .call (.f 15) [(.t 33), (.t 35)] [.d .bool] [] false, some (31, true), [], []⟩,
    ⟨some 37, .pick (.t 31) (.t 36) (.c .bool false), none, [], []⟩,
    ⟨some 38, .move (.t 37), none, [], []⟩,
    ⟨some 39, .fieldAddr (.d tReply) 4 (.t 2), some (38, true), [], []⟩,
    ⟨some 40, .load (.d (.sl tSeen)) (.t 39), some (38, true), [], []⟩,
    ⟨some 41, .fieldAddr (.d tReply) 4 (.t 3), some (38, true), [], []⟩,
    ⟨some 42, .load (.d (.sl tSeen)) (.t 41), some (38, true), [], []⟩,
    ⟨some 43, .call (.f 24) [(.t 40), (.t 42)] [.d .bool] [] false, some (38, true), [], []⟩,
    ⟨some 44, .pick (.t 38) (.t 43) (.c .bool false), none, [], []⟩,
    ⟨some 4, .move (.t 44), none, [], []⟩]) (innkeepref05_Same.c2)) (innkeepref05_Same.c1)
def innkeepref05_Same.fn : Fn := ⟨2, [.tmp 4], .seq (.reg false [⟨some 2, .box 0 (.t 0), none, [], []⟩,
    ⟨some 3, .box 1 (.t 1), none, [], []⟩,
    ⟨some 4, .move (.c .bool false), none, [], []⟩]) (innkeepref05_Same.c0)⟩
def innkeeplaw12_awake.c2 : Cd := .tidy [4, 5, 6, 7, 8, 9, 10] [] [] none
def innkeeplaw12_awake.c4 : Cd := .tidy [11, 12, 13, 14] [] [] none
def innkeeplaw12_awake.c6 : Cd := .tidy [15, 16, 17, 18] [] [] none
def innkeeplaw12_awake.c8 : Cd := .tidy [19, 20] [] [] none
def innkeeplaw12_awake.c10 : Cd := .tidy [21, 22] [] [] none
def innkeeplaw12_awake.c12 : Cd := .tidy [23, 24, 25, 26, 27, 28, 29, 30, 31, 32, 33, 34, 35, 36, 37, 38, 39, 40, 41, 42, 43, 44] [] [] none
def innkeeplaw12_awake.c11 : Cd := .ret
def innkeeplaw12_awake.c9 : Cd := .seq (.seq (.reg false [⟨some 23, .load (.d tReply) (.t 2), none, [], []⟩,
    ⟨some 24, .slice 8 (.int .i64) [(.c (.int .i64) (0 : Int)), (.c (.int .i64) (2 : Int))], none, [], []⟩,
    ⟨some 25, .build tSeen [] [], none, [], []⟩,
    ⟨some 26, .build tPlace [(0, (.c (.int .i64) (2 : Int)))] [], none, [], []⟩,
    ⟨some 27, .build tSeen [(0, (.c (.int .i64) (1 : Int))), (1, (.t 26))] [], none, [], []⟩,
    ⟨some 28, .slice 9 tSeen [(.t 25), (.t 27)], none, [], []⟩,
    ⟨some 29, .build tReply [(1, (.c (.int .i64) (9 : Int))), (3, (.t 24)), (4, (.t 28))] [], none, [], []⟩,
    ⟨some 30, .call (.f 10) [(.t 23), (.t 29)] [.d .bool] [] false, none, [], []⟩,
    ⟨some 31, .move (.t 30), none, [], []⟩,
    ⟨some 32, .load (.d tReply) (.t 3), some (31, true), [], []⟩,
    ⟨some 33, .build tPlace [(0, (.c (.int .i64) (1 : Int))), (1, (.c (.int .i64) (1 : Int)))] [], some (31, true), [], []⟩,
    ⟨some 34, .build tSeen [(0, (.c (.int .i64) (2 : Int))), (1, (.t 33))] [], some (31, true), [], []⟩,
    ⟨some 35, .slice 10 tSeen [(.t 34)], some (31, true), [], []⟩,
    ⟨some 36, .build tReply [(1, (.c (.int .i64) (10 : Int))), (5, (.c (.int .i64) (2 : Int))), (4, (.t 35))] [], some (31, true), [], []⟩,
    ⟨some 37, .call (.f 10) [(.t 32), (.t 36)] [.d .bool] [] false, some (31, true), [], []⟩,
    ⟨some 38, .pick (.t 31) (.t 37) (.c .bool false), none, [], []⟩,
    ⟨some 39, .move (.t 38), none, [], []⟩,
    ⟨some 40, .load (.d tWorld) (.t 1), some (39, true), [], []⟩,
    ⟨some 41, .call (.f 16) [(.t 40), (.c (.int .i64) (1 : Int))] [.d (.sl (.int .i64))] [] false, some (39, true), [], []⟩,
    ⟨some 42, .slice 11 (.int .i64) [(.c (.int .i64) (1 : Int))], some (39, true), [], []⟩,
    ⟨some 43, .call (.f 15) [(.t 41), (.t 42)] [.d .bool] [] false, some (39, true), [], []⟩,
    ⟨some 44, .pick (.t 39) (.t 43) (.c .bool false), none, [], []⟩,
    ⟨some 0, .move (.t 44), none, [], []⟩]) (innkeeplaw12_awake.c12)) (innkeeplaw12_awake.c11)
def innkeeplaw12_awake.c7 : Cd := .seq (.seq (.reg false [⟨some 21, .load (.d tWorld) (.t 1), none, [], []⟩,
    ⟨some 22, .call (.f 13) [(.t 21), (.c (.int .i64) (1 : Int))] [.d tReply] [] false, none, [], []⟩,
    ⟨some 3, .newbox 7 tReply [], none, [], []⟩,
    ⟨none, .store (.d tReply) (.t 3) (.t 22), none, [], []⟩]) (innkeeplaw12_awake.c10)) (innkeeplaw12_awake.c9)
def innkeeplaw12_awake.c5 : Cd := .seq (.seq (.reg false [⟨some 19, .load (.d tWorld) (.t 1), none, [], []⟩,
    ⟨some 20, .call (.f 11) [(.t 19), (.c (.int .i64) (2 : Int))] [.d tReply] [] false, none, [], []⟩,
    ⟨some 2, .newbox 6 tReply [], none, [], []⟩,
    ⟨none, .store (.d tReply) (.t 2) (.t 20), none, [], []⟩]) (innkeeplaw12_awake.c8)) (innkeeplaw12_awake.c7)
def innkeeplaw12_awake.c3 : Cd := .seq (.seq (.reg false [⟨some 15, .fieldAddr (.d tWorld) 3 (.t 1), none, [], []⟩,
    ⟨some 16, .load (.d (.sl tPlace)) (.t 15), none, [], []⟩,
    ⟨some 17, .build tPlace [(0, (.c (.int .i64) (1 : Int))), (1, (.c (.int .i64) (1 : Int)))] [], none, [], []⟩,
    ⟨some 18, .index (.sl tPlace) (.t 16) (.c (.int .i64) (2 : Int)), none, [], []⟩,
    ⟨none, .store (.d tPlace) (.t 18) (.t 17), none, [], []⟩]) (innkeeplaw12_awake.c6)) (innkeeplaw12_awake.c5)
def innkeeplaw12_awake.c1 : Cd := .seq (.seq (.reg false [⟨some 11, .fieldAddr (.d tWorld) 3 (.t 1), none, [], []⟩,
    ⟨some 12, .load (.d (.sl tPlace)) (.t 11), none, [], []⟩,
    ⟨some 13, .build tPlace [(0, (.c (.int .i64) (2 : Int)))] [], none, [], []⟩,
    ⟨some 14, .index (.sl tPlace) (.t 12) (.c (.int .i64) (1 : Int)), none, [], []⟩,
    ⟨none, .store (.d tPlace) (.t 14) (.t 13), none, [], []⟩]) (innkeeplaw12_awake.c4)) (innkeeplaw12_awake.c3)
def innkeeplaw12_awake.c0 : Cd := .seq (.seq (.reg false [⟨some 4, .make 0 (.arr 4 (.int .i64)) (.c (.int .i64) (2 : Int)), none, [], []⟩,
    ⟨some 5, .slice 1 (.int .i64) [(.c (.int .i64) (0 : Int)), (.c (.int .i64) (1 : Int)), (.c (.int .i64) (0 : Int))], none, [], []⟩,
    ⟨some 6, .slice 2 (.int .i64) [(.c (.int .i64) (5 : Int)), (.c (.int .i64) (2 : Int)), (.c (.int .i64) (5 : Int))], none, [], []⟩,
    ⟨some 7, .slice 3 (.int .i64) [(.c (.int .i64) (0 : Int)), (.c (.int .i64) (0 : Int)), (.c (.int .i64) (1 : Int))], none, [], []⟩,
    ⟨some 8, .slice 4 .bool [(.c .bool true), (.c .bool false), (.c .bool false)], none, [], []⟩,
    ⟨some 9, .build tDesc [(0, (.t 4)), (1, (.t 5)), (2, (.t 6)), (3, (.t 7)), (4, (.t 8)), (5, (.c (.int .i64) (4 : Int))), (6, (.c (.int .i64) (2 : Int))), (7, (.c (.int .i64) (1 : Int)))] [], none, [], []⟩,
    ⟨some 10, .call (.f 22) [(.t 9)] [.d tWorld] [((0, [3]), 12)] false, none, [], []⟩,
    ⟨some 1, .newbox 5 tWorld [], none, [], []⟩,
    ⟨none, .store (.d tWorld) (.t 1) (.t 10), none, [], []⟩]) (innkeeplaw12_awake.c2)) (innkeeplaw12_awake.c1)
def innkeeplaw12_awake.fn : Fn := ⟨0, [.tmp 0], .seq (.reg false [⟨some 0, .move (.c .bool false), none, [], []⟩]) (innkeeplaw12_awake.c0)⟩
def innkeepref06_Few.c2 : Cd := .tidy [4, 5] [] [] none
def innkeepref06_Few.c4 : Cd := .tidy [6, 7, 8, 9, 10, 11, 12, 13, 14, 15, 16, 17, 18, 19, 20, 21, 22, 23, 24, 25, 26, 27, 28, 29, 30, 31, 32, 33, 34, 35, 36, 37, 38, 39, 40, 41, 42, 43, 44, 45, 46, 47, 48, 49, 50, 51] [] [] none
def innkeepref06_Few.c3 : Cd := .ret
def innkeepref06_Few.c1 : Cd := .seq (.seq (.reg false [⟨some 6, .fieldAddr (.d tDesc) 0 (.t 3), none, [], []⟩,
    ⟨some 7, .load (.d (.sl (.arr 4 (.int .i64)))) (.t 6), none, [], []⟩,
    ⟨some 8, .len (.t 7), none, [], []⟩,
    ⟨some 9, .bin .leq (.t 8) (.c (.int .i64) (20 : Int)), none, [], []⟩,
    ⟨some 10, .move (.t 9), none, [], []⟩,
    ⟨some 11, .fieldAddr (.d tDesc) 1 (.t 3), some (10, true), [], []⟩,
    ⟨some 12, .load (.d (.sl (.int .i64))) (.t 11), some (10, true), [], []⟩,
    ⟨some 13, .len (.t 12), some (10, true), [], []⟩,
    ⟨some 14, .bin .leq (.t 13) (.c (.int .i64) (20 : Int)), some (10, true), [], []⟩,
    ⟨some 15, .pick (.t 10) (.t 14) (.c .bool false), none, [], []⟩,
    ⟨some 16, .move (.t 15), none, [], []⟩,
    ⟨some 17, .fieldAddr (.d tDesc) 2 (.t 3), some (16, true), [], []⟩,
    ⟨some 18, .load (.d (.sl (.int .i64))) (.t 17), some (16, true), [], []⟩,
    ⟨some 19, .len (.t 18), some (16, true), [], []⟩,
    ⟨some 20, .bin .leq (.t 19) (.c (.int .i64) (20 : Int)), some (16, true), [], []⟩,
    ⟨some 21, .pick (.t 16) (.t 20) (.c .bool false), none, [], []⟩,
    ⟨some 22, .move (.t 21), none, [], []⟩,
    ⟨some 23, .fieldAddr (.d tDesc) 3 (.t 3), some (22, true), [], []⟩,
    ⟨some 24, .load (.d (.sl (.int .i64))) (.t 23), some (22, true), [], []⟩,
    ⟨some 25, .len (.t 24), some (22, true), [], []⟩,
    ⟨some 26, .bin .leq (.t 25) (.c (.int .i64) (40 : Int)), some (22, true), [], []⟩,
    ⟨some 27, .pick (.t 22) (.t 26) (.c .bool false), none, [], []⟩,
    ⟨some 28, .move (.t 27), none, [], []⟩,
    ⟨some 29, .fieldAddr (.d tDesc) 4 (.t 3), some (28, true), [], []⟩,
    ⟨some 30, .load (.d (.sl .bool)) (.t 29), some (28, true), [], []⟩,
    ⟨some 31, .len (.t 30), some (28, true), [], []⟩,
    ⟨some 32, .bin .leq (.t 31) (.c (.int .i64) (40 : Int)), some (28, true), [], []⟩,
    ⟨some 33, .pick (.t 28) (.t 32) (.c .bool false), none, [], []⟩,
    ⟨some 34, .move (.t 33), none, [], []⟩,
    ⟨some 35, .fieldAddr (.d tWorld) 1 (.t 1), some (34, true), [], []⟩,
    ⟨some 36, .load (.d (.sl (.int .i64))) (.t 35), some (34, true), [], []⟩,
    ⟨some 37, .len (.t 36), some (34, true), [], []⟩,
    ⟨some 38, .bin .leq (.t 37) (.c (.int .i64) (40 : Int)), some (34, true), [], []⟩,
    ⟨some 39, .pick (.t 34) (.t 38) (.c .bool false), none, [], []⟩,
    ⟨some 40, .move (.t 39), none, [], []⟩,
    ⟨some 41, .fieldAddr (.d tWorld) 2 (.t 1), some (40, true), [], []⟩,
    ⟨some 42, .load (.d (.sl (.int .i64))) (.t 41), some (40, true), [], []⟩,
    ⟨some 43, .len (.t 42), some (40, true), [], []⟩,
    ⟨some 44, .bin .leq (.t 43) (.c (.int .i64) (40 : Int)), some (40, true), [], []⟩,
    ⟨some 45, .pick (.t 40) (.t 44) (.c .bool false), none, [], []⟩,
    ⟨some 46, .move (.t 45), none, [], []⟩,
    ⟨some 47, .fieldAddr (.d tWorld) 3 (.t 1), some (46, true), [], []⟩,
    ⟨some 48, .load (.d (.sl tPlace)) (.t 47), some (46, true), [], []⟩,
    ⟨some 49, .len (.t 48), some (46, true), [], []⟩,
    ⟨some 50, .bin .leq (.t 49) (.c (.int .i64) (40 : Int)), some (46, true), [], []⟩,
    ⟨some 51, .pick (.t 46) (.t 50) (.c .bool false), none, [], []⟩,
    ⟨some 2, .move (.t 51), none, [], []⟩]) (innkeepref06_Few.c4)) (innkeepref06_Few.c3)
def innkeepref06_Few.c0 : Cd := .seq (.seq (.reg false [⟨some 4, .fieldAddr (.d tWorld) 0 (.t 1), none, [], []⟩,
    ⟨some 5, .load (.d tDesc) (.t 4), none, [], []⟩,
    ⟨some 3, .newbox 1 tDesc [], none, [], []⟩,
    ⟨none, .store (.d tDesc) (.t 3) (.t 5), none, [], []⟩]) (innkeepref06_Few.c2)) (innkeepref06_Few.c1)
def innkeepref06_Few.fn : Fn := ⟨1, [.tmp 2], .seq (.reg false [⟨some 1, .box 0 (.t 0), none, [], []⟩,
    ⟨some 2, .move (.c .bool false), none, [], []⟩]) (innkeepref06_Few.c0)⟩
def innkeepref06_in.c2 : Cd := .tidy [5, 6, 7, 8, 9, 10, 11] [] [] none
def innkeepref06_in.c1 : Cd := .ret
def innkeepref06_in.c0 : Cd := .seq (.seq (.reg false [⟨some 5, .move (.t 0), none, [], []⟩,
    ⟨some 6, .bin .geq (.t 5) (.c (.int .i64) (0 : Int)), none, [], []⟩,
    ⟨some 7, .move (.t 6), none, [], []⟩,
    ⟨some 8, .move (.t 0), some (7, true), [], []⟩,
    ⟨some 9, .move (.t 1), some (7, true), [], []⟩,
    ⟨some 10, .bin .lss (.t 8) (.t 9), some (7, true), [], []⟩,
    ⟨some 11, .pick (.t 7) (.t 10) (.c .bool false), none, [], []⟩,
    ⟨some 4, .move (.t 11), none, [], []⟩]) (innkeepref06_in.c2)) (innkeepref06_in.c1)
def innkeepref06_in.fn : Fn := ⟨2, [.tmp 4], .seq (.reg false [⟨some 4, .move (.c .bool false), none, [], []⟩]) (innkeepref06_in.c0)⟩
def innkeepref01_Is.c2 : Cd := .tidy [3, 4, 5, 6, 7, 8] [] [] none
def innkeepref01_Is.c1 : Cd := .ret
def innkeepref01_Is.c0 : Cd := .seq (.seq (.reg false [⟨some 3, .move (.t 0), none, [], []⟩,
    ⟨some 4, .bin .leq (.c (.int .i64) (0 : Int)) (.t 3), none, [], []⟩,
    ⟨some 5, .move (.t 4), none, [], []⟩,
    ⟨some 6, .move (.t 0), some (5, true), [], []⟩,
    ⟨some 7, .bin .leq (.t 6) (.c (.int .i64) (1073741824 : Int)), some (5, true), [], []⟩,
    ⟨some 8, .pick (.t 5) (.t 7) (.c .bool false), none, [], []⟩,
    ⟨some 2, .move (.t 8), none, [], []⟩]) (innkeepref01_Is.c2)) (innkeepref01_Is.c1)
def innkeepref01_Is.fn : Fn := ⟨1, [.tmp 2], .seq (.reg false [⟨some 2, .move (.c .bool false), none, [], []⟩]) (innkeepref01_Is.c0)⟩
def innkeepref06_May.c2 : Cd := .tidy [10, 11, 12] [] [] none
def innkeepref06_May.c5 : Cd := .tidy [13, 14, 15, 16, 17, 18, 19, 20, 21, 22, 23, 24, 25, 26, 27, 28, 29, 30, 31, 32, 33, 34, 35, 36, 37, 38, 39, 40, 41, 42, 43, 44, 45, 46, 47, 48, 49, 50, 51, 52, 53] [] [] none
def innkeepref06_May.c7 : Cd := .ret
def innkeepref06_May.c6 : Cd := .seq (.reg false [⟨some 2, .move (.c .bool false), none, [], []⟩]) (innkeepref06_May.c7)
def innkeepref06_May.c8 : Cd := .skip
def innkeepref06_May.c4 : Cd := .cond (.t 54) (.seq (.tidy [54] [] [] none) (innkeepref06_May.c6)) (.seq (.tidy [54] [] [] none) (innkeepref06_May.c8))
def innkeepref06_May.c11 : Cd := .tidy [55, 56, 57, 58, 59, 60, 61, 62, 63, 64, 65, 66, 67, 68, 69] [] [] none
def innkeepref06_May.c13 : Cd := .ret
def innkeepref06_May.c12 : Cd := .seq (.reg false [⟨some 2, .move (.c .bool false), none, [], []⟩]) (innkeepref06_May.c13)
def innkeepref06_May.c14 : Cd := .skip
def innkeepref06_May.c10 : Cd := .cond (.t 70) (.seq (.tidy [70] [] [] none) (innkeepref06_May.c12)) (.seq (.tidy [70] [] [] none) (innkeepref06_May.c14))
def innkeepref06_May.c21 : Cd := .tidy [71, 72] [] [] none
def innkeepref06_May.c22 : Cd := .skip
def innkeepref06_May.c63 : Cd := .exit 0
def innkeepref06_May.c20 : Cd := .cond (.t 73) (.seq (.tidy [73] [] [] none) (innkeepref06_May.c22)) (.seq (.tidy [73] [] [] none) (innkeepref06_May.c63))
def innkeepref06_May.c30 : Cd := .tidy [76] [] [] none
def innkeepref06_May.c31 : Cd := .skip
def innkeepref06_May.c39 : Cd := .exit 2
def innkeepref06_May.c29 : Cd := .cond (.t 77) (.seq (.tidy [77] [] [] none) (innkeepref06_May.c31)) (.seq (.tidy [77] [] [] none) (innkeepref06_May.c39))
def innkeepref06_May.c34 : Cd := .tidy [80, 81, 82, 83, 84, 85, 86, 87, 88, 89, 90, 91, 92, 93, 94, 95, 96, 97, 98] [] [] none
def innkeepref06_May.c36 : Cd := .ret
def innkeepref06_May.c35 : Cd := .seq (.reg false [⟨some 2, .move (.c .bool false), none, [], []⟩]) (innkeepref06_May.c36)
def innkeepref06_May.c37 : Cd := .skip
def innkeepref06_May.c33 : Cd := .cond (.t 99) (.seq (.tidy [99] [] [] none) (innkeepref06_May.c35)) (.seq (.tidy [99] [] [] none) (innkeepref06_May.c37))
def innkeepref06_May.c38 : Cd := .tidy [78, 79] [] [] none
def innkeepref06_May.c32 : Cd := .seq (.reg false [⟨some 78, .move (.t 5), none, [], []⟩,
    ⟨some 79, .bin .add (.t 78) (.c (.int .i64) (1 : Int)), none, [], []⟩,
    ⟨some 5, .move (.t 79), none, [], []⟩]) (innkeepref06_May.c38)
def innkeepref06_May.c28 : Cd := .seq (.block 3 (.seq (.seq (.reg false [⟨some 80, .fieldAddr (.d tDesc) 0 (.t 1), none, [], []⟩,
    ⟨some 81, .load (.d (.sl (.arr 4 (.int .i64)))) (.t 80), none, [], []⟩,
    ⟨some 82, .move (.t 4), none, [], []⟩,
    ⟨some 83, .move (.t 5), none, [], []⟩,
    ⟨some 84, .index (.sl (.arr 4 (.int .i64))) (.t 81) (.t 82), none, [], []⟩,
    ⟨some 85, .index (.arr 4 (.int .i64)) (.t 84) (.t 83), none, [], []⟩,
    ⟨some 86, .load (.d (.int .i64)) (.t 85), none, [], []⟩,
    ⟨some 87, .bin .neq (.t 86) (.c (.int .i64) ((-1) : Int)), none, [], []⟩,
    ⟨some 88, .move (.t 87), none, [], []⟩,
    ⟨some 89, .fieldAddr (.d tDesc) 0 (.t 1), some (88, true), [], []⟩,
    ⟨some 90, .load (.d (.sl (.arr 4 (.int .i64)))) (.t 89), some (88, true), [], []⟩,
    ⟨some 91, .move (.t 4), some (88, true), [], []⟩,
    ⟨some 92, .move (.t 5), some (88, true), [], []⟩,
    ⟨some 93, .index (.sl (.arr 4 (.int .i64))) (.t 90) (.t 91), some (88, true), [], []⟩,
    ⟨some 94, .index (.arr 4 (.int .i64)) (.t 93) (.t 92), some (88, true), [], []⟩,
    ⟨some 95, .load (.d (.int .i64)) (.t 94), some (88, true), [], []⟩,
    ⟨some 96, .move (.t 3), some (88, true), [], []⟩,
    ⟨some 97, .call (.f 30) [(.t 95), (.t 96)] [.d .bool] [] false, some (88, true), [], []⟩,
    ⟨some 98, .not (.t 97), some (88, true), [], []⟩,
    ⟨some 99, .pick (.t 88) (.t 98) (.c .bool false), none, [], []⟩]) (innkeepref06_May.c34)) (innkeepref06_May.c33))) (innkeepref06_May.c32)
def innkeepref06_May.c27 : Cd := .tidy [] [] [] (some 1)
def innkeepref06_May.c26 : Cd := .seq (.seq (.seq (.seq (.reg false [⟨some 76, .move (.t 5), none, [], []⟩,
    ⟨some 77, .bin .lss (.t 76) (.c (.int .i64) (4 : Int)), none, [], []⟩]) (innkeepref06_May.c30)) (innkeepref06_May.c29)) (innkeepref06_May.c28)) (innkeepref06_May.c27)
def innkeepref06_May.c25 : Cd := .block 2 (.loop (innkeepref06_May.c26))
def innkeepref06_May.c47 : Cd := .tidy [100, 101, 102, 103] [] [] none
def innkeepref06_May.c48 : Cd := .skip
def innkeepref06_May.c56 : Cd := .exit 4
def innkeepref06_May.c46 : Cd := .cond (.t 104) (.seq (.tidy [104] [] [] none) (innkeepref06_May.c48)) (.seq (.tidy [104] [] [] none) (innkeepref06_May.c56))
def innkeepref06_May.c51 : Cd := .tidy [107, 108, 109, 110, 111, 112] [] [] none
def innkeepref06_May.c53 : Cd := .tidy [114, 115] [] [] none
def innkeepref06_May.c52 : Cd := .seq (.reg false [⟨some 114, .move (.t 6), none, [], []⟩,
    ⟨some 115, .bin .add (.t 114) (.c (.int .i64) (1 : Int)), none, [], []⟩,
    ⟨some 6, .move (.t 115), none, [], []⟩]) (innkeepref06_May.c53)
def innkeepref06_May.c55 : Cd := .skip
def innkeepref06_May.c50 : Cd := .cond (.t 113) (.seq (.tidy [113] [] [] none) (innkeepref06_May.c52)) (.seq (.tidy [113] [] [] none) (innkeepref06_May.c55))
def innkeepref06_May.c54 : Cd := .tidy [105, 106] [] [] none
def innkeepref06_May.c49 : Cd := .seq (.reg false [⟨some 105, .move (.t 7), none, [], []⟩,
    ⟨some 106, .bin .add (.t 105) (.c (.int .i64) (1 : Int)), none, [], []⟩,
    ⟨some 7, .move (.t 106), none, [], []⟩]) (innkeepref06_May.c54)
def innkeepref06_May.c45 : Cd := .seq (.block 5 (.seq (.seq (.reg false [⟨some 107, .fieldAddr (.d tDesc) 3 (.t 1), none, [], []⟩,
    ⟨some 108, .load (.d (.sl (.int .i64))) (.t 107), none, [], []⟩,
    ⟨some 109, .move (.t 7), none, [], []⟩,
    ⟨some 110, .index (.sl (.int .i64)) (.t 108) (.t 109), none, [], []⟩,
    ⟨some 111, .load (.d (.int .i64)) (.t 110), none, [], []⟩,
    ⟨some 112, .move (.t 4), none, [], []⟩,
    ⟨some 113, .bin .eql (.t 111) (.t 112), none, [], []⟩]) (innkeepref06_May.c51)) (innkeepref06_May.c50))) (innkeepref06_May.c49)
def innkeepref06_May.c44 : Cd := .tidy [] [] [] (some 1)
def innkeepref06_May.c43 : Cd := .seq (.seq (.seq (.seq (.reg false [⟨some 100, .move (.t 7), none, [], []⟩,
    ⟨some 101, .fieldAddr (.d tDesc) 3 (.t 1), none, [], []⟩,
    ⟨some 102, .load (.d (.sl (.int .i64))) (.t 101), none, [], []⟩,
    ⟨some 103, .len (.t 102), none, [], []⟩,
    ⟨some 104, .bin .lss (.t 100) (.t 103), none, [], []⟩]) (innkeepref06_May.c47)) (innkeepref06_May.c46)) (innkeepref06_May.c45)) (innkeepref06_May.c44)
def innkeepref06_May.c42 : Cd := .block 4 (.loop (innkeepref06_May.c43))
def innkeepref06_May.c58 : Cd := .tidy [116, 117, 118] [] [] none
def innkeepref06_May.c60 : Cd := .ret
def innkeepref06_May.c59 : Cd := .seq (.reg false [⟨some 2, .move (.c .bool false), none, [], []⟩]) (innkeepref06_May.c60)
def innkeepref06_May.c61 : Cd := .skip
def innkeepref06_May.c57 : Cd := .cond (.t 119) (.seq (.tidy [119] [] [] none) (innkeepref06_May.c59)) (.seq (.tidy [119] [] [] none) (innkeepref06_May.c61))
def innkeepref06_May.c41 : Cd := .seq (.seq (.reg false [⟨some 116, .move (.t 6), none, [], []⟩,
    ⟨some 117, .fieldAddr (.d tDesc) 5 (.t 1), none, [], []⟩,
    ⟨some 118, .load (.d (.int .i64)) (.t 117), none, [], []⟩,
    ⟨some 119, .bin .gtr (.t 116) (.t 118), none, [], []⟩]) (innkeepref06_May.c58)) (innkeepref06_May.c57)
def innkeepref06_May.c40 : Cd := .seq (.seq (.reg false [⟨some 7, .move (.c (.int .i64) (0 : Int)), none, [], []⟩]) (innkeepref06_May.c42)) (innkeepref06_May.c41)
def innkeepref06_May.c24 : Cd := .seq (.reg false [⟨some 6, .move (.c (.int .i64) (0 : Int)), none, [], []⟩]) (innkeepref06_May.c40)
def innkeepref06_May.c62 : Cd := .tidy [74, 75] [] [] none
def innkeepref06_May.c23 : Cd := .seq (.reg false [⟨some 74, .move (.t 4), none, [], []⟩,
    ⟨some 75, .bin .add (.t 74) (.c (.int .i64) (1 : Int)), none, [], []⟩,
    ⟨some 4, .move (.t 75), none, [], []⟩]) (innkeepref06_May.c62)
def innkeepref06_May.c19 : Cd := .seq (.block 1 (.seq (.seq (.reg false [⟨some 5, .move (.c (.int .i64) (0 : Int)), none, [], []⟩]) (innkeepref06_May.c25)) (innkeepref06_May.c24))) (innkeepref06_May.c23)
def innkeepref06_May.c18 : Cd := .tidy [5, 6, 7] [] [] (some 1)
def innkeepref06_May.c17 : Cd := .seq (.seq (.seq (.seq (.reg false [⟨some 71, .move (.t 4), none, [], []⟩,
    ⟨some 72, .move (.t 3), none, [], []⟩,
    ⟨some 73, .bin .lss (.t 71) (.t 72), none, [], []⟩]) (innkeepref06_May.c21)) (innkeepref06_May.c20)) (innkeepref06_May.c19)) (innkeepref06_May.c18)
def innkeepref06_May.c16 : Cd := .block 0 (.loop (innkeepref06_May.c17))
def innkeepref06_May.c70 : Cd := .tidy [120, 121, 122, 123] [] [] none
def innkeepref06_May.c71 : Cd := .skip
def innkeepref06_May.c79 : Cd := .exit 6
def innkeepref06_May.c69 : Cd := .cond (.t 124) (.seq (.tidy [124] [] [] none) (innkeepref06_May.c71)) (.seq (.tidy [124] [] [] none) (innkeepref06_May.c79))
def innkeepref06_May.c74 : Cd := .tidy [127, 128, 129, 130, 131, 132, 133, 134, 135, 136, 137, 138, 139, 140, 141, 142] [] [] none
def innkeepref06_May.c76 : Cd := .ret
def innkeepref06_May.c75 : Cd := .seq (.reg false [⟨some 2, .move (.c .bool false), none, [], []⟩]) (innkeepref06_May.c76)
def innkeepref06_May.c77 : Cd := .skip
def innkeepref06_May.c73 : Cd := .cond (.t 143) (.seq (.tidy [143] [] [] none) (innkeepref06_May.c75)) (.seq (.tidy [143] [] [] none) (innkeepref06_May.c77))
def innkeepref06_May.c78 : Cd := .tidy [125, 126] [] [] none
def innkeepref06_May.c72 : Cd := .seq (.reg false [⟨some 125, .move (.t 8), none, [], []⟩,
    ⟨some 126, .bin .add (.t 125) (.c (.int .i64) (1 : Int)), none, [], []⟩,
    ⟨some 8, .move (.t 126), none, [], []⟩]) (innkeepref06_May.c78)
def innkeepref06_May.c68 : Cd := .seq (.block 7 (.seq (.seq (.reg false [⟨some 127, .fieldAddr (.d tDesc) 1 (.t 1), none, [], []⟩,
    ⟨some 128, .load (.d (.sl (.int .i64))) (.t 127), none, [], []⟩,
    ⟨some 129, .move (.t 8), none, [], []⟩,
    ⟨some 130, .index (.sl (.int .i64)) (.t 128) (.t 129), none, [], []⟩,
    ⟨some 131, .load (.d (.int .i64)) (.t 130), none, [], []⟩,
    ⟨some 132, .move (.t 3), none, [], []⟩,
    ⟨some 133, .call (.f 30) [(.t 131), (.t 132)] [.d .bool] [] false, none, [], []⟩,
    ⟨some 134, .not (.t 133), none, [], []⟩,
    ⟨some 135, .move (.t 134), none, [], []⟩,
    ⟨some 136, .fieldAddr (.d tDesc) 2 (.t 1), some (135, false), [], []⟩,
    ⟨some 137, .load (.d (.sl (.int .i64))) (.t 136), some (135, false), [], []⟩,
    ⟨some 138, .move (.t 8), some (135, false), [], []⟩,
    ⟨some 139, .index (.sl (.int .i64)) (.t 137) (.t 138), some (135, false), [], []⟩,
    ⟨some 140, .load (.d (.int .i64)) (.t 139), some (135, false), [], []⟩,
    ⟨some 141, .call (.f 31) [(.t 140)] [.d .bool] [] false, some (135, false), [], []⟩,
    ⟨some 142, .not (.t 141), some (135, false), [], []⟩,
    ⟨some 143, .pick (.t 135) (.c .bool true) (.t 142), none, [], []⟩]) (innkeepref06_May.c74)) (innkeepref06_May.c73))) (innkeepref06_May.c72)
def innkeepref06_May.c67 : Cd := .tidy [] [] [] (some 1)
def innkeepref06_May.c66 : Cd := .seq (.seq (.seq (.seq (.reg false [⟨some 120, .move (.t 8), none, [], []⟩,
    ⟨some 121, .fieldAddr (.d tDesc) 1 (.t 1), none, [], []⟩,
    ⟨some 122, .load (.d (.sl (.int .i64))) (.t 121), none, [], []⟩,
    ⟨some 123, .len (.t 122), none, [], []⟩,
    ⟨some 124, .bin .lss (.t 120) (.t 123), none, [], []⟩]) (innkeepref06_May.c70)) (innkeepref06_May.c69)) (innkeepref06_May.c68)) (innkeepref06_May.c67)
def innkeepref06_May.c65 : Cd := .block 6 (.loop (innkeepref06_May.c66))
def innkeepref06_May.c86 : Cd := .tidy [144, 145, 146, 147] [] [] none
def innkeepref06_May.c87 : Cd := .skip
def innkeepref06_May.c95 : Cd := .exit 8
def innkeepref06_May.c85 : Cd := .cond (.t 148) (.seq (.tidy [148] [] [] none) (innkeepref06_May.c87)) (.seq (.tidy [148] [] [] none) (innkeepref06_May.c95))
def innkeepref06_May.c90 : Cd := .tidy [151, 152, 153, 154, 155, 156, 157] [] [] none
def innkeepref06_May.c92 : Cd := .ret
def innkeepref06_May.c91 : Cd := .seq (.reg false [⟨some 2, .move (.c .bool false), none, [], []⟩]) (innkeepref06_May.c92)
def innkeepref06_May.c93 : Cd := .skip
def innkeepref06_May.c89 : Cd := .cond (.t 158) (.seq (.tidy [158] [] [] none) (innkeepref06_May.c91)) (.seq (.tidy [158] [] [] none) (innkeepref06_May.c93))
def innkeepref06_May.c94 : Cd := .tidy [149, 150] [] [] none
def innkeepref06_May.c88 : Cd := .seq (.reg false [⟨some 149, .move (.t 9), none, [], []⟩,
    ⟨some 150, .bin .add (.t 149) (.c (.int .i64) (1 : Int)), none, [], []⟩,
    ⟨some 9, .move (.t 150), none, [], []⟩]) (innkeepref06_May.c94)
def innkeepref06_May.c84 : Cd := .seq (.block 9 (.seq (.seq (.reg false [⟨some 151, .fieldAddr (.d tDesc) 3 (.t 1), none, [], []⟩,
    ⟨some 152, .load (.d (.sl (.int .i64))) (.t 151), none, [], []⟩,
    ⟨some 153, .move (.t 9), none, [], []⟩,
    ⟨some 154, .index (.sl (.int .i64)) (.t 152) (.t 153), none, [], []⟩,
    ⟨some 155, .load (.d (.int .i64)) (.t 154), none, [], []⟩,
    ⟨some 156, .move (.t 3), none, [], []⟩,
    ⟨some 157, .call (.f 30) [(.t 155), (.t 156)] [.d .bool] [] false, none, [], []⟩,
    ⟨some 158, .not (.t 157), none, [], []⟩]) (innkeepref06_May.c90)) (innkeepref06_May.c89))) (innkeepref06_May.c88)
def innkeepref06_May.c83 : Cd := .tidy [] [] [] (some 1)
def innkeepref06_May.c82 : Cd := .seq (.seq (.seq (.seq (.reg false [⟨some 144, .move (.t 9), none, [], []⟩,
    ⟨some 145, .fieldAddr (.d tDesc) 3 (.t 1), none, [], []⟩,
    ⟨some 146, .load (.d (.sl (.int .i64))) (.t 145), none, [], []⟩,
    ⟨some 147, .len (.t 146), none, [], []⟩,
    ⟨some 148, .bin .lss (.t 144) (.t 147), none, [], []⟩]) (innkeepref06_May.c86)) (innkeepref06_May.c85)) (innkeepref06_May.c84)) (innkeepref06_May.c83)
def innkeepref06_May.c81 : Cd := .block 8 (.loop (innkeepref06_May.c82))
def innkeepref06_May.c96 : Cd := .ret
def innkeepref06_May.c80 : Cd := .seq (.reg false [⟨some 2, .move (.c .bool true), none, [], []⟩]) (innkeepref06_May.c96)
def innkeepref06_May.c64 : Cd := .seq (.seq (.reg false [⟨some 9, .move (.c (.int .i64) (0 : Int)), none, [], []⟩]) (innkeepref06_May.c81)) (innkeepref06_May.c80)
def innkeepref06_May.c15 : Cd := .seq (.seq (.reg false [⟨some 8, .move (.c (.int .i64) (0 : Int)), none, [], []⟩]) (innkeepref06_May.c65)) (innkeepref06_May.c64)
def innkeepref06_May.c9 : Cd := .seq (.seq (.reg false [⟨some 4, .move (.c (.int .i64) (0 : Int)), none, [], []⟩]) (innkeepref06_May.c16)) (innkeepref06_May.c15)
def innkeepref06_May.c3 : Cd := .seq (.seq (.seq (.reg false [⟨some 55, .fieldAddr (.d tDesc) 5 (.t 1), none, [], []⟩,
    ⟨some 56, .load (.d (.int .i64)) (.t 55), none, [], []⟩,
    ⟨some 57, .call (.f 30) [(.t 56), (.c (.int .i64) (65 : Int))] [.d .bool] [] false, none, [], []⟩,
    ⟨some 58, .not (.t 57), none, [], []⟩,
    ⟨some 59, .move (.t 58), none, [], []⟩,
    ⟨some 60, .fieldAddr (.d tDesc) 6 (.t 1), some (59, false), [], []⟩,
    ⟨some 61, .load (.d (.int .i64)) (.t 60), some (59, false), [], []⟩,
    ⟨some 62, .call (.f 30) [(.t 61), (.c (.int .i64) (65 : Int))] [.d .bool] [] false, some (59, false), [], []⟩,
    ⟨some 63, .not (.t 62), some (59, false), [], []⟩,
    ⟨some 64, .pick (.t 59) (.c .bool true) (.t 63), none, [], []⟩,
    ⟨some 65, .move (.t 64), none, [], []⟩,
    ⟨some 66, .fieldAddr (.d tDesc) 7 (.t 1), some (65, false), [], []⟩,
    ⟨some 67, .load (.d (.int .i64)) (.t 66), some (65, false), [], []⟩,
    ⟨some 68, .call (.f 30) [(.t 67), (.c (.int .i64) (65 : Int))] [.d .bool] [] false, some (65, false), [], []⟩,
    ⟨some 69, .not (.t 68), some (65, false), [], []⟩,
    ⟨some 70, .pick (.t 65) (.c .bool true) (.t 69), none, [], []⟩]) (innkeepref06_May.c11)) (innkeepref06_May.c10)) (innkeepref06_May.c9)
def innkeepref06_May.c1 : Cd := .seq (.seq (.seq (.reg false [⟨some 13, .move (.t 3), none, [], []⟩,
    ⟨some 14, .bin .lss (.t 13) (.c (.int .i64) (1 : Int)), none, [], []⟩,
    ⟨some 15, .move (.t 14), none, [], []⟩,
    ⟨some 16, .move (.t 3), some (15, false), [], []⟩,
    ⟨some 17, .bin .gtr (.t 16) (.c (.int .i64) (8 : Int)), some (15, false), [], []⟩,
    ⟨some 18, .pick (.t 15) (.c .bool true) (.t 17), none, [], []⟩,
    ⟨some 19, .move (.t 18), none, [], []⟩,
    ⟨some 20, .fieldAddr (.d tDesc) 1 (.t 1), some (19, false), [], []⟩,
    ⟨some 21, .load (.d (.sl (.int .i64))) (.t 20), some (19, false), [], []⟩,
    ⟨some 22, .len (.t 21), some (19, false), [], []⟩,
    ⟨some 23, .bin .lss (.t 22) (.c (.int .i64) (1 : Int)), some (19, false), [], []⟩,
    ⟨some 24, .pick (.t 19) (.c .bool true) (.t 23), none, [], []⟩,
    ⟨some 25, .move (.t 24), none, [], []⟩,
    ⟨some 26, .fieldAddr (.d tDesc) 1 (.t 1), some (25, false), [], []⟩,
    ⟨some 27, .load (.d (.sl (.int .i64))) (.t 26), some (25, false), [], []⟩,
    ⟨some 28, .len (.t 27), some (25, false), [], []⟩,
    ⟨some 29, .bin .gtr (.t 28) (.c (.int .i64) (6 : Int)), some (25, false), [], []⟩,
    ⟨some 30, .pick (.t 25) (.c .bool true) (.t 29), none, [], []⟩,
    ⟨some 31, .move (.t 30), none, [], []⟩,
    ⟨some 32, .fieldAddr (.d tDesc) 2 (.t 1), some (31, false), [], []⟩,
    ⟨some 33, .load (.d (.sl (.int .i64))) (.t 32), some (31, false), [], []⟩,
    ⟨some 34, .len (.t 33), some (31, false), [], []⟩,
    ⟨some 35, .fieldAddr (.d tDesc) 1 (.t 1), some (31, false), [], []⟩,
    ⟨some 36, .load (.d (.sl (.int .i64))) (.t 35), some (31, false), [], []⟩,
    ⟨some 37, .len (.t 36), some (31, false), [], []⟩,
    ⟨some 38, .bin .neq (.t 34) (.t 37), some (31, false), [], []⟩,
    ⟨some 39, .pick (.t 31) (.c .bool true) (.t 38), none, [], []⟩,
    ⟨some 40, .move (.t 39), none, [], []⟩,
    ⟨some 41, .fieldAddr (.d tDesc) 3 (.t 1), some (40, false), [], []⟩,
    ⟨some 42, .load (.d (.sl (.int .i64))) (.t 41), some (40, false), [], []⟩,
    ⟨some 43, .len (.t 42), some (40, false), [], []⟩,
    ⟨some 44, .bin .gtr (.t 43) (.c (.int .i64) (16 : Int)), some (40, false), [], []⟩,
    ⟨some 45, .pick (.t 40) (.c .bool true) (.t 44), none, [], []⟩,
    ⟨some 46, .move (.t 45), none, [], []⟩,
    ⟨some 47, .fieldAddr (.d tDesc) 4 (.t 1), some (46, false), [], []⟩,
    ⟨some 48, .load (.d (.sl .bool)) (.t 47), some (46, false), [], []⟩,
    ⟨some 49, .len (.t 48), some (46, false), [], []⟩,
    ⟨some 50, .fieldAddr (.d tDesc) 3 (.t 1), some (46, false), [], []⟩,
    ⟨some 51, .load (.d (.sl (.int .i64))) (.t 50), some (46, false), [], []⟩,
    ⟨some 52, .len (.t 51), some (46, false), [], []⟩,
    ⟨some 53, .bin .neq (.t 49) (.t 52), some (46, false), [], []⟩,
    ⟨some 54, .pick (.t 46) (.c .bool true) (.t 53), none, [], []⟩]) (innkeepref06_May.c5)) (innkeepref06_May.c4)) (innkeepref06_May.c3)
def innkeepref06_May.c0 : Cd := .seq (.seq (.reg false [⟨some 10, .fieldAddr (.d tDesc) 0 (.t 1), none, [], []⟩,
    ⟨some 11, .load (.d (.sl (.arr 4 (.int .i64)))) (.t 10), none, [], []⟩,
    ⟨some 12, .len (.t 11), none, [], []⟩,
    ⟨some 3, .move (.t 12), none, [], []⟩]) (innkeepref06_May.c2)) (innkeepref06_May.c1)
def innkeepref06_May.fn : Fn := ⟨1, [.tmp 2], .seq (.reg false [⟨some 1, .box 0 (.t 0), none, [], []⟩,
    ⟨some 2, .move (.c .bool false), none, [], []⟩]) (innkeepref06_May.c0)⟩
def innkeepref06_Depth.c7 : Cd := .tidy [6, 7] [] [] none
def innkeepref06_Depth.c8 : Cd := .skip
def innkeepref06_Depth.c18 : Cd := .exit 0
def innkeepref06_Depth.c6 : Cd := .cond (.t 8) (.seq (.tidy [8] [] [] none) (innkeepref06_Depth.c8)) (.seq (.tidy [8] [] [] none) (innkeepref06_Depth.c18))
def innkeepref06_Depth.c10 : Cd := .tidy [9, 10] [] [] none
def innkeepref06_Depth.c13 : Cd := .tidy [11] [] [] none
def innkeepref06_Depth.c15 : Cd := .ret
def innkeepref06_Depth.c14 : Cd := .seq (.reg false [⟨some 4, .move (.c (.int .i64) (99 : Int)), none, [], []⟩]) (innkeepref06_Depth.c15)
def innkeepref06_Depth.c16 : Cd := .skip
def innkeepref06_Depth.c12 : Cd := .cond (.t 12) (.seq (.tidy [12] [] [] none) (innkeepref06_Depth.c14)) (.seq (.tidy [12] [] [] none) (innkeepref06_Depth.c16))
def innkeepref06_Depth.c17 : Cd := .tidy [13, 14, 15, 16, 17, 18] [] [] none
def innkeepref06_Depth.c11 : Cd := .seq (.reg false [⟨some 13, .fieldAddr (.d tWorld) 3 (.t 2), none, [], []⟩,
    ⟨some 14, .load (.d (.sl tPlace)) (.t 13), none, [], []⟩,
    ⟨some 15, .fieldAddr (.d tPlace) 1 (.t 3), none, [], []⟩,
    ⟨some 16, .load (.d (.int .i64)) (.t 15), none, [], []⟩,
    ⟨some 17, .index (.sl tPlace) (.t 14) (.t 16), none, [], []⟩,
    ⟨some 18, .load (.d tPlace) (.t 17), none, [], []⟩,
    ⟨none, .store (.d tPlace) (.t 3) (.t 18), none, [], []⟩]) (innkeepref06_Depth.c17)
def innkeepref06_Depth.c9 : Cd := .seq (.seq (.seq (.reg false [⟨some 11, .move (.t 5), none, [], []⟩,
    ⟨some 12, .bin .gtr (.t 11) (.c (.int .i64) (50 : Int)), none, [], []⟩]) (innkeepref06_Depth.c13)) (innkeepref06_Depth.c12)) (innkeepref06_Depth.c11)
def innkeepref06_Depth.c5 : Cd := .block 1 (.seq (.seq (.reg false [⟨some 9, .move (.t 5), none, [], []⟩,
    ⟨some 10, .bin .add (.t 9) (.c (.int .i64) (1 : Int)), none, [], []⟩,
    ⟨some 5, .move (.t 10), none, [], []⟩]) (innkeepref06_Depth.c10)) (innkeepref06_Depth.c9))
def innkeepref06_Depth.c4 : Cd := .tidy [] [] [] (some 2)
def innkeepref06_Depth.c3 : Cd := .seq (.seq (.seq (.seq (.reg false [⟨some 6, .fieldAddr (.d tPlace) 0 (.t 3), none, [], []⟩,
    ⟨some 7, .load (.d (.int .i64)) (.t 6), none, [], []⟩,
    ⟨some 8, .bin .eql (.t 7) (.c (.int .i64) (2 : Int)), none, [], []⟩]) (innkeepref06_Depth.c7)) (innkeepref06_Depth.c6)) (innkeepref06_Depth.c5)) (innkeepref06_Depth.c4)
def innkeepref06_Depth.c20 : Cd := .tidy [19] [] [] none
def innkeepref06_Depth.c19 : Cd := .ret
def innkeepref06_Depth.c2 : Cd := .seq (.seq (.reg false [⟨some 19, .move (.t 5), none, [], []⟩,
    ⟨some 4, .move (.t 19), none, [], []⟩]) (innkeepref06_Depth.c20)) (innkeepref06_Depth.c19)
def innkeepref06_Depth.c1 : Cd := .seq (.block 0 (.loop (innkeepref06_Depth.c3))) (innkeepref06_Depth.c2)
def innkeepref06_Depth.c0 : Cd := .seq (.reg false [⟨some 5, .move (.c (.int .i64) (0 : Int)), none, [], []⟩]) (innkeepref06_Depth.c1)
def innkeepref06_Depth.fn : Fn := ⟨2, [.tmp 4], .seq (.reg false [⟨some 2, .box 0 (.t 0), none, [], []⟩,
    ⟨some 3, .box 1 (.t 1), none, [], []⟩,
    ⟨some 4, .move (.c (.int .i64) (0 : Int)), none, [], []⟩]) (innkeepref06_Depth.c0)⟩
def innkeepref06_Many.c8 : Cd := .tidy [7, 8, 9, 10] [] [] none
def innkeepref06_Many.c9 : Cd := .skip
def innkeepref06_Many.c17 : Cd := .exit 0
def innkeepref06_Many.c7 : Cd := .cond (.t 11) (.seq (.tidy [11] [] [] none) (innkeepref06_Many.c9)) (.seq (.tidy [11] [] [] none) (innkeepref06_Many.c17))
def innkeepref06_Many.c12 : Cd := .tidy [14, 15, 16, 17, 18, 19] [] [] none
def innkeepref06_Many.c14 : Cd := .tidy [21, 22] [] [] none
def innkeepref06_Many.c13 : Cd := .seq (.reg false [⟨some 21, .move (.t 5), none, [], []⟩,
    ⟨some 22, .bin .add (.t 21) (.c (.int .i64) (1 : Int)), none, [], []⟩,
    ⟨some 5, .move (.t 22), none, [], []⟩]) (innkeepref06_Many.c14)
def innkeepref06_Many.c16 : Cd := .skip
def innkeepref06_Many.c11 : Cd := .cond (.t 20) (.seq (.tidy [20] [] [] none) (innkeepref06_Many.c13)) (.seq (.tidy [20] [] [] none) (innkeepref06_Many.c16))
def innkeepref06_Many.c15 : Cd := .tidy [12, 13] [] [] none
def innkeepref06_Many.c10 : Cd := .seq (.reg false [⟨some 12, .move (.t 6), none, [], []⟩,
    ⟨some 13, .bin .add (.t 12) (.c (.int .i64) (1 : Int)), none, [], []⟩,
    ⟨some 6, .move (.t 13), none, [], []⟩]) (innkeepref06_Many.c15)
def innkeepref06_Many.c6 : Cd := .seq (.block 1 (.seq (.seq (.reg true [⟨some 14, .fieldAddr (.d tWorld) 3 (.t 2), none, [0], []⟩,
    ⟨some 15, .load (.d (.sl tPlace)) (.t 14), none, [0], []⟩,
    ⟨some 16, .move (.t 6), none, [], []⟩,
    ⟨some 17, .index (.sl tPlace) (.t 15) (.t 16), none, [], []⟩,
    ⟨some 18, .load (.d tPlace) (.t 17), none, [], []⟩,
    ⟨some 19, .load (.d tPlace) (.t 3), none, [1], []⟩,
    ⟨some 20, .eqs tPlace false (.t 18) (.t 19), none, [], []⟩]) (innkeepref06_Many.c12)) (innkeepref06_Many.c11))) (innkeepref06_Many.c10)
def innkeepref06_Many.c5 : Cd := .tidy [] [] [] (some 2)
def innkeepref06_Many.c4 : Cd := .seq (.seq (.seq (.seq (.reg false [⟨some 7, .move (.t 6), none, [], []⟩,
    ⟨some 8, .fieldAddr (.d tWorld) 3 (.t 2), none, [], []⟩,
    ⟨some 9, .load (.d (.sl tPlace)) (.t 8), none, [], []⟩,
    ⟨some 10, .len (.t 9), none, [], []⟩,
    ⟨some 11, .bin .lss (.t 7) (.t 10), none, [], []⟩]) (innkeepref06_Many.c8)) (innkeepref06_Many.c7)) (innkeepref06_Many.c6)) (innkeepref06_Many.c5)
def innkeepref06_Many.c3 : Cd := .block 0 (.loop (innkeepref06_Many.c4))
def innkeepref06_Many.c19 : Cd := .tidy [23] [] [] none
def innkeepref06_Many.c18 : Cd := .ret
def innkeepref06_Many.c2 : Cd := .seq (.seq (.reg false [⟨some 23, .move (.t 5), none, [], []⟩,
    ⟨some 4, .move (.t 23), none, [], []⟩]) (innkeepref06_Many.c19)) (innkeepref06_Many.c18)
def innkeepref06_Many.c1 : Cd := .seq (.seq (.reg false [⟨some 6, .move (.c (.int .i64) (0 : Int)), none, [], []⟩]) (innkeepref06_Many.c3)) (innkeepref06_Many.c2)
def innkeepref06_Many.c0 : Cd := .seq (.reg false [⟨some 5, .move (.c (.int .i64) (0 : Int)), none, [], []⟩]) (innkeepref06_Many.c1)
def innkeepref06_Many.fn : Fn := ⟨2, [.tmp 4], .seq (.reg false [⟨some 2, .box 0 (.t 0), none, [], []⟩,
    ⟨some 3, .box 1 (.t 1), none, [], []⟩,
    ⟨some 4, .move (.c (.int .i64) (0 : Int)), none, [], []⟩]) (innkeepref06_Many.c0)⟩
def innkeepref06_Cap.c2 : Cd := .tidy [5, 6, 7, 8, 9, 10, 11, 12, 13, 14, 15, 16, 17, 18] [] [] none
def innkeepref06_Cap.c1 : Cd := .ret
def innkeepref06_Cap.c0 : Cd := .seq (.seq (.reg false [⟨some 5, .fieldAddr (.d tWorld) 0 (.t 2), none, [], []⟩,
    ⟨some 6, .fieldAddr (.d tDesc) 5 (.t 5), none, [], []⟩,
    ⟨some 7, .load (.d (.int .i64)) (.t 6), none, [], []⟩,
    ⟨some 8, .fieldAddr (.d tWorld) 0 (.t 2), none, [], []⟩,
    ⟨some 9, .fieldAddr (.d tDesc) 6 (.t 8), none, [], []⟩,
    ⟨some 10, .load (.d (.int .i64)) (.t 9), none, [], []⟩,
    ⟨some 11, .fieldAddr (.d tWorld) 0 (.t 2), none, [], []⟩,
    ⟨some 12, .fieldAddr (.d tDesc) 7 (.t 11), none, [], []⟩,
    ⟨some 13, .load (.d (.int .i64)) (.t 12), none, [], []⟩,
    ⟨some 14, .slice 2 (.int .i64) [(.t 7), (.t 10), (.t 13)], none, [], []⟩,
    ⟨some 15, .fieldAddr (.d tPlace) 0 (.t 3), none, [], []⟩,
    ⟨some 16, .load (.d (.int .i64)) (.t 15), none, [], []⟩,
    ⟨some 17, .index (.sl (.int .i64)) (.t 14) (.t 16), none, [], []⟩,
    ⟨some 18, .load (.d (.int .i64)) (.t 17), none, [], []⟩,
    ⟨some 4, .move (.t 18), none, [], []⟩]) (innkeepref06_Cap.c2)) (innkeepref06_Cap.c1)
def innkeepref06_Cap.fn : Fn := ⟨2, [.tmp 4], .seq (.reg false [⟨some 2, .box 0 (.t 0), none, [], []⟩,
    ⟨some 3, .box 1 (.t 1), none, [], []⟩,
    ⟨some 4, .move (.c (.int .i64) (0 : Int)), none, [], []⟩]) (innkeepref06_Cap.c0)⟩
def innkeepref06_Right.c2 : Cd := .tidy [9, 10] [] [] none
def innkeepref06_Right.c5 : Cd := .tidy [11, 12, 13, 14, 15, 16, 17, 18, 19, 20, 21, 22, 23, 24, 25, 26, 27, 28, 29, 30, 31, 32, 33, 34, 35, 36, 37, 38, 39] [] [] none
def innkeepref06_Right.c7 : Cd := .ret
def innkeepref06_Right.c6 : Cd := .seq (.reg false [⟨some 2, .move (.c .bool false), none, [], []⟩]) (innkeepref06_Right.c7)
def innkeepref06_Right.c8 : Cd := .skip
def innkeepref06_Right.c4 : Cd := .cond (.t 40) (.seq (.tidy [40] [] [] none) (innkeepref06_Right.c6)) (.seq (.tidy [40] [] [] none) (innkeepref06_Right.c8))
def innkeepref06_Right.c15 : Cd := .tidy [41, 42, 43, 44] [] [] none
def innkeepref06_Right.c16 : Cd := .skip
def innkeepref06_Right.c24 : Cd := .exit 0
def innkeepref06_Right.c14 : Cd := .cond (.t 45) (.seq (.tidy [45] [] [] none) (innkeepref06_Right.c16)) (.seq (.tidy [45] [] [] none) (innkeepref06_Right.c24))
def innkeepref06_Right.c19 : Cd := .tidy [48, 49, 50, 51, 52, 53, 54, 55, 56, 57, 58, 59, 60, 61, 62, 63, 64, 65] [] [] none
def innkeepref06_Right.c21 : Cd := .ret
def innkeepref06_Right.c20 : Cd := .seq (.reg false [⟨some 2, .move (.c .bool false), none, [], []⟩]) (innkeepref06_Right.c21)
def innkeepref06_Right.c22 : Cd := .skip
def innkeepref06_Right.c18 : Cd := .cond (.t 66) (.seq (.tidy [66] [] [] none) (innkeepref06_Right.c20)) (.seq (.tidy [66] [] [] none) (innkeepref06_Right.c22))
def innkeepref06_Right.c23 : Cd := .tidy [46, 47] [] [] none
def innkeepref06_Right.c17 : Cd := .seq (.reg false [⟨some 46, .move (.t 4), none, [], []⟩,
    ⟨some 47, .bin .add (.t 46) (.c (.int .i64) (1 : Int)), none, [], []⟩,
    ⟨some 4, .move (.t 47), none, [], []⟩]) (innkeepref06_Right.c23)
def innkeepref06_Right.c13 : Cd := .seq (.block 1 (.seq (.seq (.reg true [⟨some 48, .fieldAddr (.d tWorld) 1 (.t 1), none, [0], []⟩,
    ⟨some 49, .load (.d (.sl (.int .i64))) (.t 48), none, [0], []⟩,
    ⟨some 50, .move (.t 4), none, [], []⟩,
    ⟨some 51, .index (.sl (.int .i64)) (.t 49) (.t 50), none, [], []⟩,
    ⟨some 52, .load (.d (.int .i64)) (.t 51), none, [], []⟩,
    ⟨some 53, .fieldAddr (.d tDesc) 0 (.t 3), none, [1], []⟩,
    ⟨some 54, .load (.d (.sl (.arr 4 (.int .i64)))) (.t 53), none, [1], []⟩,
    ⟨some 55, .len (.t 54), none, [], []⟩,
    ⟨some 56, .call (.f 30) [(.t 52), (.t 55)] [.d .bool] [] false, none, [], []⟩,
    ⟨some 57, .not (.t 56), none, [], []⟩,
    ⟨some 58, .move (.t 57), none, [], []⟩,
    ⟨some 59, .fieldAddr (.d tWorld) 2 (.t 1), some (58, false), [0], []⟩,
    ⟨some 60, .load (.d (.sl (.int .i64))) (.t 59), some (58, false), [0], []⟩,
    ⟨some 61, .move (.t 4), some (58, false), [], []⟩,
    ⟨some 62, .index (.sl (.int .i64)) (.t 60) (.t 61), some (58, false), [], []⟩,
    ⟨some 63, .load (.d (.int .i64)) (.t 62), some (58, false), [], []⟩,
    ⟨some 64, .call (.f 31) [(.t 63)] [.d .bool] [] false, some (58, false), [], []⟩,
    ⟨some 65, .not (.t 64), some (58, false), [], []⟩,
    ⟨some 66, .pick (.t 58) (.c .bool true) (.t 65), none, [], []⟩]) (innkeepref06_Right.c19)) (innkeepref06_Right.c18))) (innkeepref06_Right.c17)
def innkeepref06_Right.c12 : Cd := .tidy [] [] [] (some 2)
def innkeepref06_Right.c11 : Cd := .seq (.seq (.seq (.seq (.reg false [⟨some 41, .move (.t 4), none, [], []⟩,
    ⟨some 42, .fieldAddr (.d tWorld) 1 (.t 1), none, [], []⟩,
    ⟨some 43, .load (.d (.sl (.int .i64))) (.t 42), none, [], []⟩,
    ⟨some 44, .len (.t 43), none, [], []⟩,
    ⟨some 45, .bin .lss (.t 41) (.t 44), none, [], []⟩]) (innkeepref06_Right.c15)) (innkeepref06_Right.c14)) (innkeepref06_Right.c13)) (innkeepref06_Right.c12)
def innkeepref06_Right.c10 : Cd := .block 0 (.loop (innkeepref06_Right.c11))
def innkeepref06_Right.c31 : Cd := .tidy [67, 68, 69, 70] [] [] none
def innkeepref06_Right.c32 : Cd := .skip
def innkeepref06_Right.c44 : Cd := .exit 2
def innkeepref06_Right.c30 : Cd := .cond (.t 71) (.seq (.tidy [71] [] [] none) (innkeepref06_Right.c32)) (.seq (.tidy [71] [] [] none) (innkeepref06_Right.c44))
def innkeepref06_Right.c35 : Cd := .tidy [74, 75, 76, 77, 78] [] [] none
def innkeepref06_Right.c37 : Cd := .tidy [79, 80, 81, 82, 83, 84, 85, 86, 87, 88, 89, 90, 91, 92, 93, 94, 95, 96, 97, 98, 99, 100, 101, 102, 103, 104, 105, 106, 107, 108, 109, 110, 111, 112, 113, 114, 115, 116, 117, 118, 119, 120, 121, 122, 123] [] [] none
def innkeepref06_Right.c39 : Cd := .tidy [124] [] [] none
def innkeepref06_Right.c43 : Cd := .ret
def innkeepref06_Right.c42 : Cd := .seq (.reg false [⟨some 2, .move (.c .bool false), none, [], []⟩]) (innkeepref06_Right.c43)
def innkeepref06_Right.c40 : Cd := .skip
def innkeepref06_Right.c38 : Cd := .cond (.t 125) (.seq (.tidy [125] [] [] none) (innkeepref06_Right.c42)) (.seq (.tidy [125] [] [] none) (innkeepref06_Right.c40))
def innkeepref06_Right.c36 : Cd := .seq (.seq (.reg false [⟨some 124, .move (.t 7), none, [], []⟩,
    ⟨some 125, .not (.t 124), none, [], []⟩]) (innkeepref06_Right.c39)) (innkeepref06_Right.c38)
def innkeepref06_Right.c34 : Cd := .seq (.seq (.reg false [⟨some 79, .fieldAddr (.d tPlace) 0 (.t 6), none, [], []⟩,
    ⟨some 80, .load (.d (.int .i64)) (.t 79), none, [], []⟩,
    ⟨some 81, .bin .eql (.t 80) (.c (.int .i64) (0 : Int)), none, [], []⟩,
    ⟨some 82, .move (.t 81), none, [], []⟩,
    ⟨some 83, .fieldAddr (.d tPlace) 1 (.t 6), some (82, true), [], []⟩,
    ⟨some 84, .load (.d (.int .i64)) (.t 83), some (82, true), [], []⟩,
    ⟨some 85, .fieldAddr (.d tDesc) 0 (.t 3), some (82, true), [], []⟩,
    ⟨some 86, .load (.d (.sl (.arr 4 (.int .i64)))) (.t 85), some (82, true), [], []⟩,
    ⟨some 87, .len (.t 86), some (82, true), [], []⟩,
    ⟨some 88, .call (.f 30) [(.t 84), (.t 87)] [.d .bool] [] false, some (82, true), [], []⟩,
    ⟨some 89, .pick (.t 82) (.t 88) (.c .bool false), none, [], []⟩,
    ⟨some 90, .move (.t 89), none, [], []⟩,
    ⟨some 91, .fieldAddr (.d tPlace) 0 (.t 6), some (90, false), [], []⟩,
    ⟨some 92, .load (.d (.int .i64)) (.t 91), some (90, false), [], []⟩,
    ⟨some 93, .bin .eql (.t 92) (.c (.int .i64) (1 : Int)), some (90, false), [], []⟩,
    ⟨some 94, .move (.t 93), some (90, false), [], []⟩,
    ⟨some 95, .fieldAddr (.d tPlace) 1 (.t 6), some (94, true), [], []⟩,
    ⟨some 96, .load (.d (.int .i64)) (.t 95), some (94, true), [], []⟩,
    ⟨some 97, .fieldAddr (.d tDesc) 1 (.t 3), some (94, true), [], []⟩,
    ⟨some 98, .load (.d (.sl (.int .i64))) (.t 97), some (94, true), [], []⟩,
    ⟨some 99, .len (.t 98), some (94, true), [], []⟩,
    ⟨some 100, .call (.f 30) [(.t 96), (.t 99)] [.d .bool] [] false, some (94, true), [], []⟩,
    ⟨some 101, .pick (.t 94) (.t 100) (.c .bool false), some (90, false), [], []⟩,
    ⟨some 102, .pick (.t 90) (.c .bool true) (.t 101), none, [], []⟩,
    ⟨some 103, .move (.t 102), none, [], []⟩,
    ⟨some 104, .fieldAddr (.d tPlace) 0 (.t 6), some (103, false), [], []⟩,
    ⟨some 105, .load (.d (.int .i64)) (.t 104), some (103, false), [], []⟩,
    ⟨some 106, .bin .eql (.t 105) (.c (.int .i64) (2 : Int)), some (103, false), [], []⟩,
    ⟨some 107, .move (.t 106), some (103, false), [], []⟩,
    ⟨some 108, .fieldAddr (.d tPlace) 1 (.t 6), some (107, true), [], []⟩,
    ⟨some 109, .load (.d (.int .i64)) (.t 108), some (107, true), [], []⟩,
    ⟨some 110, .fieldAddr (.d tDesc) 3 (.t 3), some (107, true), [], []⟩,
    ⟨some 111, .load (.d (.sl (.int .i64))) (.t 110), some (107, true), [], []⟩,
    ⟨some 112, .len (.t 111), some (107, true), [], []⟩,
    ⟨some 113, .call (.f 30) [(.t 109), (.t 112)] [.d .bool] [] false, some (107, true), [], []⟩,
    ⟨some 114, .pick (.t 107) (.t 113) (.c .bool false), some (103, false), [], []⟩,
    ⟨some 115, .move (.t 114), some (103, false), [], []⟩,
    ⟨some 116, .fieldAddr (.d tDesc) 4 (.t 3), some (115, true), [], []⟩,
    ⟨some 117, .load (.d (.sl .bool)) (.t 116), some (115, true), [], []⟩,
    ⟨some 118, .fieldAddr (.d tPlace) 1 (.t 6), some (115, true), [], []⟩,
    ⟨some 119, .load (.d (.int .i64)) (.t 118), some (115, true), [], []⟩,
    ⟨some 120, .index (.sl .bool) (.t 117) (.t 119), some (115, true), [], []⟩,
    ⟨some 121, .load (.d .bool) (.t 120), some (115, true), [], []⟩,
    ⟨some 122, .pick (.t 115) (.t 121) (.c .bool false), some (103, false), [], []⟩,
    ⟨some 123, .pick (.t 103) (.c .bool true) (.t 122), none, [], []⟩,
    ⟨some 7, .move (.t 123), none, [], []⟩]) (innkeepref06_Right.c37)) (innkeepref06_Right.c36)
def innkeepref06_Right.c41 : Cd := .tidy [72, 73] [] [] none
def innkeepref06_Right.c33 : Cd := .seq (.reg false [⟨some 72, .move (.t 5), none, [], []⟩,
    ⟨some 73, .bin .add (.t 72) (.c (.int .i64) (1 : Int)), none, [], []⟩,
    ⟨some 5, .move (.t 73), none, [], []⟩]) (innkeepref06_Right.c41)
def innkeepref06_Right.c29 : Cd := .seq (.block 3 (.seq (.seq (.reg false [⟨some 74, .fieldAddr (.d tWorld) 3 (.t 1), none, [], []⟩,
    ⟨some 75, .load (.d (.sl tPlace)) (.t 74), none, [], []⟩,
    ⟨some 76, .move (.t 5), none, [], []⟩,
    ⟨some 77, .index (.sl tPlace) (.t 75) (.t 76), none, [], []⟩,
    ⟨some 78, .load (.d tPlace) (.t 77), none, [], []⟩,
    ⟨some 6, .newbox 2 tPlace [], none, [], []⟩,
    ⟨none, .store (.d tPlace) (.t 6) (.t 78), none, [], []⟩]) (innkeepref06_Right.c35)) (innkeepref06_Right.c34))) (innkeepref06_Right.c33)
def innkeepref06_Right.c28 : Cd := .tidy [6, 7] [] [] (some 2)
def innkeepref06_Right.c27 : Cd := .seq (.seq (.seq (.seq (.reg false [⟨some 67, .move (.t 5), none, [], []⟩,
    ⟨some 68, .fieldAddr (.d tWorld) 3 (.t 1), none, [], []⟩,
    ⟨some 69, .load (.d (.sl tPlace)) (.t 68), none, [], []⟩,
    ⟨some 70, .len (.t 69), none, [], []⟩,
    ⟨some 71, .bin .lss (.t 67) (.t 70), none, [], []⟩]) (innkeepref06_Right.c31)) (innkeepref06_Right.c30)) (innkeepref06_Right.c29)) (innkeepref06_Right.c28)
def innkeepref06_Right.c26 : Cd := .block 2 (.loop (innkeepref06_Right.c27))
def innkeepref06_Right.c51 : Cd := .tidy [126, 127, 128, 129] [] [] none
def innkeepref06_Right.c52 : Cd := .skip
def innkeepref06_Right.c60 : Cd := .exit 4
def innkeepref06_Right.c50 : Cd := .cond (.t 130) (.seq (.tidy [130] [] [] none) (innkeepref06_Right.c52)) (.seq (.tidy [130] [] [] none) (innkeepref06_Right.c60))
def innkeepref06_Right.c55 : Cd := .tidy [133, 134, 135, 136, 137, 138, 139, 140, 141, 142, 143, 144, 145, 146, 147, 148, 149, 150, 151, 152, 153, 154, 155, 156] [] [] none
def innkeepref06_Right.c57 : Cd := .ret
def innkeepref06_Right.c56 : Cd := .seq (.reg false [⟨some 2, .move (.c .bool false), none, [], []⟩]) (innkeepref06_Right.c57)
def innkeepref06_Right.c58 : Cd := .skip
def innkeepref06_Right.c54 : Cd := .cond (.t 157) (.seq (.tidy [157] [] [] none) (innkeepref06_Right.c56)) (.seq (.tidy [157] [] [] none) (innkeepref06_Right.c58))
def innkeepref06_Right.c59 : Cd := .tidy [131, 132] [] [] none
def innkeepref06_Right.c53 : Cd := .seq (.reg false [⟨some 131, .move (.t 8), none, [], []⟩,
    ⟨some 132, .bin .add (.t 131) (.c (.int .i64) (1 : Int)), none, [], []⟩,
    ⟨some 8, .move (.t 132), none, [], []⟩]) (innkeepref06_Right.c59)
def innkeepref06_Right.c49 : Cd := .seq (.block 5 (.seq (.seq (.reg true [⟨some 133, .load (.d tWorld) (.t 1), none, [0], []⟩,
    ⟨some 134, .fieldAddr (.d tWorld) 3 (.t 1), none, [0], []⟩,
    ⟨some 135, .load (.d (.sl tPlace)) (.t 134), none, [0], []⟩,
    ⟨some 136, .move (.t 8), none, [], []⟩,
    ⟨some 137, .index (.sl tPlace) (.t 135) (.t 136), none, [], []⟩,
    ⟨some 138, .load (.d tPlace) (.t 137), none, [], []⟩,
    ⟨some 139, .call (.f 32) [(.t 133), (.t 138)] [.d (.int .i64)] [] false, none, [], []⟩,
    ⟨some 140, .bin .gtr (.t 139) (.c (.int .i64) (4 : Int)), none, [], []⟩,
    ⟨some 141, .move (.t 140), none, [], []⟩,
    ⟨some 142, .load (.d tWorld) (.t 1), some (141, false), [0], []⟩,
    ⟨some 143, .fieldAddr (.d tWorld) 3 (.t 1), some (141, false), [0], []⟩,
    ⟨some 144, .load (.d (.sl tPlace)) (.t 143), some (141, false), [0], []⟩,
    ⟨some 145, .move (.t 8), some (141, false), [], []⟩,
    ⟨some 146, .index (.sl tPlace) (.t 144) (.t 145), some (141, false), [], []⟩,
    ⟨some 147, .load (.d tPlace) (.t 146), some (141, false), [], []⟩,
    ⟨some 148, .call (.f 33) [(.t 142), (.t 147)] [.d (.int .i64)] [] false, some (141, false), [], []⟩,
    ⟨some 149, .load (.d tWorld) (.t 1), some (141, false), [0], []⟩,
    ⟨some 150, .fieldAddr (.d tWorld) 3 (.t 1), some (141, false), [0], []⟩,
    ⟨some 151, .load (.d (.sl tPlace)) (.t 150), some (141, false), [0], []⟩,
    ⟨some 152, .move (.t 8), some (141, false), [], []⟩,
    ⟨some 153, .index (.sl tPlace) (.t 151) (.t 152), some (141, false), [], []⟩,
    ⟨some 154, .load (.d tPlace) (.t 153), some (141, false), [], []⟩,
    ⟨some 155, .call (.f 34) [(.t 149), (.t 154)] [.d (.int .i64)] [] false, some (141, false), [], []⟩,
    ⟨some 156, .bin .gtr (.t 148) (.t 155), some (141, false), [], []⟩,
    ⟨some 157, .pick (.t 141) (.c .bool true) (.t 156), none, [], []⟩]) (innkeepref06_Right.c55)) (innkeepref06_Right.c54))) (innkeepref06_Right.c53)
def innkeepref06_Right.c48 : Cd := .tidy [] [] [] (some 2)
def innkeepref06_Right.c47 : Cd := .seq (.seq (.seq (.seq (.reg false [⟨some 126, .move (.t 8), none, [], []⟩,
    ⟨some 127, .fieldAddr (.d tWorld) 3 (.t 1), none, [], []⟩,
    ⟨some 128, .load (.d (.sl tPlace)) (.t 127), none, [], []⟩,
    ⟨some 129, .len (.t 128), none, [], []⟩,
    ⟨some 130, .bin .lss (.t 126) (.t 129), none, [], []⟩]) (innkeepref06_Right.c51)) (innkeepref06_Right.c50)) (innkeepref06_Right.c49)) (innkeepref06_Right.c48)
def innkeepref06_Right.c46 : Cd := .block 4 (.loop (innkeepref06_Right.c47))
def innkeepref06_Right.c61 : Cd := .ret
def innkeepref06_Right.c45 : Cd := .seq (.reg false [⟨some 2, .move (.c .bool true), none, [], []⟩]) (innkeepref06_Right.c61)
def innkeepref06_Right.c25 : Cd := .seq (.seq (.reg false [⟨some 8, .move (.c (.int .i64) (0 : Int)), none, [], []⟩]) (innkeepref06_Right.c46)) (innkeepref06_Right.c45)
def innkeepref06_Right.c9 : Cd := .seq (.seq (.reg false [⟨some 5, .move (.c (.int .i64) (0 : Int)), none, [], []⟩]) (innkeepref06_Right.c26)) (innkeepref06_Right.c25)
def innkeepref06_Right.c3 : Cd := .seq (.seq (.reg false [⟨some 4, .move (.c (.int .i64) (0 : Int)), none, [], []⟩]) (innkeepref06_Right.c10)) (innkeepref06_Right.c9)
def innkeepref06_Right.c1 : Cd := .seq (.seq (.seq (.reg false [⟨some 11, .load (.d tDesc) (.t 3), none, [], []⟩,
    ⟨some 12, .call (.f 29) [(.t 11)] [.d .bool] [] false, none, [], []⟩,
    ⟨some 13, .not (.t 12), none, [], []⟩,
    ⟨some 14, .move (.t 13), none, [], []⟩,
    ⟨some 15, .fieldAddr (.d tWorld) 1 (.t 1), some (14, false), [], []⟩,
    ⟨some 16, .load (.d (.sl (.int .i64))) (.t 15), some (14, false), [], []⟩,
    ⟨some 17, .len (.t 16), some (14, false), [], []⟩,
    ⟨some 18, .fieldAddr (.d tDesc) 1 (.t 3), some (14, false), [], []⟩,
    ⟨some 19, .load (.d (.sl (.int .i64))) (.t 18), some (14, false), [], []⟩,
    ⟨some 20, .len (.t 19), some (14, false), [], []⟩,
    ⟨some 21, .bin .neq (.t 17) (.t 20), some (14, false), [], []⟩,
    ⟨some 22, .pick (.t 14) (.c .bool true) (.t 21), none, [], []⟩,
    ⟨some 23, .move (.t 22), none, [], []⟩,
    ⟨some 24, .fieldAddr (.d tWorld) 2 (.t 1), some (23, false), [], []⟩,
    ⟨some 25, .load (.d (.sl (.int .i64))) (.t 24), some (23, false), [], []⟩,
    ⟨some 26, .len (.t 25), some (23, false), [], []⟩,
    ⟨some 27, .fieldAddr (.d tDesc) 1 (.t 3), some (23, false), [], []⟩,
    ⟨some 28, .load (.d (.sl (.int .i64))) (.t 27), some (23, false), [], []⟩,
    ⟨some 29, .len (.t 28), some (23, false), [], []⟩,
    ⟨some 30, .bin .neq (.t 26) (.t 29), some (23, false), [], []⟩,
    ⟨some 31, .pick (.t 23) (.c .bool true) (.t 30), none, [], []⟩,
    ⟨some 32, .move (.t 31), none, [], []⟩,
    ⟨some 33, .fieldAddr (.d tWorld) 3 (.t 1), some (32, false), [], []⟩,
    ⟨some 34, .load (.d (.sl tPlace)) (.t 33), some (32, false), [], []⟩,
    ⟨some 35, .len (.t 34), some (32, false), [], []⟩,
    ⟨some 36, .fieldAddr (.d tDesc) 3 (.t 3), some (32, false), [], []⟩,
    ⟨some 37, .load (.d (.sl (.int .i64))) (.t 36), some (32, false), [], []⟩,
    ⟨some 38, .len (.t 37), some (32, false), [], []⟩,
    ⟨some 39, .bin .neq (.t 35) (.t 38), some (32, false), [], []⟩,
    ⟨some 40, .pick (.t 32) (.c .bool true) (.t 39), none, [], []⟩]) (innkeepref06_Right.c5)) (innkeepref06_Right.c4)) (innkeepref06_Right.c3)
def innkeepref06_Right.c0 : Cd := .seq (.seq (.reg false [⟨some 9, .fieldAddr (.d tWorld) 0 (.t 1), none, [], []⟩,
    ⟨some 10, .load (.d tDesc) (.t 9), none, [], []⟩,
    ⟨some 3, .newbox 1 tDesc [], none, [], []⟩,
    ⟨none, .store (.d tDesc) (.t 3) (.t 10), none, [], []⟩]) (innkeepref06_Right.c2)) (innkeepref06_Right.c1)
def innkeepref06_Right.fn : Fn := ⟨1, [.tmp 2], .seq (.reg false [⟨some 1, .box 0 (.t 0), none, [], []⟩,
    ⟨some 2, .move (.c .bool false), none, [], []⟩]) (innkeepref06_Right.c0)⟩
def innkeeplaw12_fits.c2 : Cd := .tidy [3, 4, 5, 6, 7, 8] [] [] none
def innkeeplaw12_fits.c1 : Cd := .ret
def innkeeplaw12_fits.c0 : Cd := .seq (.seq (.reg false [⟨some 3, .load (.d tWorld) (.t 1), none, [], []⟩,
    ⟨some 4, .call (.f 23) [(.t 3)] [.d .bool] [] false, none, [], []⟩,
    ⟨some 5, .move (.t 4), none, [], []⟩,
    ⟨some 6, .load (.d tWorld) (.t 1), some (5, true), [], []⟩,
    ⟨some 7, .call (.f 21) [(.t 6)] [.d .bool] [] false, some (5, true), [], []⟩,
    ⟨some 8, .pick (.t 5) (.t 7) (.c .bool false), none, [], []⟩,
    ⟨some 2, .move (.t 8), none, [], []⟩]) (innkeeplaw12_fits.c2)) (innkeeplaw12_fits.c1)
def innkeeplaw12_fits.fn : Fn := ⟨1, [.tmp 2], .seq (.reg false [⟨some 1, .box 0 (.t 0), none, [], []⟩,
    ⟨some 2, .move (.c .bool false), none, [], []⟩]) (innkeeplaw12_fits.c0)⟩
def innkeepref12_Present.c8 : Cd := .tidy [7, 8, 9, 10] [] [] none
def innkeepref12_Present.c9 : Cd := .skip
def innkeepref12_Present.c17 : Cd := .exit 0
def innkeepref12_Present.c7 : Cd := .cond (.t 11) (.seq (.tidy [11] [] [] none) (innkeepref12_Present.c9)) (.seq (.tidy [11] [] [] none) (innkeepref12_Present.c17))
def innkeepref12_Present.c12 : Cd := .tidy [14, 15, 16, 17, 18, 19] [] [] none
def innkeepref12_Present.c14 : Cd := .tidy [21, 22, 23, 24] [] [] none
def innkeepref12_Present.c13 : Cd := .seq (.reg false [⟨some 21, .move (.t 5), none, [], []⟩,
    ⟨some 22, .move (.t 6), none, [], []⟩,
    ⟨some 23, .slice 1 (.int .i64) [(.t 22)], none, [], []⟩,
    ⟨some 24, .append 2 (.int .i64) (.t 21) (.t 23), none, [], []⟩,
    ⟨some 5, .move (.t 24), none, [], []⟩]) (innkeepref12_Present.c14)
def innkeepref12_Present.c16 : Cd := .skip
def innkeepref12_Present.c11 : Cd := .cond (.t 20) (.seq (.tidy [20] [] [] none) (innkeepref12_Present.c13)) (.seq (.tidy [20] [] [] none) (innkeepref12_Present.c16))
def innkeepref12_Present.c15 : Cd := .tidy [12, 13] [] [] none
def innkeepref12_Present.c10 : Cd := .seq (.reg false [⟨some 12, .move (.t 6), none, [], []⟩,
    ⟨some 13, .bin .add (.t 12) (.c (.int .i64) (1 : Int)), none, [], []⟩,
    ⟨some 6, .move (.t 13), none, [], []⟩]) (innkeepref12_Present.c15)
def innkeepref12_Present.c6 : Cd := .seq (.block 1 (.seq (.seq (.reg false [⟨some 14, .fieldAddr (.d tWorld) 1 (.t 2), none, [], []⟩,
    ⟨some 15, .load (.d (.sl (.int .i64))) (.t 14), none, [], []⟩,
    ⟨some 16, .move (.t 6), none, [], []⟩,
    ⟨some 17, .index (.sl (.int .i64)) (.t 15) (.t 16), none, [], []⟩,
    ⟨some 18, .load (.d (.int .i64)) (.t 17), none, [], []⟩,
    ⟨some 19, .move (.t 1), none, [], []⟩,
    ⟨some 20, .bin .eql (.t 18) (.t 19), none, [], []⟩]) (innkeepref12_Present.c12)) (innkeepref12_Present.c11))) (innkeepref12_Present.c10)
def innkeepref12_Present.c5 : Cd := .tidy [] [(2, 3)] [1] (some 4)
def innkeepref12_Present.c4 : Cd := .seq (.seq (.seq (.seq (.reg false [⟨some 7, .move (.t 6), none, [], []⟩,
    ⟨some 8, .fieldAddr (.d tWorld) 1 (.t 2), none, [], []⟩,
    ⟨some 9, .load (.d (.sl (.int .i64))) (.t 8), none, [], []⟩,
    ⟨some 10, .len (.t 9), none, [], []⟩,
    ⟨some 11, .bin .lss (.t 7) (.t 10), none, [], []⟩]) (innkeepref12_Present.c8)) (innkeepref12_Present.c7)) (innkeepref12_Present.c6)) (innkeepref12_Present.c5)
def innkeepref12_Present.c3 : Cd := .block 0 (.loop (innkeepref12_Present.c4))
def innkeepref12_Present.c19 : Cd := .tidy [25] [] [] none
def innkeepref12_Present.c18 : Cd := .ret
def innkeepref12_Present.c2 : Cd := .seq (.seq (.reg false [⟨some 25, .move (.t 5), none, [], []⟩,
    ⟨some 4, .move (.t 25), none, [], []⟩]) (innkeepref12_Present.c19)) (innkeepref12_Present.c18)
def innkeepref12_Present.c1 : Cd := .seq (.seq (.reg false [⟨some 6, .move (.c (.int .i64) (0 : Int)), none, [], []⟩]) (innkeepref12_Present.c3)) (innkeepref12_Present.c2)
def innkeepref12_Present.c0 : Cd := .seq (.reg false [⟨some 5, .mknil 3 (.int .i64), none, [], []⟩]) (innkeepref12_Present.c1)
def innkeepref12_Present.fn : Fn := ⟨2, [.tmp 4], .seq (.reg false [⟨some 2, .box 0 (.t 0), none, [], []⟩,
    ⟨some 4, .move (.c (.sl (.int .i64)) []), none, [], []⟩]) (innkeepref12_Present.c0)⟩
def innkeepref07_Root.c2 : Cd := .tidy [6, 7, 8, 9, 10] [] [] none
def innkeepref07_Root.c5 : Cd := .tidy [11, 12] [] [] none
def innkeepref07_Root.c8 : Cd := .tidy [14] [] [] none
def innkeepref07_Root.c7 : Cd := .ret
def innkeepref07_Root.c6 : Cd := .seq (.seq (.reg false [⟨some 14, .load (.d tPlace) (.t 5), none, [], []⟩,
    ⟨none, .store (.d tPlace) (.t 4) (.t 14), none, [], []⟩]) (innkeepref07_Root.c8)) (innkeepref07_Root.c7)
def innkeepref07_Root.c9 : Cd := .skip
def innkeepref07_Root.c4 : Cd := .cond (.t 13) (.seq (.tidy [13] [] [] none) (innkeepref07_Root.c6)) (.seq (.tidy [13] [] [] none) (innkeepref07_Root.c9))
def innkeepref07_Root.c11 : Cd := .tidy [15, 16, 17, 18] [] [] none
def innkeepref07_Root.c10 : Cd := .ret
def innkeepref07_Root.c3 : Cd := .seq (.seq (.reg false [⟨some 15, .load (.d tWorld) (.t 2), none, [], []⟩,
    ⟨some 16, .fieldAddr (.d tPlace) 1 (.t 5), none, [], []⟩,
    ⟨some 17, .load (.d (.int .i64)) (.t 16), none, [], []⟩,
    ⟨some 18, .call (.f 36) [(.t 15), (.t 17)] [.d tPlace] [] false, none, [], []⟩,
    ⟨none, .store (.d tPlace) (.t 4) (.t 18), none, [], []⟩]) (innkeepref07_Root.c11)) (innkeepref07_Root.c10)
def innkeepref07_Root.c1 : Cd := .seq (.seq (.seq (.reg false [⟨some 11, .fieldAddr (.d tPlace) 0 (.t 5), none, [], []⟩,
    ⟨some 12, .load (.d (.int .i64)) (.t 11), none, [], []⟩,
    ⟨some 13, .bin .neq (.t 12) (.c (.int .i64) (2 : Int)), none, [], []⟩]) (innkeepref07_Root.c5)) (innkeepref07_Root.c4)) (innkeepref07_Root.c3)
def innkeepref07_Root.c0 : Cd := .seq (.seq (.reg false [⟨some 6, .fieldAddr (.d tWorld) 3 (.t 2), none, [], []⟩,
    ⟨some 7, .load (.d (.sl tPlace)) (.t 6), none, [], []⟩,
    ⟨some 8, .move (.t 1), none, [], []⟩,
    ⟨some 9, .index (.sl tPlace) (.t 7) (.t 8), none, [], []⟩,
    ⟨some 10, .load (.d tPlace) (.t 9), none, [], []⟩,
    ⟨some 5, .newbox 2 tPlace [], none, [], []⟩,
    ⟨none, .store (.d tPlace) (.t 5) (.t 10), none, [], []⟩]) (innkeepref07_Root.c2)) (innkeepref07_Root.c1)
def innkeepref07_Root.fn : Fn := ⟨2, [.cell 4 (.d tPlace)], .seq (.reg false [⟨some 2, .box 0 (.t 0), none, [], []⟩,
    ⟨some 4, .newbox 1 tPlace [], none, [], []⟩]) (innkeepref07_Root.c0)⟩
def innkeepref07_Under.c8 : Cd := .tidy [7, 8, 9, 10] [] [] none
def innkeepref07_Under.c9 : Cd := .skip
def innkeepref07_Under.c17 : Cd := .exit 0
def innkeepref07_Under.c7 : Cd := .cond (.t 11) (.seq (.tidy [11] [] [] none) (innkeepref07_Under.c9)) (.seq (.tidy [11] [] [] none) (innkeepref07_Under.c17))
def innkeepref07_Under.c12 : Cd := .tidy [14, 15, 16, 17] [] [] none
def innkeepref07_Under.c14 : Cd := .tidy [19, 20, 21, 22, 23, 24, 25, 26, 27, 28] [] [] none
def innkeepref07_Under.c13 : Cd := .seq (.reg false [⟨some 19, .move (.t 5), none, [], []⟩,
    ⟨some 20, .move (.t 6), none, [], []⟩,
    ⟨some 21, .fieldAddr (.d tWorld) 3 (.t 2), none, [], []⟩,
    ⟨some 22, .load (.d (.sl tPlace)) (.t 21), none, [], []⟩,
    ⟨some 23, .move (.t 6), none, [], []⟩,
    ⟨some 24, .index (.sl tPlace) (.t 22) (.t 23), none, [], []⟩,
    ⟨some 25, .load (.d tPlace) (.t 24), none, [], []⟩,
    ⟨some 26, .build tSeen [(0, (.t 20)), (1, (.t 25))] [], none, [], []⟩,
    ⟨some 27, .slice 2 tSeen [(.t 26)], none, [], []⟩,
    ⟨some 28, .append 3 tSeen (.t 19) (.t 27), none, [], []⟩,
    ⟨some 5, .move (.t 28), none, [], []⟩]) (innkeepref07_Under.c14)
def innkeepref07_Under.c16 : Cd := .skip
def innkeepref07_Under.c11 : Cd := .cond (.t 18) (.seq (.tidy [18] [] [] none) (innkeepref07_Under.c13)) (.seq (.tidy [18] [] [] none) (innkeepref07_Under.c16))
def innkeepref07_Under.c15 : Cd := .tidy [12, 13] [] [] none
def innkeepref07_Under.c10 : Cd := .seq (.reg false [⟨some 12, .move (.t 6), none, [], []⟩,
    ⟨some 13, .bin .add (.t 12) (.c (.int .i64) (1 : Int)), none, [], []⟩,
    ⟨some 6, .move (.t 13), none, [], []⟩]) (innkeepref07_Under.c15)
def innkeepref07_Under.c6 : Cd := .seq (.block 1 (.seq (.seq (.reg true [⟨some 14, .load (.d tWorld) (.t 2), none, [0], []⟩,
    ⟨some 15, .move (.t 6), none, [], []⟩,
    ⟨some 16, .call (.f 36) [(.t 14), (.t 15)] [.d tPlace] [] false, none, [], []⟩,
    ⟨some 17, .load (.d tPlace) (.t 3), none, [1], []⟩,
    ⟨some 18, .eqs tPlace false (.t 16) (.t 17), none, [], []⟩]) (innkeepref07_Under.c12)) (innkeepref07_Under.c11))) (innkeepref07_Under.c10)
def innkeepref07_Under.c5 : Cd := .tidy [] [(3, 4)] [2] (some 5)
def innkeepref07_Under.c4 : Cd := .seq (.seq (.seq (.seq (.reg false [⟨some 7, .move (.t 6), none, [], []⟩,
    ⟨some 8, .fieldAddr (.d tWorld) 3 (.t 2), none, [], []⟩,
    ⟨some 9, .load (.d (.sl tPlace)) (.t 8), none, [], []⟩,
    ⟨some 10, .len (.t 9), none, [], []⟩,
    ⟨some 11, .bin .lss (.t 7) (.t 10), none, [], []⟩]) (innkeepref07_Under.c8)) (innkeepref07_Under.c7)) (innkeepref07_Under.c6)) (innkeepref07_Under.c5)
def innkeepref07_Under.c3 : Cd := .block 0 (.loop (innkeepref07_Under.c4))
def innkeepref07_Under.c19 : Cd := .tidy [29] [] [] none
def innkeepref07_Under.c18 : Cd := .ret
def innkeepref07_Under.c2 : Cd := .seq (.seq (.reg false [⟨some 29, .move (.t 5), none, [], []⟩,
    ⟨some 4, .move (.t 29), none, [], []⟩]) (innkeepref07_Under.c19)) (innkeepref07_Under.c18)
def innkeepref07_Under.c1 : Cd := .seq (.seq (.reg false [⟨some 6, .move (.c (.int .i64) (0 : Int)), none, [], []⟩]) (innkeepref07_Under.c3)) (innkeepref07_Under.c2)
def innkeepref07_Under.c0 : Cd := .seq (.reg false [⟨some 5, .mknil 4 tSeen, none, [], []⟩]) (innkeepref07_Under.c1)
def innkeepref07_Under.fn : Fn := ⟨2, [.tmp 4], .seq (.reg false [⟨some 2, .box 0 (.t 0), none, [], []⟩,
    ⟨some 3, .box 1 (.t 1), none, [], []⟩,
    ⟨some 4, .move (.c (.sl tSeen) []), none, [], []⟩]) (innkeepref07_Under.c0)⟩
def innkeepref12_Look.c2 : Cd := .tidy [5, 6, 7, 8, 9, 10, 11, 12, 13, 14, 15, 16, 17, 18, 19, 20, 21, 22, 23, 24, 25] [] [] none
def innkeepref12_Look.c1 : Cd := .ret
def innkeepref12_Look.c0 : Cd := .seq (.seq (.reg true [⟨some 5, .fieldAddr (.d tWorld) 1 (.t 2), none, [0], []⟩,
    ⟨some 6, .load (.d (.sl (.int .i64))) (.t 5), none, [0], []⟩,
    ⟨some 7, .move (.t 1), none, [], []⟩,
    ⟨some 8, .index (.sl (.int .i64)) (.t 6) (.t 7), none, [], []⟩,
    ⟨some 9, .load (.d (.int .i64)) (.t 8), none, [], []⟩,
    ⟨some 10, .load (.d tWorld) (.t 2), none, [0], []⟩,
    ⟨some 11, .fieldAddr (.d tWorld) 1 (.t 2), none, [0], []⟩,
    ⟨some 12, .load (.d (.sl (.int .i64))) (.t 11), none, [0], []⟩,
    ⟨some 13, .move (.t 1), none, [], []⟩,
    ⟨some 14, .index (.sl (.int .i64)) (.t 12) (.t 13), none, [], []⟩,
    ⟨some 15, .load (.d (.int .i64)) (.t 14), none, [], []⟩,
    ⟨some 16, .call (.f 17) [(.t 10), (.t 15)] [.d (.sl (.int .i64))] [] false, none, [], []⟩,
    ⟨some 17, .load (.d tWorld) (.t 2), none, [0], []⟩,
    ⟨some 18, .fieldAddr (.d tWorld) 1 (.t 2), none, [0], []⟩,
    ⟨some 19, .load (.d (.sl (.int .i64))) (.t 18), none, [0], []⟩,
    ⟨some 20, .move (.t 1), none, [], []⟩,
    ⟨some 21, .index (.sl (.int .i64)) (.t 19) (.t 20), none, [], []⟩,
    ⟨some 22, .load (.d (.int .i64)) (.t 21), none, [], []⟩,
    ⟨some 23, .build tPlace [(0, (.c (.int .i64) (0 : Int))), (1, (.t 22))] [], none, [], []⟩,
    ⟨some 24, .call (.f 26) [(.t 17), (.t 23)] [.d (.sl tSeen)] [] false, none, [], []⟩,
    ⟨some 25, .build tReply [(1, (.c (.int .i64) (9 : Int))), (2, (.t 9)), (3, (.t 16)), (4, (.t 24))] [], none, [], []⟩,
    ⟨none, .store (.d tReply) (.t 4) (.t 25), none, [], [1]⟩]) (innkeepref12_Look.c2)) (innkeepref12_Look.c1)
def innkeepref12_Look.fn : Fn := ⟨2, [.cell 4 (.d tReply)], .seq (.reg false [⟨some 2, .box 0 (.t 0), none, [], []⟩,
    ⟨some 4, .newbox 1 tReply [], none, [], []⟩]) (innkeepref12_Look.c0)⟩
def innkeepref12_Own.c2 : Cd := .tidy [5, 6, 7, 8, 9, 10, 11, 12, 13, 14] [] [] none
def innkeepref12_Own.c1 : Cd := .ret
def innkeepref12_Own.c0 : Cd := .seq (.seq (.reg true [⟨some 5, .fieldAddr (.d tWorld) 2 (.t 2), none, [0], []⟩,
    ⟨some 6, .load (.d (.sl (.int .i64))) (.t 5), none, [0], []⟩,
    ⟨some 7, .move (.t 1), none, [], []⟩,
    ⟨some 8, .index (.sl (.int .i64)) (.t 6) (.t 7), none, [], []⟩,
    ⟨some 9, .load (.d (.int .i64)) (.t 8), none, [], []⟩,
    ⟨some 10, .load (.d tWorld) (.t 2), none, [0], []⟩,
    ⟨some 11, .move (.t 1), none, [], []⟩,
    ⟨some 12, .build tPlace [(0, (.c (.int .i64) (1 : Int))), (1, (.t 11))] [], none, [], []⟩,
    ⟨some 13, .call (.f 26) [(.t 10), (.t 12)] [.d (.sl tSeen)] [] false, none, [], []⟩,
    ⟨some 14, .build tReply [(1, (.c (.int .i64) (10 : Int))), (5, (.t 9)), (4, (.t 13))] [], none, [], []⟩,
    ⟨none, .store (.d tReply) (.t 4) (.t 14), none, [], [1]⟩]) (innkeepref12_Own.c2)) (innkeepref12_Own.c1)
def innkeepref12_Own.fn : Fn := ⟨2, [.cell 4 (.d tReply)], .seq (.reg false [⟨some 2, .box 0 (.t 0), none, [], []⟩,
    ⟨some 4, .newbox 1 tReply [], none, [], []⟩]) (innkeepref12_Own.c0)⟩
def innkeeplaw12_SightTells.c3 : Cd := .tidy [9, 10, 11, 12, 13, 14] [] [] none
def innkeeplaw12_SightTells.c6 : Cd := .tidy [16] [] [] none
def innkeeplaw12_SightTells.c5 : Cd := .ret
def innkeeplaw12_SightTells.c4 : Cd := .seq (.seq (.reg false [⟨some 16, .call (.f 8) [] [.d .bool] [] false, none, [], []⟩,
    ⟨some 6, .move (.t 16), none, [], []⟩]) (innkeeplaw12_SightTells.c6)) (innkeeplaw12_SightTells.c5)
def innkeeplaw12_SightTells.c7 : Cd := .skip
def innkeeplaw12_SightTells.c2 : Cd := .cond (.t 15) (.seq (.tidy [15] [] [] none) (innkeeplaw12_SightTells.c4)) (.seq (.tidy [15] [] [] none) (innkeeplaw12_SightTells.c7))
def innkeeplaw12_SightTells.c9 : Cd := .tidy [17, 18, 19, 20, 21, 22] [] [] none
def innkeeplaw12_SightTells.c11 : Cd := .tidy [23, 24, 25, 26, 27, 28, 29] [] [] none
def innkeeplaw12_SightTells.c13 : Cd := .tidy [30, 31, 32, 33, 34, 35, 36, 37, 38, 39, 40, 41, 42, 43, 44, 45, 46, 47, 48, 49, 50, 51, 52, 53, 54] [] [] none
def innkeeplaw12_SightTells.c12 : Cd := .ret
def innkeeplaw12_SightTells.c10 : Cd := .seq (.seq (.reg true [⟨some 30, .load (.d tWorld) (.t 3), none, [0], []⟩,
    ⟨some 31, .move (.t 7), none, [], []⟩,
    ⟨some 32, .call (.f 11) [(.t 30), (.t 31)] [.d tReply] [] false, none, [], []⟩,
    ⟨some 33, .load (.d tWorld) (.t 3), none, [0], []⟩,
    ⟨some 34, .move (.t 7), none, [], []⟩,
    ⟨some 35, .call (.f 12) [(.t 33), (.t 34)] [.d tReply] [] false, none, [], []⟩,
    ⟨some 36, .call (.f 10) [(.t 32), (.t 35)] [.d .bool] [] false, none, [], []⟩,
    ⟨some 37, .move (.t 36), none, [], []⟩,
    ⟨some 38, .load (.d tWorld) (.t 3), some (37, true), [0], []⟩,
    ⟨some 39, .move (.t 7), some (37, true), [], []⟩,
    ⟨some 40, .call (.f 13) [(.t 38), (.t 39)] [.d tReply] [] false, some (37, true), [], []⟩,
    ⟨some 41, .load (.d tWorld) (.t 3), some (37, true), [0], []⟩,
    ⟨some 42, .move (.t 7), some (37, true), [], []⟩,
    ⟨some 43, .call (.f 14) [(.t 41), (.t 42)] [.d tReply] [] false, some (37, true), [], []⟩,
    ⟨some 44, .call (.f 10) [(.t 40), (.t 43)] [.d .bool] [] false, some (37, true), [], []⟩,
    ⟨some 45, .pick (.t 37) (.t 44) (.c .bool false), none, [], []⟩,
    ⟨some 46, .move (.t 45), none, [], []⟩,
    ⟨some 47, .load (.d tWorld) (.t 3), some (46, true), [0], []⟩,
    ⟨some 48, .move (.t 8), some (46, true), [], []⟩,
    ⟨some 49, .call (.f 16) [(.t 47), (.t 48)] [.d (.sl (.int .i64))] [] false, some (46, true), [], []⟩,
    ⟨some 50, .load (.d tWorld) (.t 3), some (46, true), [0], []⟩,
    ⟨some 51, .move (.t 8), some (46, true), [], []⟩,
    ⟨some 52, .call (.f 17) [(.t 50), (.t 51)] [.d (.sl (.int .i64))] [] false, some (46, true), [], []⟩,
    ⟨some 53, .call (.f 15) [(.t 49), (.t 52)] [.d .bool] [] false, some (46, true), [], []⟩,
    ⟨some 54, .pick (.t 46) (.t 53) (.c .bool false), none, [], []⟩,
    ⟨some 6, .move (.t 54), none, [], []⟩]) (innkeeplaw12_SightTells.c13)) (innkeeplaw12_SightTells.c12)
def innkeeplaw12_SightTells.c8 : Cd := .seq (.seq (.reg false [⟨some 23, .move (.t 2), none, [], []⟩,
    ⟨some 24, .conv .i64 (.t 23), none, [], []⟩,
    ⟨some 25, .fieldAddr (.d tWorld) 0 (.t 3), none, [], []⟩,
    ⟨some 26, .fieldAddr (.d tDesc) 0 (.t 25), none, [], []⟩,
    ⟨some 27, .load (.d (.sl (.arr 4 (.int .i64)))) (.t 26), none, [], []⟩,
    ⟨some 28, .len (.t 27), none, [], []⟩,
    ⟨some 29, .bin .rem (.t 24) (.t 28), none, [], []⟩,
    ⟨some 8, .move (.t 29), none, [], []⟩]) (innkeeplaw12_SightTells.c11)) (innkeeplaw12_SightTells.c10)
def innkeeplaw12_SightTells.c1 : Cd := .seq (.seq (.reg false [⟨some 17, .move (.t 1), none, [], []⟩,
    ⟨some 18, .conv .i64 (.t 17), none, [], []⟩,
    ⟨some 19, .fieldAddr (.d tWorld) 1 (.t 3), none, [], []⟩,
    ⟨some 20, .load (.d (.sl (.int .i64))) (.t 19), none, [], []⟩,
    ⟨some 21, .len (.t 20), none, [], []⟩,
    ⟨some 22, .bin .rem (.t 18) (.t 21), none, [], []⟩,
    ⟨some 7, .move (.t 22), none, [], []⟩]) (innkeeplaw12_SightTells.c9)) (innkeeplaw12_SightTells.c8)
def innkeeplaw12_SightTells.c0 : Cd := .seq (.seq (.seq (.reg false [⟨some 9, .call (.f 8) [] [.d .bool] [] false, none, [], []⟩,
    ⟨some 10, .not (.t 9), none, [], []⟩,
    ⟨some 11, .move (.t 10), none, [], []⟩,
    ⟨some 12, .load (.d tWorld) (.t 3), some (11, false), [], []⟩,
    ⟨some 13, .call (.f 9) [(.t 12)] [.d .bool] [] false, some (11, false), [], []⟩,
    ⟨some 14, .not (.t 13), some (11, false), [], []⟩,
    ⟨some 15, .pick (.t 11) (.c .bool true) (.t 14), none, [], []⟩]) (innkeeplaw12_SightTells.c3)) (innkeeplaw12_SightTells.c2)) (innkeeplaw12_SightTells.c1)
def innkeeplaw12_SightTells.fn : Fn := ⟨3, [.tmp 6], .seq (.reg false [⟨some 3, .box 0 (.t 0), none, [], []⟩,
    ⟨some 6, .move (.c .bool false), none, [], []⟩]) (innkeeplaw12_SightTells.c0)⟩
def innkeepref05_fit.c2 : Cd := .tidy [3, 4, 5, 6, 7, 8] [] [] none
def innkeepref05_fit.c1 : Cd := .ret
def innkeepref05_fit.c0 : Cd := .seq (.seq (.reg false [⟨some 3, .move (.t 0), none, [], []⟩,
    ⟨some 4, .bin .geq (.t 3) (.c (.int .i64) (0 : Int)), none, [], []⟩,
    ⟨some 5, .move (.t 4), none, [], []⟩,
    ⟨some 6, .move (.t 0), some (5, true), [], []⟩,
    ⟨some 7, .bin .leq (.t 6) (.c (.int .i64) (1073741824 : Int)), some (5, true), [], []⟩,
    ⟨some 8, .pick (.t 5) (.t 7) (.c .bool false), none, [], []⟩,
    ⟨some 2, .move (.t 8), none, [], []⟩]) (innkeepref05_fit.c2)) (innkeepref05_fit.c1)
def innkeepref05_fit.fn : Fn := ⟨1, [.tmp 2], .seq (.reg false [⟨some 2, .move (.c .bool false), none, [], []⟩]) (innkeepref05_fit.c0)⟩
def innkeepref05_May.c3 : Cd := .tidy [8, 9, 10, 11, 12, 13, 14] [] [] none
def innkeepref05_May.c5 : Cd := .ret
def innkeepref05_May.c4 : Cd := .seq (.reg false [⟨some 2, .move (.c .bool false), none, [], []⟩]) (innkeepref05_May.c5)
def innkeepref05_May.c6 : Cd := .skip
def innkeepref05_May.c2 : Cd := .cond (.t 15) (.seq (.tidy [15] [] [] none) (innkeepref05_May.c4)) (.seq (.tidy [15] [] [] none) (innkeepref05_May.c6))
def innkeepref05_May.c9 : Cd := .tidy [16, 17] [] [] none
def innkeepref05_May.c12 : Cd := .tidy [19, 20, 21, 22, 23] [] [] none
def innkeepref05_May.c11 : Cd := .ret
def innkeepref05_May.c10 : Cd := .seq (.seq (.reg false [⟨some 19, .load (.d tReply) (.t 1), none, [], []⟩,
    ⟨some 20, .fieldAddr (.d tReply) 0 (.t 1), none, [], []⟩,
    ⟨some 21, .load (.d (.int .i64)) (.t 20), none, [], []⟩,
    ⟨some 22, .build tReply [(0, (.t 21))] [], none, [], []⟩,
    ⟨some 23, .call (.f 10) [(.t 19), (.t 22)] [.d .bool] [] false, none, [], []⟩,
    ⟨some 2, .move (.t 23), none, [], []⟩]) (innkeepref05_May.c12)) (innkeepref05_May.c11)
def innkeepref05_May.c13 : Cd := .skip
def innkeepref05_May.c8 : Cd := .cond (.t 18) (.seq (.tidy [18] [] [] none) (innkeepref05_May.c10)) (.seq (.tidy [18] [] [] none) (innkeepref05_May.c13))
def innkeepref05_May.c15 : Cd := .tidy [24, 25] [] [] none
def innkeepref05_May.c18 : Cd := .tidy [26, 27, 28, 29, 30, 31, 32, 33, 34, 35, 36, 37, 38, 39, 40, 41, 42, 43, 44, 45, 46, 47, 48, 49, 50, 51, 52, 53, 54] [] [] none
def innkeepref05_May.c20 : Cd := .ret
def innkeepref05_May.c19 : Cd := .seq (.reg false [⟨some 2, .move (.c .bool false), none, [], []⟩]) (innkeepref05_May.c20)
def innkeepref05_May.c21 : Cd := .skip
def innkeepref05_May.c17 : Cd := .cond (.t 55) (.seq (.tidy [55] [] [] none) (innkeepref05_May.c19)) (.seq (.tidy [55] [] [] none) (innkeepref05_May.c21))
def innkeepref05_May.c28 : Cd := .tidy [56, 57, 58, 59] [] [] none
def innkeepref05_May.c29 : Cd := .skip
def innkeepref05_May.c37 : Cd := .exit 0
def innkeepref05_May.c27 : Cd := .cond (.t 60) (.seq (.tidy [60] [] [] none) (innkeepref05_May.c29)) (.seq (.tidy [60] [] [] none) (innkeepref05_May.c37))
def innkeepref05_May.c32 : Cd := .tidy [63, 64, 65, 66, 67, 68] [] [] none
def innkeepref05_May.c34 : Cd := .ret
def innkeepref05_May.c33 : Cd := .seq (.reg false [⟨some 2, .move (.c .bool false), none, [], []⟩]) (innkeepref05_May.c34)
def innkeepref05_May.c35 : Cd := .skip
def innkeepref05_May.c31 : Cd := .cond (.t 69) (.seq (.tidy [69] [] [] none) (innkeepref05_May.c33)) (.seq (.tidy [69] [] [] none) (innkeepref05_May.c35))
def innkeepref05_May.c36 : Cd := .tidy [61, 62] [] [] none
def innkeepref05_May.c30 : Cd := .seq (.reg false [⟨some 61, .move (.t 4), none, [], []⟩,
    ⟨some 62, .bin .add (.t 61) (.c (.int .i64) (1 : Int)), none, [], []⟩,
    ⟨some 4, .move (.t 62), none, [], []⟩]) (innkeepref05_May.c36)
def innkeepref05_May.c26 : Cd := .seq (.block 1 (.seq (.seq (.reg false [⟨some 63, .fieldAddr (.d tReply) 3 (.t 1), none, [], []⟩,
    ⟨some 64, .load (.d (.sl (.int .i64))) (.t 63), none, [], []⟩,
    ⟨some 65, .move (.t 4), none, [], []⟩,
    ⟨some 66, .index (.sl (.int .i64)) (.t 64) (.t 65), none, [], []⟩,
    ⟨some 67, .load (.d (.int .i64)) (.t 66), none, [], []⟩,
    ⟨some 68, .call (.f 27) [(.t 67)] [.d .bool] [] false, none, [], []⟩,
    ⟨some 69, .not (.t 68), none, [], []⟩]) (innkeepref05_May.c32)) (innkeepref05_May.c31))) (innkeepref05_May.c30)
def innkeepref05_May.c25 : Cd := .tidy [] [] [] (some 1)
def innkeepref05_May.c24 : Cd := .seq (.seq (.seq (.seq (.reg false [⟨some 56, .move (.t 4), none, [], []⟩,
    ⟨some 57, .fieldAddr (.d tReply) 3 (.t 1), none, [], []⟩,
    ⟨some 58, .load (.d (.sl (.int .i64))) (.t 57), none, [], []⟩,
    ⟨some 59, .len (.t 58), none, [], []⟩,
    ⟨some 60, .bin .lss (.t 56) (.t 59), none, [], []⟩]) (innkeepref05_May.c28)) (innkeepref05_May.c27)) (innkeepref05_May.c26)) (innkeepref05_May.c25)
def innkeepref05_May.c23 : Cd := .block 0 (.loop (innkeepref05_May.c24))
def innkeepref05_May.c44 : Cd := .tidy [70, 71, 72, 73] [] [] none
def innkeepref05_May.c45 : Cd := .skip
def innkeepref05_May.c55 : Cd := .exit 2
def innkeepref05_May.c43 : Cd := .cond (.t 74) (.seq (.tidy [74] [] [] none) (innkeepref05_May.c45)) (.seq (.tidy [74] [] [] none) (innkeepref05_May.c55))
def innkeepref05_May.c48 : Cd := .tidy [77, 78, 79, 80, 81] [] [] none
def innkeepref05_May.c50 : Cd := .tidy [82, 83, 84, 85, 86, 87, 88, 89, 90, 91, 92, 93, 94, 95, 96, 97, 98, 99, 100, 101, 102, 103, 104, 105, 106, 107, 108, 109] [] [] none
def innkeepref05_May.c52 : Cd := .ret
def innkeepref05_May.c51 : Cd := .seq (.reg false [⟨some 2, .move (.c .bool false), none, [], []⟩]) (innkeepref05_May.c52)
def innkeepref05_May.c53 : Cd := .skip
def innkeepref05_May.c49 : Cd := .cond (.t 110) (.seq (.tidy [110] [] [] none) (innkeepref05_May.c51)) (.seq (.tidy [110] [] [] none) (innkeepref05_May.c53))
def innkeepref05_May.c47 : Cd := .seq (.seq (.reg false [⟨some 82, .fieldAddr (.d tSeen) 0 (.t 6), none, [], []⟩,
    ⟨some 83, .load (.d (.int .i64)) (.t 82), none, [], []⟩,
    ⟨some 84, .call (.f 27) [(.t 83)] [.d .bool] [] false, none, [], []⟩,
    ⟨some 85, .not (.t 84), none, [], []⟩,
    ⟨some 86, .move (.t 85), none, [], []⟩,
    ⟨some 87, .fieldAddr (.d tSeen) 1 (.t 6), some (86, false), [], []⟩,
    ⟨some 88, .fieldAddr (.d tPlace) 1 (.t 87), some (86, false), [], []⟩,
    ⟨some 89, .load (.d (.int .i64)) (.t 88), some (86, false), [], []⟩,
    ⟨some 90, .call (.f 27) [(.t 89)] [.d .bool] [] false, some (86, false), [], []⟩,
    ⟨some 91, .not (.t 90), some (86, false), [], []⟩,
    ⟨some 92, .pick (.t 86) (.c .bool true) (.t 91), none, [], []⟩,
    ⟨some 93, .move (.t 92), none, [], []⟩,
    ⟨some 94, .fieldAddr (.d tSeen) 1 (.t 6), some (93, false), [], []⟩,
    ⟨some 95, .fieldAddr (.d tPlace) 0 (.t 94), some (93, false), [], []⟩,
    ⟨some 96, .load (.d (.int .i64)) (.t 95), some (93, false), [], []⟩,
    ⟨some 97, .bin .neq (.t 96) (.c (.int .i64) (0 : Int)), some (93, false), [], []⟩,
    ⟨some 98, .move (.t 97), some (93, false), [], []⟩,
    ⟨some 99, .fieldAddr (.d tSeen) 1 (.t 6), some (98, true), [], []⟩,
    ⟨some 100, .fieldAddr (.d tPlace) 0 (.t 99), some (98, true), [], []⟩,
    ⟨some 101, .load (.d (.int .i64)) (.t 100), some (98, true), [], []⟩,
    ⟨some 102, .bin .neq (.t 101) (.c (.int .i64) (1 : Int)), some (98, true), [], []⟩,
    ⟨some 103, .pick (.t 98) (.t 102) (.c .bool false), some (93, false), [], []⟩,
    ⟨some 104, .move (.t 103), some (93, false), [], []⟩,
    ⟨some 105, .fieldAddr (.d tSeen) 1 (.t 6), some (104, true), [], []⟩,
    ⟨some 106, .fieldAddr (.d tPlace) 0 (.t 105), some (104, true), [], []⟩,
    ⟨some 107, .load (.d (.int .i64)) (.t 106), some (104, true), [], []⟩,
    ⟨some 108, .bin .neq (.t 107) (.c (.int .i64) (2 : Int)), some (104, true), [], []⟩,
    ⟨some 109, .pick (.t 104) (.t 108) (.c .bool false), some (93, false), [], []⟩,
    ⟨some 110, .pick (.t 93) (.c .bool true) (.t 109), none, [], []⟩]) (innkeepref05_May.c50)) (innkeepref05_May.c49)
def innkeepref05_May.c54 : Cd := .tidy [75, 76] [] [] none
def innkeepref05_May.c46 : Cd := .seq (.reg false [⟨some 75, .move (.t 5), none, [], []⟩,
    ⟨some 76, .bin .add (.t 75) (.c (.int .i64) (1 : Int)), none, [], []⟩,
    ⟨some 5, .move (.t 76), none, [], []⟩]) (innkeepref05_May.c54)
def innkeepref05_May.c42 : Cd := .seq (.block 3 (.seq (.seq (.reg false [⟨some 77, .fieldAddr (.d tReply) 4 (.t 1), none, [], []⟩,
    ⟨some 78, .load (.d (.sl tSeen)) (.t 77), none, [], []⟩,
    ⟨some 79, .move (.t 5), none, [], []⟩,
    ⟨some 80, .index (.sl tSeen) (.t 78) (.t 79), none, [], []⟩,
    ⟨some 81, .load (.d tSeen) (.t 80), none, [], []⟩,
    ⟨some 6, .newbox 1 tSeen [], none, [], []⟩,
    ⟨none, .store (.d tSeen) (.t 6) (.t 81), none, [], []⟩]) (innkeepref05_May.c48)) (innkeepref05_May.c47))) (innkeepref05_May.c46)
def innkeepref05_May.c41 : Cd := .tidy [6] [] [] (some 1)
def innkeepref05_May.c40 : Cd := .seq (.seq (.seq (.seq (.reg false [⟨some 70, .move (.t 5), none, [], []⟩,
    ⟨some 71, .fieldAddr (.d tReply) 4 (.t 1), none, [], []⟩,
    ⟨some 72, .load (.d (.sl tSeen)) (.t 71), none, [], []⟩,
    ⟨some 73, .len (.t 72), none, [], []⟩,
    ⟨some 74, .bin .lss (.t 70) (.t 73), none, [], []⟩]) (innkeepref05_May.c44)) (innkeepref05_May.c43)) (innkeepref05_May.c42)) (innkeepref05_May.c41)
def innkeepref05_May.c39 : Cd := .block 2 (.loop (innkeepref05_May.c40))
def innkeepref05_May.c57 : Cd := .tidy [111, 112, 113, 114, 115, 116, 117, 118, 119, 120] [] [] none
def innkeepref05_May.c59 : Cd := .tidy [121, 122, 123, 124, 125, 126, 127, 128, 129, 130, 131, 132, 133, 134, 135, 136, 137, 138, 139, 140, 141, 142, 143, 144, 145, 146, 147, 148, 149, 150, 151, 152, 153, 154, 155] [] [] none
def innkeepref05_May.c58 : Cd := .ret
def innkeepref05_May.c56 : Cd := .seq (.seq (.reg false [⟨some 121, .move (.t 7), none, [], []⟩,
    ⟨some 122, .move (.t 121), none, [], []⟩,
    ⟨some 123, .fieldAddr (.d tReply) 2 (.t 1), some (122, false), [], []⟩,
    ⟨some 124, .load (.d (.int .i64)) (.t 123), some (122, false), [], []⟩,
    ⟨some 125, .bin .eql (.t 124) (.c (.int .i64) (0 : Int)), some (122, false), [], []⟩,
    ⟨some 126, .pick (.t 122) (.c .bool true) (.t 125), none, [], []⟩,
    ⟨some 127, .move (.t 126), none, [], []⟩,
    ⟨some 128, .move (.t 3), some (127, true), [], []⟩,
    ⟨some 129, .bin .eql (.t 128) (.c (.int .i64) (9 : Int)), some (127, true), [], []⟩,
    ⟨some 130, .move (.t 129), some (127, true), [], []⟩,
    ⟨some 131, .fieldAddr (.d tReply) 3 (.t 1), some (130, false), [], []⟩,
    ⟨some 132, .load (.d (.sl (.int .i64))) (.t 131), some (130, false), [], []⟩,
    ⟨some 133, .len (.t 132), some (130, false), [], []⟩,
    ⟨some 134, .bin .eql (.t 133) (.c (.int .i64) (0 : Int)), some (130, false), [], []⟩,
    ⟨some 135, .pick (.t 130) (.c .bool true) (.t 134), some (127, true), [], []⟩,
    ⟨some 136, .pick (.t 127) (.t 135) (.c .bool false), none, [], []⟩,
    ⟨some 137, .move (.t 136), none, [], []⟩,
    ⟨some 138, .move (.t 3), some (137, true), [], []⟩,
    ⟨some 139, .bin .geq (.t 138) (.c (.int .i64) (9 : Int)), some (137, true), [], []⟩,
    ⟨some 140, .move (.t 139), some (137, true), [], []⟩,
    ⟨some 141, .fieldAddr (.d tReply) 4 (.t 1), some (140, false), [], []⟩,
    ⟨some 142, .load (.d (.sl tSeen)) (.t 141), some (140, false), [], []⟩,
    ⟨some 143, .len (.t 142), some (140, false), [], []⟩,
    ⟨some 144, .bin .eql (.t 143) (.c (.int .i64) (0 : Int)), some (140, false), [], []⟩,
    ⟨some 145, .pick (.t 140) (.c .bool true) (.t 144), some (137, true), [], []⟩,
    ⟨some 146, .pick (.t 137) (.t 145) (.c .bool false), none, [], []⟩,
    ⟨some 147, .move (.t 146), none, [], []⟩,
    ⟨some 148, .move (.t 3), some (147, true), [], []⟩,
    ⟨some 149, .bin .eql (.t 148) (.c (.int .i64) (10 : Int)), some (147, true), [], []⟩,
    ⟨some 150, .move (.t 149), some (147, true), [], []⟩,
    ⟨some 151, .fieldAddr (.d tReply) 5 (.t 1), some (150, false), [], []⟩,
    ⟨some 152, .load (.d (.int .i64)) (.t 151), some (150, false), [], []⟩,
    ⟨some 153, .bin .eql (.t 152) (.c (.int .i64) (0 : Int)), some (150, false), [], []⟩,
    ⟨some 154, .pick (.t 150) (.c .bool true) (.t 153), some (147, true), [], []⟩,
    ⟨some 155, .pick (.t 147) (.t 154) (.c .bool false), none, [], []⟩,
    ⟨some 2, .move (.t 155), none, [], []⟩]) (innkeepref05_May.c59)) (innkeepref05_May.c58)
def innkeepref05_May.c38 : Cd := .seq (.seq (.reg false [⟨some 111, .move (.t 3), none, [], []⟩,
    ⟨some 112, .bin .eql (.t 111) (.c (.int .i64) (1 : Int)), none, [], []⟩,
    ⟨some 113, .move (.t 112), none, [], []⟩,
    ⟨some 114, .move (.t 3), some (113, false), [], []⟩,
    ⟨some 115, .bin .eql (.t 114) (.c (.int .i64) (2 : Int)), some (113, false), [], []⟩,
    ⟨some 116, .pick (.t 113) (.c .bool true) (.t 115), none, [], []⟩,
    ⟨some 117, .move (.t 116), none, [], []⟩,
    ⟨some 118, .move (.t 3), some (117, false), [], []⟩,
    ⟨some 119, .bin .eql (.t 118) (.c (.int .i64) (9 : Int)), some (117, false), [], []⟩,
    ⟨some 120, .pick (.t 117) (.c .bool true) (.t 119), none, [], []⟩,
    ⟨some 7, .move (.t 120), none, [], []⟩]) (innkeepref05_May.c57)) (innkeepref05_May.c56)
def innkeepref05_May.c22 : Cd := .seq (.seq (.reg false [⟨some 5, .move (.c (.int .i64) (0 : Int)), none, [], []⟩]) (innkeepref05_May.c39)) (innkeepref05_May.c38)
def innkeepref05_May.c16 : Cd := .seq (.seq (.reg false [⟨some 4, .move (.c (.int .i64) (0 : Int)), none, [], []⟩]) (innkeepref05_May.c23)) (innkeepref05_May.c22)
def innkeepref05_May.c14 : Cd := .seq (.seq (.seq (.reg false [⟨some 26, .move (.t 3), none, [], []⟩,
    ⟨some 27, .bin .lss (.t 26) (.c (.int .i64) (1 : Int)), none, [], []⟩,
    ⟨some 28, .move (.t 27), none, [], []⟩,
    ⟨some 29, .move (.t 3), some (28, false), [], []⟩,
    ⟨some 30, .bin .gtr (.t 29) (.c (.int .i64) (10 : Int)), some (28, false), [], []⟩,
    ⟨some 31, .pick (.t 28) (.c .bool true) (.t 30), none, [], []⟩,
    ⟨some 32, .move (.t 31), none, [], []⟩,
    ⟨some 33, .fieldAddr (.d tReply) 2 (.t 1), some (32, false), [], []⟩,
    ⟨some 34, .load (.d (.int .i64)) (.t 33), some (32, false), [], []⟩,
    ⟨some 35, .call (.f 27) [(.t 34)] [.d .bool] [] false, some (32, false), [], []⟩,
    ⟨some 36, .not (.t 35), some (32, false), [], []⟩,
    ⟨some 37, .pick (.t 32) (.c .bool true) (.t 36), none, [], []⟩,
    ⟨some 38, .move (.t 37), none, [], []⟩,
    ⟨some 39, .fieldAddr (.d tReply) 5 (.t 1), some (38, false), [], []⟩,
    ⟨some 40, .load (.d (.int .i64)) (.t 39), some (38, false), [], []⟩,
    ⟨some 41, .call (.f 27) [(.t 40)] [.d .bool] [] false, some (38, false), [], []⟩,
    ⟨some 42, .not (.t 41), some (38, false), [], []⟩,
    ⟨some 43, .pick (.t 38) (.c .bool true) (.t 42), none, [], []⟩,
    ⟨some 44, .move (.t 43), none, [], []⟩,
    ⟨some 45, .fieldAddr (.d tReply) 3 (.t 1), some (44, false), [], []⟩,
    ⟨some 46, .load (.d (.sl (.int .i64))) (.t 45), some (44, false), [], []⟩,
    ⟨some 47, .len (.t 46), some (44, false), [], []⟩,
    ⟨some 48, .bin .gtr (.t 47) (.c (.int .i64) (16 : Int)), some (44, false), [], []⟩,
    ⟨some 49, .pick (.t 44) (.c .bool true) (.t 48), none, [], []⟩,
    ⟨some 50, .move (.t 49), none, [], []⟩,
    ⟨some 51, .fieldAddr (.d tReply) 4 (.t 1), some (50, false), [], []⟩,
    ⟨some 52, .load (.d (.sl tSeen)) (.t 51), some (50, false), [], []⟩,
    ⟨some 53, .len (.t 52), some (50, false), [], []⟩,
    ⟨some 54, .bin .gtr (.t 53) (.c (.int .i64) (16 : Int)), some (50, false), [], []⟩,
    ⟨some 55, .pick (.t 50) (.c .bool true) (.t 54), none, [], []⟩]) (innkeepref05_May.c18)) (innkeepref05_May.c17)) (innkeepref05_May.c16)
def innkeepref05_May.c7 : Cd := .seq (.seq (.reg false [⟨some 24, .fieldAddr (.d tReply) 1 (.t 1), none, [], []⟩,
    ⟨some 25, .load (.d (.int .i64)) (.t 24), none, [], []⟩,
    ⟨some 3, .move (.t 25), none, [], []⟩]) (innkeepref05_May.c15)) (innkeepref05_May.c14)
def innkeepref05_May.c1 : Cd := .seq (.seq (.seq (.reg false [⟨some 16, .fieldAddr (.d tReply) 0 (.t 1), none, [], []⟩,
    ⟨some 17, .load (.d (.int .i64)) (.t 16), none, [], []⟩,
    ⟨some 18, .bin .neq (.t 17) (.c (.int .i64) (0 : Int)), none, [], []⟩]) (innkeepref05_May.c9)) (innkeepref05_May.c8)) (innkeepref05_May.c7)
def innkeepref05_May.c0 : Cd := .seq (.seq (.seq (.reg false [⟨some 8, .fieldAddr (.d tReply) 0 (.t 1), none, [], []⟩,
    ⟨some 9, .load (.d (.int .i64)) (.t 8), none, [], []⟩,
    ⟨some 10, .bin .lss (.t 9) (.c (.int .i64) (0 : Int)), none, [], []⟩,
    ⟨some 11, .move (.t 10), none, [], []⟩,
    ⟨some 12, .fieldAddr (.d tReply) 0 (.t 1), some (11, false), [], []⟩,
    ⟨some 13, .load (.d (.int .i64)) (.t 12), some (11, false), [], []⟩,
    ⟨some 14, .bin .gtr (.t 13) (.c (.int .i64) (13 : Int)), some (11, false), [], []⟩,
    ⟨some 15, .pick (.t 11) (.c .bool true) (.t 14), none, [], []⟩]) (innkeepref05_May.c3)) (innkeepref05_May.c2)) (innkeepref05_May.c1)
def innkeepref05_May.fn : Fn := ⟨1, [.tmp 2], .seq (.reg false [⟨some 1, .box 0 (.t 0), none, [], []⟩,
    ⟨some 2, .move (.c .bool false), none, [], []⟩]) (innkeepref05_May.c0)⟩
def innkeeplaw12_SightAll.c3 : Cd := .tidy [14, 15, 16, 17, 18, 19] [] [] none
def innkeeplaw12_SightAll.c6 : Cd := .tidy [21] [] [] none
def innkeeplaw12_SightAll.c5 : Cd := .ret
def innkeeplaw12_SightAll.c4 : Cd := .seq (.seq (.reg false [⟨some 21, .call (.f 8) [] [.d .bool] [] false, none, [], []⟩,
    ⟨some 2, .move (.t 21), none, [], []⟩]) (innkeeplaw12_SightAll.c6)) (innkeeplaw12_SightAll.c5)
def innkeeplaw12_SightAll.c7 : Cd := .skip
def innkeeplaw12_SightAll.c2 : Cd := .cond (.t 20) (.seq (.tidy [20] [] [] none) (innkeeplaw12_SightAll.c4)) (.seq (.tidy [20] [] [] none) (innkeeplaw12_SightAll.c7))
def innkeeplaw12_SightAll.c9 : Cd := .tidy [22, 23, 24, 25] [] [] none
def innkeeplaw12_SightAll.c17 : Cd := .tidy [26, 27, 28, 29, 30] [] [] none
def innkeeplaw12_SightAll.c18 : Cd := .skip
def innkeeplaw12_SightAll.c66 : Cd := .exit 0
def innkeeplaw12_SightAll.c16 : Cd := .cond (.t 31) (.seq (.tidy [31] [] [] none) (innkeeplaw12_SightAll.c18)) (.seq (.tidy [31] [] [] none) (innkeeplaw12_SightAll.c66))
def innkeeplaw12_SightAll.c21 : Cd := .tidy [34, 35, 36] [] [] none
def innkeeplaw12_SightAll.c23 : Cd := .tidy [37, 38, 39, 40] [] [] none
def innkeeplaw12_SightAll.c29 : Cd := .tidy [41, 42, 43] [] [] none
def innkeeplaw12_SightAll.c30 : Cd := .skip
def innkeeplaw12_SightAll.c64 : Cd := .exit 2
def innkeeplaw12_SightAll.c28 : Cd := .cond (.t 44) (.seq (.tidy [44] [] [] none) (innkeeplaw12_SightAll.c30)) (.seq (.tidy [44] [] [] none) (innkeeplaw12_SightAll.c64))
def innkeeplaw12_SightAll.c34 : Cd := .tidy [47, 48, 49, 50, 51, 52, 53, 54, 55, 56, 57, 58, 59, 60, 61, 62, 63, 64, 65, 66, 67, 68, 69, 70, 71, 72] [] [] none
def innkeeplaw12_SightAll.c36 : Cd := .ret
def innkeeplaw12_SightAll.c35 : Cd := .seq (.reg false [⟨some 2, .move (.c .bool false), none, [], []⟩]) (innkeeplaw12_SightAll.c36)
def innkeeplaw12_SightAll.c37 : Cd := .skip
def innkeeplaw12_SightAll.c33 : Cd := .cond (.t 73) (.seq (.tidy [73] [] [] none) (innkeeplaw12_SightAll.c35)) (.seq (.tidy [73] [] [] none) (innkeeplaw12_SightAll.c37))
def innkeeplaw12_SightAll.c39 : Cd := .tidy [74, 75, 76, 77, 78, 79] [] [] none
def innkeeplaw12_SightAll.c42 : Cd := .tidy [80, 81, 82, 83, 84, 85, 86, 87, 88, 89, 90, 91, 92, 93, 94, 95, 96, 97, 98, 99, 100, 101, 102, 103, 104] [] [] none
def innkeeplaw12_SightAll.c44 : Cd := .ret
def innkeeplaw12_SightAll.c43 : Cd := .seq (.reg false [⟨some 2, .move (.c .bool false), none, [], []⟩]) (innkeeplaw12_SightAll.c44)
def innkeeplaw12_SightAll.c45 : Cd := .skip
def innkeeplaw12_SightAll.c41 : Cd := .cond (.t 105) (.seq (.tidy [105] [] [] none) (innkeeplaw12_SightAll.c43)) (.seq (.tidy [105] [] [] none) (innkeeplaw12_SightAll.c45))
def innkeeplaw12_SightAll.c51 : Cd := .tidy [106, 107, 108, 109, 110, 111, 112, 113] [] [] none
def innkeeplaw12_SightAll.c52 : Cd := .skip
def innkeeplaw12_SightAll.c62 : Cd := .exit 4
def innkeeplaw12_SightAll.c50 : Cd := .cond (.t 114) (.seq (.tidy [114] [] [] none) (innkeeplaw12_SightAll.c52)) (.seq (.tidy [114] [] [] none) (innkeeplaw12_SightAll.c62))
def innkeeplaw12_SightAll.c56 : Cd := .tidy [117, 118, 119, 120, 121, 122, 123, 124, 125, 126, 127, 128, 129, 130, 131, 132, 133] [] [] none
def innkeeplaw12_SightAll.c58 : Cd := .ret
def innkeeplaw12_SightAll.c57 : Cd := .seq (.reg false [⟨some 2, .move (.c .bool false), none, [], []⟩]) (innkeeplaw12_SightAll.c58)
def innkeeplaw12_SightAll.c59 : Cd := .skip
def innkeeplaw12_SightAll.c55 : Cd := .cond (.t 134) (.seq (.tidy [134] [] [] none) (innkeeplaw12_SightAll.c57)) (.seq (.tidy [134] [] [] none) (innkeeplaw12_SightAll.c59))
def innkeeplaw12_SightAll.c60 : Cd := .tidy [135, 136, 137, 138, 139, 140, 141, 142, 143, 144, 145] [] [] none
def innkeeplaw12_SightAll.c54 : Cd := .seq (.reg false [⟨some 135, .move (.t 3), none, [], []⟩,
    ⟨some 136, .fieldAddr (.d tReply) 4 (.t 8), none, [], []⟩,
    ⟨some 137, .load (.d (.sl tSeen)) (.t 136), none, [], []⟩,
    ⟨some 138, .move (.t 9), none, [], []⟩,
    ⟨some 139, .index (.sl tSeen) (.t 137) (.t 138), none, [], []⟩,
    ⟨some 140, .fieldAddr (.d tSeen) 0 (.t 139), none, [], []⟩,
    ⟨some 141, .load (.d (.int .i64)) (.t 140), none, [], []⟩,
    ⟨some 142, .index (.sl (.int .i64)) (.t 135) (.t 141), none, [], []⟩,
    ⟨some 143, .load (.d (.int .i64)) (.t 142), none, [], []⟩,
    ⟨some 144, .bin .add (.t 143) (.c (.int .i64) (1 : Int)), none, [], []⟩,
    ⟨some 145, .index (.sl (.int .i64)) (.t 135) (.t 141), none, [], []⟩,
    ⟨none, .store (.d (.int .i64)) (.t 145) (.t 144), none, [], []⟩]) (innkeeplaw12_SightAll.c60)
def innkeeplaw12_SightAll.c61 : Cd := .tidy [115, 116] [] [] none
def innkeeplaw12_SightAll.c53 : Cd := .seq (.reg false [⟨some 115, .move (.t 9), none, [], []⟩,
    ⟨some 116, .bin .add (.t 115) (.c (.int .i64) (1 : Int)), none, [], []⟩,
    ⟨some 9, .move (.t 116), none, [], []⟩]) (innkeeplaw12_SightAll.c61)
def innkeeplaw12_SightAll.c49 : Cd := .seq (.block 5 (.seq (.seq (.seq (.reg false [⟨some 117, .fieldAddr (.d tReply) 4 (.t 8), none, [], []⟩,
    ⟨some 118, .load (.d (.sl tSeen)) (.t 117), none, [], []⟩,
    ⟨some 119, .move (.t 9), none, [], []⟩,
    ⟨some 120, .index (.sl tSeen) (.t 118) (.t 119), none, [], []⟩,
    ⟨some 121, .fieldAddr (.d tSeen) 0 (.t 120), none, [], []⟩,
    ⟨some 122, .load (.d (.int .i64)) (.t 121), none, [], []⟩,
    ⟨some 123, .bin .lss (.t 122) (.c (.int .i64) (0 : Int)), none, [], []⟩,
    ⟨some 124, .move (.t 123), none, [], []⟩,
    ⟨some 125, .fieldAddr (.d tReply) 4 (.t 8), some (124, false), [], []⟩,
    ⟨some 126, .load (.d (.sl tSeen)) (.t 125), some (124, false), [], []⟩,
    ⟨some 127, .move (.t 9), some (124, false), [], []⟩,
    ⟨some 128, .index (.sl tSeen) (.t 126) (.t 127), some (124, false), [], []⟩,
    ⟨some 129, .fieldAddr (.d tSeen) 0 (.t 128), some (124, false), [], []⟩,
    ⟨some 130, .load (.d (.int .i64)) (.t 129), some (124, false), [], []⟩,
    ⟨some 131, .move (.t 3), some (124, false), [], []⟩,
    ⟨some 132, .len (.t 131), some (124, false), [], []⟩,
    ⟨some 133, .bin .geq (.t 130) (.t 132), some (124, false), [], []⟩,
    ⟨some 134, .pick (.t 124) (.c .bool true) (.t 133), none, [], []⟩]) (innkeeplaw12_SightAll.c56)) (innkeeplaw12_SightAll.c55)) (innkeeplaw12_SightAll.c54))) (innkeeplaw12_SightAll.c53)
def innkeeplaw12_SightAll.c48 : Cd := .tidy [] [] [] (some 3)
def innkeeplaw12_SightAll.c47 : Cd := .seq (.seq (.seq (.seq (.reg false [⟨some 106, .move (.t 9), none, [], []⟩,
    ⟨some 107, .fieldAddr (.d tReply) 4 (.t 8), none, [], []⟩,
    ⟨some 108, .load (.d (.sl tSeen)) (.t 107), none, [], []⟩,
    ⟨some 109, .len (.t 108), none, [], []⟩,
    ⟨some 110, .bin .lss (.t 106) (.t 109), none, [], []⟩,
    ⟨some 111, .move (.t 110), none, [], []⟩,
    ⟨some 112, .move (.t 7), some (111, true), [], []⟩,
    ⟨some 113, .bin .eql (.t 112) (.c (.int .i64) (0 : Int)), some (111, true), [], []⟩,
    ⟨some 114, .pick (.t 111) (.t 113) (.c .bool false), none, [], []⟩]) (innkeeplaw12_SightAll.c51)) (innkeeplaw12_SightAll.c50)) (innkeeplaw12_SightAll.c49)) (innkeeplaw12_SightAll.c48)
def innkeeplaw12_SightAll.c46 : Cd := .block 4 (.loop (innkeeplaw12_SightAll.c47))
def innkeeplaw12_SightAll.c40 : Cd := .seq (.reg false [⟨some 9, .move (.c (.int .i64) (0 : Int)), none, [], []⟩]) (innkeeplaw12_SightAll.c46)
def innkeeplaw12_SightAll.c38 : Cd := .seq (.seq (.seq (.reg true [⟨some 80, .load (.d tReply) (.t 8), none, [2], []⟩,
    ⟨some 81, .call (.f 18) [(.t 80)] [.d .bool] [] false, none, [], []⟩,
    ⟨some 82, .not (.t 81), none, [], []⟩,
    ⟨some 83, .move (.t 82), none, [], []⟩,
    ⟨some 84, .load (.d tReply) (.t 8), some (83, false), [2], []⟩,
    ⟨some 85, .load (.d tWorld) (.t 1), some (83, false), [0], []⟩,
    ⟨some 86, .move (.t 6), some (83, false), [], []⟩,
    ⟨some 87, .index (.sl (.int .i64)) (.t 86) (.c (.int .i64) (0 : Int)), some (83, false), [], []⟩,
    ⟨some 88, .load (.d (.int .i64)) (.t 87), some (83, false), [], []⟩,
    ⟨some 89, .call (.f 11) [(.t 85), (.t 88)] [.d tReply] [] false, some (83, false), [], []⟩,
    ⟨some 90, .call (.f 10) [(.t 84), (.t 89)] [.d .bool] [] false, some (83, false), [], []⟩,
    ⟨some 91, .not (.t 90), some (83, false), [], []⟩,
    ⟨some 92, .pick (.t 83) (.c .bool true) (.t 91), none, [], []⟩,
    ⟨some 93, .move (.t 92), none, [], []⟩,
    ⟨some 94, .fieldAddr (.d tReply) 2 (.t 8), some (93, false), [2], []⟩,
    ⟨some 95, .load (.d (.int .i64)) (.t 94), some (93, false), [2], []⟩,
    ⟨some 96, .move (.t 5), some (93, false), [], []⟩,
    ⟨some 97, .bin .neq (.t 95) (.t 96), some (93, false), [], []⟩,
    ⟨some 98, .pick (.t 93) (.c .bool true) (.t 97), none, [], []⟩,
    ⟨some 99, .move (.t 98), none, [], []⟩,
    ⟨some 100, .fieldAddr (.d tReply) 3 (.t 8), some (99, false), [2], []⟩,
    ⟨some 101, .load (.d (.sl (.int .i64))) (.t 100), some (99, false), [2], []⟩,
    ⟨some 102, .move (.t 6), some (99, false), [], []⟩,
    ⟨some 103, .call (.f 15) [(.t 101), (.t 102)] [.d .bool] [] false, some (99, false), [], []⟩,
    ⟨some 104, .not (.t 103), some (99, false), [], []⟩,
    ⟨some 105, .pick (.t 99) (.c .bool true) (.t 104), none, [], []⟩]) (innkeeplaw12_SightAll.c42)) (innkeeplaw12_SightAll.c41)) (innkeeplaw12_SightAll.c40)
def innkeeplaw12_SightAll.c32 : Cd := .seq (.seq (.reg true [⟨some 74, .load (.d tWorld) (.t 1), none, [0], []⟩,
    ⟨some 75, .move (.t 6), none, [], []⟩,
    ⟨some 76, .move (.t 7), none, [], []⟩,
    ⟨some 77, .index (.sl (.int .i64)) (.t 75) (.t 76), none, [], []⟩,
    ⟨some 78, .load (.d (.int .i64)) (.t 77), none, [], []⟩,
    ⟨some 79, .call (.f 11) [(.t 74), (.t 78)] [.d tReply] [] false, none, [], []⟩,
    ⟨some 8, .newbox 2 tReply [], none, [], [2]⟩,
    ⟨none, .store (.d tReply) (.t 8) (.t 79), none, [], [2]⟩]) (innkeeplaw12_SightAll.c39)) (innkeeplaw12_SightAll.c38)
def innkeeplaw12_SightAll.c63 : Cd := .tidy [45, 46] [] [] none
def innkeeplaw12_SightAll.c31 : Cd := .seq (.reg false [⟨some 45, .move (.t 7), none, [], []⟩,
    ⟨some 46, .bin .add (.t 45) (.c (.int .i64) (1 : Int)), none, [], []⟩,
    ⟨some 7, .move (.t 46), none, [], []⟩]) (innkeeplaw12_SightAll.c63)
def innkeeplaw12_SightAll.c27 : Cd := .seq (.block 3 (.seq (.seq (.seq (.reg true [⟨some 47, .move (.t 6), none, [], []⟩,
    ⟨some 48, .move (.t 7), none, [], []⟩,
    ⟨some 49, .index (.sl (.int .i64)) (.t 47) (.t 48), none, [], []⟩,
    ⟨some 50, .load (.d (.int .i64)) (.t 49), none, [], []⟩,
    ⟨some 51, .bin .lss (.t 50) (.c (.int .i64) (0 : Int)), none, [], []⟩,
    ⟨some 52, .move (.t 51), none, [], []⟩,
    ⟨some 53, .move (.t 6), some (52, false), [], []⟩,
    ⟨some 54, .move (.t 7), some (52, false), [], []⟩,
    ⟨some 55, .index (.sl (.int .i64)) (.t 53) (.t 54), some (52, false), [], []⟩,
    ⟨some 56, .load (.d (.int .i64)) (.t 55), some (52, false), [], []⟩,
    ⟨some 57, .fieldAddr (.d tWorld) 1 (.t 1), some (52, false), [0], []⟩,
    ⟨some 58, .load (.d (.sl (.int .i64))) (.t 57), some (52, false), [0], []⟩,
    ⟨some 59, .len (.t 58), some (52, false), [], []⟩,
    ⟨some 60, .bin .geq (.t 56) (.t 59), some (52, false), [], []⟩,
    ⟨some 61, .pick (.t 52) (.c .bool true) (.t 60), none, [], []⟩,
    ⟨some 62, .move (.t 61), none, [], []⟩,
    ⟨some 63, .fieldAddr (.d tWorld) 1 (.t 1), some (62, false), [0], []⟩,
    ⟨some 64, .load (.d (.sl (.int .i64))) (.t 63), some (62, false), [0], []⟩,
    ⟨some 65, .move (.t 6), some (62, false), [], []⟩,
    ⟨some 66, .move (.t 7), some (62, false), [], []⟩,
    ⟨some 67, .index (.sl (.int .i64)) (.t 65) (.t 66), some (62, false), [], []⟩,
    ⟨some 68, .load (.d (.int .i64)) (.t 67), some (62, false), [], []⟩,
    ⟨some 69, .index (.sl (.int .i64)) (.t 64) (.t 68), some (62, false), [], []⟩,
    ⟨some 70, .load (.d (.int .i64)) (.t 69), some (62, false), [], []⟩,
    ⟨some 71, .move (.t 5), some (62, false), [], []⟩,
    ⟨some 72, .bin .neq (.t 70) (.t 71), some (62, false), [], []⟩,
    ⟨some 73, .pick (.t 62) (.c .bool true) (.t 72), none, [], []⟩]) (innkeeplaw12_SightAll.c34)) (innkeeplaw12_SightAll.c33)) (innkeeplaw12_SightAll.c32))) (innkeeplaw12_SightAll.c31)
def innkeeplaw12_SightAll.c26 : Cd := .tidy [8, 9] [] [] (some 2)
def innkeeplaw12_SightAll.c25 : Cd := .seq (.seq (.seq (.seq (.reg false [⟨some 41, .move (.t 7), none, [], []⟩,
    ⟨some 42, .move (.t 6), none, [], []⟩,
    ⟨some 43, .len (.t 42), none, [], []⟩,
    ⟨some 44, .bin .lss (.t 41) (.t 43), none, [], []⟩]) (innkeeplaw12_SightAll.c29)) (innkeeplaw12_SightAll.c28)) (innkeeplaw12_SightAll.c27)) (innkeeplaw12_SightAll.c26)
def innkeeplaw12_SightAll.c24 : Cd := .block 2 (.loop (innkeeplaw12_SightAll.c25))
def innkeeplaw12_SightAll.c22 : Cd := .seq (.reg false [⟨some 7, .move (.c (.int .i64) (0 : Int)), none, [], []⟩]) (innkeeplaw12_SightAll.c24)
def innkeeplaw12_SightAll.c20 : Cd := .seq (.seq (.reg false [⟨some 37, .move (.t 4), none, [], []⟩,
    ⟨some 38, .move (.t 6), none, [], []⟩,
    ⟨some 39, .len (.t 38), none, [], []⟩,
    ⟨some 40, .bin .add (.t 37) (.t 39), none, [], []⟩,
    ⟨some 4, .move (.t 40), none, [], []⟩]) (innkeeplaw12_SightAll.c23)) (innkeeplaw12_SightAll.c22)
def innkeeplaw12_SightAll.c65 : Cd := .tidy [32, 33] [] [] none
def innkeeplaw12_SightAll.c19 : Cd := .seq (.reg false [⟨some 32, .move (.t 5), none, [], []⟩,
    ⟨some 33, .bin .add (.t 32) (.c (.int .i64) (1 : Int)), none, [], []⟩,
    ⟨some 5, .move (.t 33), none, [], []⟩]) (innkeeplaw12_SightAll.c65)
def innkeeplaw12_SightAll.c15 : Cd := .seq (.block 1 (.seq (.seq (.reg false [⟨some 34, .load (.d tWorld) (.t 1), none, [], []⟩,
    ⟨some 35, .move (.t 5), none, [], []⟩,
    ⟨some 36, .call (.f 16) [(.t 34), (.t 35)] [.d (.sl (.int .i64))] [] false, none, [], []⟩,
    ⟨some 6, .move (.t 36), none, [], []⟩]) (innkeeplaw12_SightAll.c21)) (innkeeplaw12_SightAll.c20))) (innkeeplaw12_SightAll.c19)
def innkeeplaw12_SightAll.c14 : Cd := .tidy [6, 7] [] [] (some 2)
def innkeeplaw12_SightAll.c13 : Cd := .seq (.seq (.seq (.seq (.reg false [⟨some 26, .move (.t 5), none, [], []⟩,
    ⟨some 27, .fieldAddr (.d tWorld) 0 (.t 1), none, [], []⟩,
    ⟨some 28, .fieldAddr (.d tDesc) 0 (.t 27), none, [], []⟩,
    ⟨some 29, .load (.d (.sl (.arr 4 (.int .i64)))) (.t 28), none, [], []⟩,
    ⟨some 30, .len (.t 29), none, [], []⟩,
    ⟨some 31, .bin .lss (.t 26) (.t 30), none, [], []⟩]) (innkeeplaw12_SightAll.c17)) (innkeeplaw12_SightAll.c16)) (innkeeplaw12_SightAll.c15)) (innkeeplaw12_SightAll.c14)
def innkeeplaw12_SightAll.c12 : Cd := .block 0 (.loop (innkeeplaw12_SightAll.c13))
def innkeeplaw12_SightAll.c73 : Cd := .tidy [146, 147, 148, 149] [] [] none
def innkeeplaw12_SightAll.c74 : Cd := .skip
def innkeeplaw12_SightAll.c102 : Cd := .exit 6
def innkeeplaw12_SightAll.c72 : Cd := .cond (.t 150) (.seq (.tidy [150] [] [] none) (innkeeplaw12_SightAll.c74)) (.seq (.tidy [150] [] [] none) (innkeeplaw12_SightAll.c102))
def innkeeplaw12_SightAll.c77 : Cd := .tidy [153, 154, 155] [] [] none
def innkeeplaw12_SightAll.c80 : Cd := .tidy [156, 157, 158, 159, 160, 161, 162, 163, 164, 165, 166, 167] [] [] none
def innkeeplaw12_SightAll.c82 : Cd := .ret
def innkeeplaw12_SightAll.c81 : Cd := .seq (.reg false [⟨some 2, .move (.c .bool false), none, [], []⟩]) (innkeeplaw12_SightAll.c82)
def innkeeplaw12_SightAll.c83 : Cd := .skip
def innkeeplaw12_SightAll.c79 : Cd := .cond (.t 168) (.seq (.tidy [168] [] [] none) (innkeeplaw12_SightAll.c81)) (.seq (.tidy [168] [] [] none) (innkeeplaw12_SightAll.c83))
def innkeeplaw12_SightAll.c89 : Cd := .tidy [169, 170, 171, 172] [] [] none
def innkeeplaw12_SightAll.c90 : Cd := .skip
def innkeeplaw12_SightAll.c100 : Cd := .exit 8
def innkeeplaw12_SightAll.c88 : Cd := .cond (.t 173) (.seq (.tidy [173] [] [] none) (innkeeplaw12_SightAll.c90)) (.seq (.tidy [173] [] [] none) (innkeeplaw12_SightAll.c100))
def innkeeplaw12_SightAll.c94 : Cd := .tidy [176, 177, 178, 179, 180, 181, 182, 183, 184, 185, 186, 187, 188, 189, 190, 191, 192] [] [] none
def innkeeplaw12_SightAll.c96 : Cd := .ret
def innkeeplaw12_SightAll.c95 : Cd := .seq (.reg false [⟨some 2, .move (.c .bool false), none, [], []⟩]) (innkeeplaw12_SightAll.c96)
def innkeeplaw12_SightAll.c97 : Cd := .skip
def innkeeplaw12_SightAll.c93 : Cd := .cond (.t 193) (.seq (.tidy [193] [] [] none) (innkeeplaw12_SightAll.c95)) (.seq (.tidy [193] [] [] none) (innkeeplaw12_SightAll.c97))
def innkeeplaw12_SightAll.c98 : Cd := .tidy [194, 195, 196, 197, 198, 199, 200, 201, 202, 203, 204] [] [] none
def innkeeplaw12_SightAll.c92 : Cd := .seq (.reg false [⟨some 194, .move (.t 3), none, [], []⟩,
    ⟨some 195, .fieldAddr (.d tReply) 4 (.t 11), none, [], []⟩,
    ⟨some 196, .load (.d (.sl tSeen)) (.t 195), none, [], []⟩,
    ⟨some 197, .move (.t 12), none, [], []⟩,
    ⟨some 198, .index (.sl tSeen) (.t 196) (.t 197), none, [], []⟩,
    ⟨some 199, .fieldAddr (.d tSeen) 0 (.t 198), none, [], []⟩,
    ⟨some 200, .load (.d (.int .i64)) (.t 199), none, [], []⟩,
    ⟨some 201, .index (.sl (.int .i64)) (.t 194) (.t 200), none, [], []⟩,
    ⟨some 202, .load (.d (.int .i64)) (.t 201), none, [], []⟩,
    ⟨some 203, .bin .add (.t 202) (.c (.int .i64) (1 : Int)), none, [], []⟩,
    ⟨some 204, .index (.sl (.int .i64)) (.t 194) (.t 200), none, [], []⟩,
    ⟨none, .store (.d (.int .i64)) (.t 204) (.t 203), none, [], []⟩]) (innkeeplaw12_SightAll.c98)
def innkeeplaw12_SightAll.c99 : Cd := .tidy [174, 175] [] [] none
def innkeeplaw12_SightAll.c91 : Cd := .seq (.reg false [⟨some 174, .move (.t 12), none, [], []⟩,
    ⟨some 175, .bin .add (.t 174) (.c (.int .i64) (1 : Int)), none, [], []⟩,
    ⟨some 12, .move (.t 175), none, [], []⟩]) (innkeeplaw12_SightAll.c99)
def innkeeplaw12_SightAll.c87 : Cd := .seq (.block 9 (.seq (.seq (.seq (.reg false [⟨some 176, .fieldAddr (.d tReply) 4 (.t 11), none, [], []⟩,
    ⟨some 177, .load (.d (.sl tSeen)) (.t 176), none, [], []⟩,
    ⟨some 178, .move (.t 12), none, [], []⟩,
    ⟨some 179, .index (.sl tSeen) (.t 177) (.t 178), none, [], []⟩,
    ⟨some 180, .fieldAddr (.d tSeen) 0 (.t 179), none, [], []⟩,
    ⟨some 181, .load (.d (.int .i64)) (.t 180), none, [], []⟩,
    ⟨some 182, .bin .lss (.t 181) (.c (.int .i64) (0 : Int)), none, [], []⟩,
    ⟨some 183, .move (.t 182), none, [], []⟩,
    ⟨some 184, .fieldAddr (.d tReply) 4 (.t 11), some (183, false), [], []⟩,
    ⟨some 185, .load (.d (.sl tSeen)) (.t 184), some (183, false), [], []⟩,
    ⟨some 186, .move (.t 12), some (183, false), [], []⟩,
    ⟨some 187, .index (.sl tSeen) (.t 185) (.t 186), some (183, false), [], []⟩,
    ⟨some 188, .fieldAddr (.d tSeen) 0 (.t 187), some (183, false), [], []⟩,
    ⟨some 189, .load (.d (.int .i64)) (.t 188), some (183, false), [], []⟩,
    ⟨some 190, .move (.t 3), some (183, false), [], []⟩,
    ⟨some 191, .len (.t 190), some (183, false), [], []⟩,
    ⟨some 192, .bin .geq (.t 189) (.t 191), some (183, false), [], []⟩,
    ⟨some 193, .pick (.t 183) (.c .bool true) (.t 192), none, [], []⟩]) (innkeeplaw12_SightAll.c94)) (innkeeplaw12_SightAll.c93)) (innkeeplaw12_SightAll.c92))) (innkeeplaw12_SightAll.c91)
def innkeeplaw12_SightAll.c86 : Cd := .tidy [] [] [] (some 4)
def innkeeplaw12_SightAll.c85 : Cd := .seq (.seq (.seq (.seq (.reg false [⟨some 169, .move (.t 12), none, [], []⟩,
    ⟨some 170, .fieldAddr (.d tReply) 4 (.t 11), none, [], []⟩,
    ⟨some 171, .load (.d (.sl tSeen)) (.t 170), none, [], []⟩,
    ⟨some 172, .len (.t 171), none, [], []⟩,
    ⟨some 173, .bin .lss (.t 169) (.t 172), none, [], []⟩]) (innkeeplaw12_SightAll.c89)) (innkeeplaw12_SightAll.c88)) (innkeeplaw12_SightAll.c87)) (innkeeplaw12_SightAll.c86)
def innkeeplaw12_SightAll.c84 : Cd := .block 8 (.loop (innkeeplaw12_SightAll.c85))
def innkeeplaw12_SightAll.c78 : Cd := .seq (.reg false [⟨some 12, .move (.c (.int .i64) (0 : Int)), none, [], []⟩]) (innkeeplaw12_SightAll.c84)
def innkeeplaw12_SightAll.c76 : Cd := .seq (.seq (.seq (.reg true [⟨some 156, .load (.d tReply) (.t 11), none, [3], []⟩,
    ⟨some 157, .call (.f 18) [(.t 156)] [.d .bool] [] false, none, [], []⟩,
    ⟨some 158, .not (.t 157), none, [], []⟩,
    ⟨some 159, .move (.t 158), none, [], []⟩,
    ⟨some 160, .fieldAddr (.d tReply) 5 (.t 11), some (159, false), [3], []⟩,
    ⟨some 161, .load (.d (.int .i64)) (.t 160), some (159, false), [3], []⟩,
    ⟨some 162, .fieldAddr (.d tWorld) 2 (.t 1), some (159, false), [0], []⟩,
    ⟨some 163, .load (.d (.sl (.int .i64))) (.t 162), some (159, false), [0], []⟩,
    ⟨some 164, .move (.t 10), some (159, false), [], []⟩,
    ⟨some 165, .index (.sl (.int .i64)) (.t 163) (.t 164), some (159, false), [], []⟩,
    ⟨some 166, .load (.d (.int .i64)) (.t 165), some (159, false), [], []⟩,
    ⟨some 167, .bin .neq (.t 161) (.t 166), some (159, false), [], []⟩,
    ⟨some 168, .pick (.t 159) (.c .bool true) (.t 167), none, [], []⟩]) (innkeeplaw12_SightAll.c80)) (innkeeplaw12_SightAll.c79)) (innkeeplaw12_SightAll.c78)
def innkeeplaw12_SightAll.c101 : Cd := .tidy [151, 152] [] [] none
def innkeeplaw12_SightAll.c75 : Cd := .seq (.reg false [⟨some 151, .move (.t 10), none, [], []⟩,
    ⟨some 152, .bin .add (.t 151) (.c (.int .i64) (1 : Int)), none, [], []⟩,
    ⟨some 10, .move (.t 152), none, [], []⟩]) (innkeeplaw12_SightAll.c101)
def innkeeplaw12_SightAll.c71 : Cd := .seq (.block 7 (.seq (.seq (.reg false [⟨some 153, .load (.d tWorld) (.t 1), none, [], []⟩,
    ⟨some 154, .move (.t 10), none, [], []⟩,
    ⟨some 155, .call (.f 13) [(.t 153), (.t 154)] [.d tReply] [] false, none, [], []⟩,
    ⟨some 11, .newbox 3 tReply [], none, [], []⟩,
    ⟨none, .store (.d tReply) (.t 11) (.t 155), none, [], []⟩]) (innkeeplaw12_SightAll.c77)) (innkeeplaw12_SightAll.c76))) (innkeeplaw12_SightAll.c75)
def innkeeplaw12_SightAll.c70 : Cd := .tidy [11, 12] [] [] (some 2)
def innkeeplaw12_SightAll.c69 : Cd := .seq (.seq (.seq (.seq (.reg false [⟨some 146, .move (.t 10), none, [], []⟩,
    ⟨some 147, .fieldAddr (.d tWorld) 1 (.t 1), none, [], []⟩,
    ⟨some 148, .load (.d (.sl (.int .i64))) (.t 147), none, [], []⟩,
    ⟨some 149, .len (.t 148), none, [], []⟩,
    ⟨some 150, .bin .lss (.t 146) (.t 149), none, [], []⟩]) (innkeeplaw12_SightAll.c73)) (innkeeplaw12_SightAll.c72)) (innkeeplaw12_SightAll.c71)) (innkeeplaw12_SightAll.c70)
def innkeeplaw12_SightAll.c68 : Cd := .block 6 (.loop (innkeeplaw12_SightAll.c69))
def innkeeplaw12_SightAll.c109 : Cd := .tidy [205, 206, 207] [] [] none
def innkeeplaw12_SightAll.c110 : Cd := .skip
def innkeeplaw12_SightAll.c118 : Cd := .exit 10
def innkeeplaw12_SightAll.c108 : Cd := .cond (.t 208) (.seq (.tidy [208] [] [] none) (innkeeplaw12_SightAll.c110)) (.seq (.tidy [208] [] [] none) (innkeeplaw12_SightAll.c118))
def innkeeplaw12_SightAll.c113 : Cd := .tidy [211, 212, 213, 214] [] [] none
def innkeeplaw12_SightAll.c115 : Cd := .ret
def innkeeplaw12_SightAll.c114 : Cd := .seq (.reg false [⟨some 2, .move (.c .bool false), none, [], []⟩]) (innkeeplaw12_SightAll.c115)
def innkeeplaw12_SightAll.c116 : Cd := .skip
def innkeeplaw12_SightAll.c112 : Cd := .cond (.t 215) (.seq (.tidy [215] [] [] none) (innkeeplaw12_SightAll.c114)) (.seq (.tidy [215] [] [] none) (innkeeplaw12_SightAll.c116))
def innkeeplaw12_SightAll.c117 : Cd := .tidy [209, 210] [] [] none
def innkeeplaw12_SightAll.c111 : Cd := .seq (.reg false [⟨some 209, .move (.t 13), none, [], []⟩,
    ⟨some 210, .bin .add (.t 209) (.c (.int .i64) (1 : Int)), none, [], []⟩,
    ⟨some 13, .move (.t 210), none, [], []⟩]) (innkeeplaw12_SightAll.c117)
def innkeeplaw12_SightAll.c107 : Cd := .seq (.block 11 (.seq (.seq (.reg false [⟨some 211, .move (.t 3), none, [], []⟩,
    ⟨some 212, .move (.t 13), none, [], []⟩,
    ⟨some 213, .index (.sl (.int .i64)) (.t 211) (.t 212), none, [], []⟩,
    ⟨some 214, .load (.d (.int .i64)) (.t 213), none, [], []⟩,
    ⟨some 215, .bin .gtr (.t 214) (.c (.int .i64) (1 : Int)), none, [], []⟩]) (innkeeplaw12_SightAll.c113)) (innkeeplaw12_SightAll.c112))) (innkeeplaw12_SightAll.c111)
def innkeeplaw12_SightAll.c106 : Cd := .tidy [] [] [] (some 2)
def innkeeplaw12_SightAll.c105 : Cd := .seq (.seq (.seq (.seq (.reg false [⟨some 205, .move (.t 13), none, [], []⟩,
    ⟨some 206, .move (.t 3), none, [], []⟩,
    ⟨some 207, .len (.t 206), none, [], []⟩,
    ⟨some 208, .bin .lss (.t 205) (.t 207), none, [], []⟩]) (innkeeplaw12_SightAll.c109)) (innkeeplaw12_SightAll.c108)) (innkeeplaw12_SightAll.c107)) (innkeeplaw12_SightAll.c106)
def innkeeplaw12_SightAll.c104 : Cd := .block 10 (.loop (innkeeplaw12_SightAll.c105))
def innkeeplaw12_SightAll.c120 : Cd := .tidy [216, 217, 218, 219, 220] [] [] none
def innkeeplaw12_SightAll.c119 : Cd := .ret
def innkeeplaw12_SightAll.c103 : Cd := .seq (.seq (.reg false [⟨some 216, .move (.t 4), none, [], []⟩,
    ⟨some 217, .fieldAddr (.d tWorld) 1 (.t 1), none, [], []⟩,
    ⟨some 218, .load (.d (.sl (.int .i64))) (.t 217), none, [], []⟩,
    ⟨some 219, .len (.t 218), none, [], []⟩,
    ⟨some 220, .bin .eql (.t 216) (.t 219), none, [], []⟩,
    ⟨some 2, .move (.t 220), none, [], []⟩]) (innkeeplaw12_SightAll.c120)) (innkeeplaw12_SightAll.c119)
def innkeeplaw12_SightAll.c67 : Cd := .seq (.seq (.reg false [⟨some 13, .move (.c (.int .i64) (0 : Int)), none, [], []⟩]) (innkeeplaw12_SightAll.c104)) (innkeeplaw12_SightAll.c103)
def innkeeplaw12_SightAll.c11 : Cd := .seq (.seq (.reg false [⟨some 10, .move (.c (.int .i64) (0 : Int)), none, [], []⟩]) (innkeeplaw12_SightAll.c68)) (innkeeplaw12_SightAll.c67)
def innkeeplaw12_SightAll.c10 : Cd := .seq (.seq (.reg false [⟨some 5, .move (.c (.int .i64) (0 : Int)), none, [], []⟩]) (innkeeplaw12_SightAll.c12)) (innkeeplaw12_SightAll.c11)
def innkeeplaw12_SightAll.c8 : Cd := .seq (.reg false [⟨some 4, .move (.c (.int .i64) (0 : Int)), none, [], []⟩]) (innkeeplaw12_SightAll.c10)
def innkeeplaw12_SightAll.c1 : Cd := .seq (.seq (.reg false [⟨some 22, .fieldAddr (.d tWorld) 3 (.t 1), none, [], []⟩,
    ⟨some 23, .load (.d (.sl tPlace)) (.t 22), none, [], []⟩,
    ⟨some 24, .len (.t 23), none, [], []⟩,
    ⟨some 25, .make 1 (.int .i64) (.t 24), none, [], []⟩,
    ⟨some 3, .move (.t 25), none, [], []⟩]) (innkeeplaw12_SightAll.c9)) (innkeeplaw12_SightAll.c8)
def innkeeplaw12_SightAll.c0 : Cd := .seq (.seq (.seq (.reg false [⟨some 14, .call (.f 8) [] [.d .bool] [] false, none, [], []⟩,
    ⟨some 15, .not (.t 14), none, [], []⟩,
    ⟨some 16, .move (.t 15), none, [], []⟩,
    ⟨some 17, .load (.d tWorld) (.t 1), some (16, false), [], []⟩,
    ⟨some 18, .call (.f 9) [(.t 17)] [.d .bool] [] false, some (16, false), [], []⟩,
    ⟨some 19, .not (.t 18), some (16, false), [], []⟩,
    ⟨some 20, .pick (.t 16) (.c .bool true) (.t 19), none, [], []⟩]) (innkeeplaw12_SightAll.c3)) (innkeeplaw12_SightAll.c2)) (innkeeplaw12_SightAll.c1)
def innkeeplaw12_SightAll.fn : Fn := ⟨1, [.tmp 2], .seq (.reg false [⟨some 1, .box 0 (.t 0), none, [], []⟩,
    ⟨some 2, .move (.c .bool false), none, [], []⟩]) (innkeeplaw12_SightAll.c0)⟩
def innkeepref06_Copied.c2 : Cd := .tidy [3, 4, 5, 6, 7] [] [] none
def innkeepref06_Copied.c4 : Cd := .tidy [8, 9, 10, 11, 12] [] [] none
def innkeepref06_Copied.c6 : Cd := .tidy [13, 14, 15, 16, 17] [] [] none
def innkeepref06_Copied.c8 : Cd := .tidy [18] [] [] none
def innkeepref06_Copied.c7 : Cd := .ret
def innkeepref06_Copied.c5 : Cd := .seq (.seq (.reg false [⟨some 18, .load (.d tWorld) (.t 1), none, [], []⟩,
    ⟨none, .store (.d tWorld) (.t 2) (.t 18), none, [], []⟩]) (innkeepref06_Copied.c8)) (innkeepref06_Copied.c7)
def innkeepref06_Copied.c3 : Cd := .seq (.seq (.reg false [⟨some 13, .slice 6 tPlace [], none, [], []⟩,
    ⟨some 14, .fieldAddr (.d tWorld) 3 (.t 1), none, [], []⟩,
    ⟨some 15, .load (.d (.sl tPlace)) (.t 14), none, [], []⟩,
    ⟨some 16, .append 7 tPlace (.t 13) (.t 15), none, [], []⟩,
    ⟨some 17, .fieldAddr (.d tWorld) 3 (.t 1), none, [], []⟩,
    ⟨none, .store (.d (.sl tPlace)) (.t 17) (.t 16), none, [], []⟩]) (innkeepref06_Copied.c6)) (innkeepref06_Copied.c5)
def innkeepref06_Copied.c1 : Cd := .seq (.seq (.reg false [⟨some 8, .slice 4 (.int .i64) [], none, [], []⟩,
    ⟨some 9, .fieldAddr (.d tWorld) 2 (.t 1), none, [], []⟩,
    ⟨some 10, .load (.d (.sl (.int .i64))) (.t 9), none, [], []⟩,
    ⟨some 11, .append 5 (.int .i64) (.t 8) (.t 10), none, [], []⟩,
    ⟨some 12, .fieldAddr (.d tWorld) 2 (.t 1), none, [], []⟩,
    ⟨none, .store (.d (.sl (.int .i64))) (.t 12) (.t 11), none, [], []⟩]) (innkeepref06_Copied.c4)) (innkeepref06_Copied.c3)
def innkeepref06_Copied.c0 : Cd := .seq (.seq (.reg false [⟨some 3, .slice 2 (.int .i64) [], none, [], []⟩,
    ⟨some 4, .fieldAddr (.d tWorld) 1 (.t 1), none, [], []⟩,
    ⟨some 5, .load (.d (.sl (.int .i64))) (.t 4), none, [], []⟩,
    ⟨some 6, .append 3 (.int .i64) (.t 3) (.t 5), none, [], []⟩,
    ⟨some 7, .fieldAddr (.d tWorld) 1 (.t 1), none, [], []⟩,
    ⟨none, .store (.d (.sl (.int .i64))) (.t 7) (.t 6), none, [], []⟩]) (innkeepref06_Copied.c2)) (innkeepref06_Copied.c1)
def innkeepref06_Copied.fn : Fn := ⟨1, [.cell 2 (.d tWorld)], .seq (.reg false [⟨some 1, .box 0 (.t 0), none, [], []⟩,
    ⟨some 2, .newbox 1 tWorld [], none, [], []⟩]) (innkeepref06_Copied.c0)⟩
def innkeepref06_Places.c3 : Cd := .tidy [6, 7, 8, 9] [] [] none
def innkeepref06_Places.c5 : Cd := .ret
def innkeepref06_Places.c4 : Cd := .seq (.reg false [⟨some 4, .move (.c .bool false), none, [], []⟩]) (innkeepref06_Places.c5)
def innkeepref06_Places.c6 : Cd := .skip
def innkeepref06_Places.c2 : Cd := .cond (.t 10) (.seq (.tidy [10] [] [] none) (innkeepref06_Places.c4)) (.seq (.tidy [10] [] [] none) (innkeepref06_Places.c6))
def innkeepref06_Places.c13 : Cd := .tidy [11, 12, 13] [] [] none
def innkeepref06_Places.c14 : Cd := .skip
def innkeepref06_Places.c22 : Cd := .exit 0
def innkeepref06_Places.c12 : Cd := .cond (.t 14) (.seq (.tidy [14] [] [] none) (innkeepref06_Places.c14)) (.seq (.tidy [14] [] [] none) (innkeepref06_Places.c22))
def innkeepref06_Places.c17 : Cd := .tidy [17, 18, 19, 20, 21, 22, 23, 24] [] [] none
def innkeepref06_Places.c19 : Cd := .ret
def innkeepref06_Places.c18 : Cd := .seq (.reg false [⟨some 4, .move (.c .bool false), none, [], []⟩]) (innkeepref06_Places.c19)
def innkeepref06_Places.c20 : Cd := .skip
def innkeepref06_Places.c16 : Cd := .cond (.t 25) (.seq (.tidy [25] [] [] none) (innkeepref06_Places.c18)) (.seq (.tidy [25] [] [] none) (innkeepref06_Places.c20))
def innkeepref06_Places.c21 : Cd := .tidy [15, 16] [] [] none
def innkeepref06_Places.c15 : Cd := .seq (.reg false [⟨some 15, .move (.t 5), none, [], []⟩,
    ⟨some 16, .bin .add (.t 15) (.c (.int .i64) (1 : Int)), none, [], []⟩,
    ⟨some 5, .move (.t 16), none, [], []⟩]) (innkeepref06_Places.c21)
def innkeepref06_Places.c11 : Cd := .seq (.block 1 (.seq (.seq (.reg true [⟨some 17, .move (.t 0), none, [], []⟩,
    ⟨some 18, .move (.t 5), none, [], []⟩,
    ⟨some 19, .index (.sl tPlace) (.t 17) (.t 18), none, [], []⟩,
    ⟨some 20, .load (.d tPlace) (.t 19), none, [], []⟩,
    ⟨some 21, .move (.t 1), none, [], []⟩,
    ⟨some 22, .move (.t 5), none, [], []⟩,
    ⟨some 23, .index (.sl tPlace) (.t 21) (.t 22), none, [], []⟩,
    ⟨some 24, .load (.d tPlace) (.t 23), none, [], []⟩,
    ⟨some 25, .eqs tPlace true (.t 20) (.t 24), none, [], []⟩]) (innkeepref06_Places.c17)) (innkeepref06_Places.c16))) (innkeepref06_Places.c15)
def innkeepref06_Places.c10 : Cd := .tidy [] [] [] (some 0)
def innkeepref06_Places.c9 : Cd := .seq (.seq (.seq (.seq (.reg false [⟨some 11, .move (.t 5), none, [], []⟩,
    ⟨some 12, .move (.t 0), none, [], []⟩,
    ⟨some 13, .len (.t 12), none, [], []⟩,
    ⟨some 14, .bin .lss (.t 11) (.t 13), none, [], []⟩]) (innkeepref06_Places.c13)) (innkeepref06_Places.c12)) (innkeepref06_Places.c11)) (innkeepref06_Places.c10)
def innkeepref06_Places.c8 : Cd := .block 0 (.loop (innkeepref06_Places.c9))
def innkeepref06_Places.c23 : Cd := .ret
def innkeepref06_Places.c7 : Cd := .seq (.reg false [⟨some 4, .move (.c .bool true), none, [], []⟩]) (innkeepref06_Places.c23)
def innkeepref06_Places.c1 : Cd := .seq (.seq (.reg false [⟨some 5, .move (.c (.int .i64) (0 : Int)), none, [], []⟩]) (innkeepref06_Places.c8)) (innkeepref06_Places.c7)
def innkeepref06_Places.c0 : Cd := .seq (.seq (.seq (.reg false [⟨some 6, .move (.t 0), none, [], []⟩,
    ⟨some 7, .len (.t 6), none, [], []⟩,
    ⟨some 8, .move (.t 1), none, [], []⟩,
    ⟨some 9, .len (.t 8), none, [], []⟩,
    ⟨some 10, .bin .neq (.t 7) (.t 9), none, [], []⟩]) (innkeepref06_Places.c3)) (innkeepref06_Places.c2)) (innkeepref06_Places.c1)
def innkeepref06_Places.fn : Fn := ⟨2, [.tmp 4], .seq (.reg false [⟨some 4, .move (.c .bool false), none, [], []⟩]) (innkeepref06_Places.c0)⟩
def innkeepref06_Same.c2 : Cd := .tidy [9, 10] [] [] none
def innkeepref06_Same.c4 : Cd := .tidy [11, 12] [] [] none
def innkeepref06_Same.c7 : Cd := .tidy [13, 14, 15, 16, 17, 18, 19, 20, 21, 22, 23, 24, 25, 26, 27, 28, 29, 30, 31, 32, 33, 34, 35, 36, 37, 38, 39, 40, 41, 42, 43, 44, 45, 46, 47, 48] [] [] none
def innkeepref06_Same.c9 : Cd := .ret
def innkeepref06_Same.c8 : Cd := .seq (.reg false [⟨some 4, .move (.c .bool false), none, [], []⟩]) (innkeepref06_Same.c9)
def innkeepref06_Same.c10 : Cd := .skip
def innkeepref06_Same.c6 : Cd := .cond (.t 49) (.seq (.tidy [49] [] [] none) (innkeepref06_Same.c8)) (.seq (.tidy [49] [] [] none) (innkeepref06_Same.c10))
def innkeepref06_Same.c17 : Cd := .tidy [50, 51, 52, 53] [] [] none
def innkeepref06_Same.c18 : Cd := .skip
def innkeepref06_Same.c26 : Cd := .exit 0
def innkeepref06_Same.c16 : Cd := .cond (.t 54) (.seq (.tidy [54] [] [] none) (innkeepref06_Same.c18)) (.seq (.tidy [54] [] [] none) (innkeepref06_Same.c26))
def innkeepref06_Same.c21 : Cd := .tidy [57, 58, 59, 60, 61, 62, 63, 64, 65, 66] [] [] none
def innkeepref06_Same.c23 : Cd := .ret
def innkeepref06_Same.c22 : Cd := .seq (.reg false [⟨some 4, .move (.c .bool false), none, [], []⟩]) (innkeepref06_Same.c23)
def innkeepref06_Same.c24 : Cd := .skip
def innkeepref06_Same.c20 : Cd := .cond (.t 67) (.seq (.tidy [67] [] [] none) (innkeepref06_Same.c22)) (.seq (.tidy [67] [] [] none) (innkeepref06_Same.c24))
def innkeepref06_Same.c25 : Cd := .tidy [55, 56] [] [] none
def innkeepref06_Same.c19 : Cd := .seq (.reg false [⟨some 55, .move (.t 7), none, [], []⟩,
    ⟨some 56, .bin .add (.t 55) (.c (.int .i64) (1 : Int)), none, [], []⟩,
    ⟨some 7, .move (.t 56), none, [], []⟩]) (innkeepref06_Same.c25)
def innkeepref06_Same.c15 : Cd := .seq (.block 1 (.seq (.seq (.reg true [⟨some 57, .fieldAddr (.d tDesc) 0 (.t 5), none, [2], []⟩,
    ⟨some 58, .load (.d (.sl (.arr 4 (.int .i64)))) (.t 57), none, [2], []⟩,
    ⟨some 59, .move (.t 7), none, [], []⟩,
    ⟨some 60, .index (.sl (.arr 4 (.int .i64))) (.t 58) (.t 59), none, [], []⟩,
    ⟨some 61, .load (.d (.arr 4 (.int .i64))) (.t 60), none, [], []⟩,
    ⟨some 62, .fieldAddr (.d tDesc) 0 (.t 6), none, [3], []⟩,
    ⟨some 63, .load (.d (.sl (.arr 4 (.int .i64)))) (.t 62), none, [3], []⟩,
    ⟨some 64, .move (.t 7), none, [], []⟩,
    ⟨some 65, .index (.sl (.arr 4 (.int .i64))) (.t 63) (.t 64), none, [], []⟩,
    ⟨some 66, .load (.d (.arr 4 (.int .i64))) (.t 65), none, [], []⟩,
    ⟨some 67, .eqs (.arr 4 (.int .i64)) true (.t 61) (.t 66), none, [], []⟩]) (innkeepref06_Same.c21)) (innkeepref06_Same.c20))) (innkeepref06_Same.c19)
def innkeepref06_Same.c14 : Cd := .tidy [] [] [] (some 4)
def innkeepref06_Same.c13 : Cd := .seq (.seq (.seq (.seq (.reg false [⟨some 50, .move (.t 7), none, [], []⟩,
    ⟨some 51, .fieldAddr (.d tDesc) 0 (.t 5), none, [], []⟩,
    ⟨some 52, .load (.d (.sl (.arr 4 (.int .i64)))) (.t 51), none, [], []⟩,
    ⟨some 53, .len (.t 52), none, [], []⟩,
    ⟨some 54, .bin .lss (.t 50) (.t 53), none, [], []⟩]) (innkeepref06_Same.c17)) (innkeepref06_Same.c16)) (innkeepref06_Same.c15)) (innkeepref06_Same.c14)
def innkeepref06_Same.c12 : Cd := .block 0 (.loop (innkeepref06_Same.c13))
def innkeepref06_Same.c33 : Cd := .tidy [68, 69, 70, 71] [] [] none
def innkeepref06_Same.c34 : Cd := .skip
def innkeepref06_Same.c42 : Cd := .exit 2
def innkeepref06_Same.c32 : Cd := .cond (.t 72) (.seq (.tidy [72] [] [] none) (innkeepref06_Same.c34)) (.seq (.tidy [72] [] [] none) (innkeepref06_Same.c42))
def innkeepref06_Same.c37 : Cd := .tidy [75, 76, 77, 78, 79, 80, 81, 82, 83, 84] [] [] none
def innkeepref06_Same.c39 : Cd := .ret
def innkeepref06_Same.c38 : Cd := .seq (.reg false [⟨some 4, .move (.c .bool false), none, [], []⟩]) (innkeepref06_Same.c39)
def innkeepref06_Same.c40 : Cd := .skip
def innkeepref06_Same.c36 : Cd := .cond (.t 85) (.seq (.tidy [85] [] [] none) (innkeepref06_Same.c38)) (.seq (.tidy [85] [] [] none) (innkeepref06_Same.c40))
def innkeepref06_Same.c41 : Cd := .tidy [73, 74] [] [] none
def innkeepref06_Same.c35 : Cd := .seq (.reg false [⟨some 73, .move (.t 8), none, [], []⟩,
    ⟨some 74, .bin .add (.t 73) (.c (.int .i64) (1 : Int)), none, [], []⟩,
    ⟨some 8, .move (.t 74), none, [], []⟩]) (innkeepref06_Same.c41)
def innkeepref06_Same.c31 : Cd := .seq (.block 3 (.seq (.seq (.reg true [⟨some 75, .fieldAddr (.d tDesc) 4 (.t 5), none, [2], []⟩,
    ⟨some 76, .load (.d (.sl .bool)) (.t 75), none, [2], []⟩,
    ⟨some 77, .move (.t 8), none, [], []⟩,
    ⟨some 78, .index (.sl .bool) (.t 76) (.t 77), none, [], []⟩,
    ⟨some 79, .load (.d .bool) (.t 78), none, [], []⟩,
    ⟨some 80, .fieldAddr (.d tDesc) 4 (.t 6), none, [3], []⟩,
    ⟨some 81, .load (.d (.sl .bool)) (.t 80), none, [3], []⟩,
    ⟨some 82, .move (.t 8), none, [], []⟩,
    ⟨some 83, .index (.sl .bool) (.t 81) (.t 82), none, [], []⟩,
    ⟨some 84, .load (.d .bool) (.t 83), none, [], []⟩,
    ⟨some 85, .eqs .bool true (.t 79) (.t 84), none, [], []⟩]) (innkeepref06_Same.c37)) (innkeepref06_Same.c36))) (innkeepref06_Same.c35)
def innkeepref06_Same.c30 : Cd := .tidy [] [] [] (some 4)
def innkeepref06_Same.c29 : Cd := .seq (.seq (.seq (.seq (.reg false [⟨some 68, .move (.t 8), none, [], []⟩,
    ⟨some 69, .fieldAddr (.d tDesc) 4 (.t 5), none, [], []⟩,
    ⟨some 70, .load (.d (.sl .bool)) (.t 69), none, [], []⟩,
    ⟨some 71, .len (.t 70), none, [], []⟩,
    ⟨some 72, .bin .lss (.t 68) (.t 71), none, [], []⟩]) (innkeepref06_Same.c33)) (innkeepref06_Same.c32)) (innkeepref06_Same.c31)) (innkeepref06_Same.c30)
def innkeepref06_Same.c28 : Cd := .block 2 (.loop (innkeepref06_Same.c29))
def innkeepref06_Same.c44 : Cd := .tidy [86, 87, 88, 89, 90, 91, 92, 93, 94, 95, 96, 97, 98, 99, 100, 101, 102, 103, 104, 105, 106, 107, 108, 109, 110, 111, 112, 113, 114, 115, 116, 117, 118, 119, 120, 121, 122, 123, 124, 125] [] [] none
def innkeepref06_Same.c43 : Cd := .ret
def innkeepref06_Same.c27 : Cd := .seq (.seq (.reg false [⟨some 86, .fieldAddr (.d tDesc) 1 (.t 5), none, [], []⟩,
    ⟨some 87, .load (.d (.sl (.int .i64))) (.t 86), none, [], []⟩,
    ⟨some 88, .fieldAddr (.d tDesc) 1 (.t 6), none, [], []⟩,
    ⟨some 89, .load (.d (.sl (.int .i64))) (.t 88), none, [], []⟩,
    ⟨some 90, .call (.f 15) [(.t 87), (.t 89)] [.d .bool] [] false, none, [], []⟩,
    ⟨some 91, .move (.t 90), none, [], []⟩,
    ⟨some 92, .fieldAddr (.d tDesc) 2 (.t 5), some (91, true), [], []⟩,
    ⟨some 93, .load (.d (.sl (.int .i64))) (.t 92), some (91, true), [], []⟩,
    ⟨some 94, .fieldAddr (.d tDesc) 2 (.t 6), some (91, true), [], []⟩,
    ⟨some 95, .load (.d (.sl (.int .i64))) (.t 94), some (91, true), [], []⟩,
    ⟨some 96, .call (.f 15) [(.t 93), (.t 95)] [.d .bool] [] false, some (91, true), [], []⟩,
    ⟨some 97, .pick (.t 91) (.t 96) (.c .bool false), none, [], []⟩,
    ⟨some 98, .move (.t 97), none, [], []⟩,
    ⟨some 99, .fieldAddr (.d tDesc) 3 (.t 5), some (98, true), [], []⟩,
    ⟨some 100, .load (.d (.sl (.int .i64))) (.t 99), some (98, true), [], []⟩,
    ⟨some 101, .fieldAddr (.d tDesc) 3 (.t 6), some (98, true), [], []⟩,
    ⟨some 102, .load (.d (.sl (.int .i64))) (.t 101), some (98, true), [], []⟩,
    ⟨some 103, .call (.f 15) [(.t 100), (.t 102)] [.d .bool] [] false, some (98, true), [], []⟩,
    ⟨some 104, .pick (.t 98) (.t 103) (.c .bool false), none, [], []⟩,
    ⟨some 105, .move (.t 104), none, [], []⟩,
    ⟨some 106, .fieldAddr (.d tWorld) 1 (.t 2), some (105, true), [], []⟩,
    ⟨some 107, .load (.d (.sl (.int .i64))) (.t 106), some (105, true), [], []⟩,
    ⟨some 108, .fieldAddr (.d tWorld) 1 (.t 3), some (105, true), [], []⟩,
    ⟨some 109, .load (.d (.sl (.int .i64))) (.t 108), some (105, true), [], []⟩,
    ⟨some 110, .call (.f 15) [(.t 107), (.t 109)] [.d .bool] [] false, some (105, true), [], []⟩,
    ⟨some 111, .pick (.t 105) (.t 110) (.c .bool false), none, [], []⟩,
    ⟨some 112, .move (.t 111), none, [], []⟩,
    ⟨some 113, .fieldAddr (.d tWorld) 2 (.t 2), some (112, true), [], []⟩,
    ⟨some 114, .load (.d (.sl (.int .i64))) (.t 113), some (112, true), [], []⟩,
    ⟨some 115, .fieldAddr (.d tWorld) 2 (.t 3), some (112, true), [], []⟩,
    ⟨some 116, .load (.d (.sl (.int .i64))) (.t 115), some (112, true), [], []⟩,
    ⟨some 117, .call (.f 15) [(.t 114), (.t 116)] [.d .bool] [] false, some (112, true), [], []⟩,
    ⟨some 118, .pick (.t 112) (.t 117) (.c .bool false), none, [], []⟩,
    ⟨some 119, .move (.t 118), none, [], []⟩,
    ⟨some 120, .fieldAddr (.d tWorld) 3 (.t 2), some (119, true), [], []⟩,
    ⟨some 121, .load (.d (.sl tPlace)) (.t 120), some (119, true), [], []⟩,
    ⟨some 122, .fieldAddr (.d tWorld) 3 (.t 3), some (119, true), [], []⟩,
    ⟨some 123, .load (.d (.sl tPlace)) (.t 122), some (119, true), [], []⟩,
    ⟨some 124, .call (.f 28) [(.t 121), (.t 123)] [.d .bool] [] false, some (119, true), [], []⟩,
    ⟨some 125, .pick (.t 119) (.t 124) (.c .bool false), none, [], []⟩,
    ⟨some 4, .move (.t 125), none, [], []⟩]) (innkeepref06_Same.c44)) (innkeepref06_Same.c43)
def innkeepref06_Same.c11 : Cd := .seq (.seq (.reg false [⟨some 8, .move (.c (.int .i64) (0 : Int)), none, [], []⟩]) (innkeepref06_Same.c28)) (innkeepref06_Same.c27)
def innkeepref06_Same.c5 : Cd := .seq (.seq (.reg false [⟨some 7, .move (.c (.int .i64) (0 : Int)), none, [], []⟩]) (innkeepref06_Same.c12)) (innkeepref06_Same.c11)
def innkeepref06_Same.c3 : Cd := .seq (.seq (.seq (.reg false [⟨some 13, .fieldAddr (.d tDesc) 5 (.t 5), none, [], []⟩,
    ⟨some 14, .load (.d (.int .i64)) (.t 13), none, [], []⟩,
    ⟨some 15, .fieldAddr (.d tDesc) 5 (.t 6), none, [], []⟩,
    ⟨some 16, .load (.d (.int .i64)) (.t 15), none, [], []⟩,
    ⟨some 17, .bin .neq (.t 14) (.t 16), none, [], []⟩,
    ⟨some 18, .move (.t 17), none, [], []⟩,
    ⟨some 19, .fieldAddr (.d tDesc) 6 (.t 5), some (18, false), [], []⟩,
    ⟨some 20, .load (.d (.int .i64)) (.t 19), some (18, false), [], []⟩,
    ⟨some 21, .fieldAddr (.d tDesc) 6 (.t 6), some (18, false), [], []⟩,
    ⟨some 22, .load (.d (.int .i64)) (.t 21), some (18, false), [], []⟩,
    ⟨some 23, .bin .neq (.t 20) (.t 22), some (18, false), [], []⟩,
    ⟨some 24, .pick (.t 18) (.c .bool true) (.t 23), none, [], []⟩,
    ⟨some 25, .move (.t 24), none, [], []⟩,
    ⟨some 26, .fieldAddr (.d tDesc) 7 (.t 5), some (25, false), [], []⟩,
    ⟨some 27, .load (.d (.int .i64)) (.t 26), some (25, false), [], []⟩,
    ⟨some 28, .fieldAddr (.d tDesc) 7 (.t 6), some (25, false), [], []⟩,
    ⟨some 29, .load (.d (.int .i64)) (.t 28), some (25, false), [], []⟩,
    ⟨some 30, .bin .neq (.t 27) (.t 29), some (25, false), [], []⟩,
    ⟨some 31, .pick (.t 25) (.c .bool true) (.t 30), none, [], []⟩,
    ⟨some 32, .move (.t 31), none, [], []⟩,
    ⟨some 33, .fieldAddr (.d tDesc) 0 (.t 5), some (32, false), [], []⟩,
    ⟨some 34, .load (.d (.sl (.arr 4 (.int .i64)))) (.t 33), some (32, false), [], []⟩,
    ⟨some 35, .len (.t 34), some (32, false), [], []⟩,
    ⟨some 36, .fieldAddr (.d tDesc) 0 (.t 6), some (32, false), [], []⟩,
    ⟨some 37, .load (.d (.sl (.arr 4 (.int .i64)))) (.t 36), some (32, false), [], []⟩,
    ⟨some 38, .len (.t 37), some (32, false), [], []⟩,
    ⟨some 39, .bin .neq (.t 35) (.t 38), some (32, false), [], []⟩,
    ⟨some 40, .pick (.t 32) (.c .bool true) (.t 39), none, [], []⟩,
    ⟨some 41, .move (.t 40), none, [], []⟩,
    ⟨some 42, .fieldAddr (.d tDesc) 4 (.t 5), some (41, false), [], []⟩,
    ⟨some 43, .load (.d (.sl .bool)) (.t 42), some (41, false), [], []⟩,
    ⟨some 44, .len (.t 43), some (41, false), [], []⟩,
    ⟨some 45, .fieldAddr (.d tDesc) 4 (.t 6), some (41, false), [], []⟩,
    ⟨some 46, .load (.d (.sl .bool)) (.t 45), some (41, false), [], []⟩,
    ⟨some 47, .len (.t 46), some (41, false), [], []⟩,
    ⟨some 48, .bin .neq (.t 44) (.t 47), some (41, false), [], []⟩,
    ⟨some 49, .pick (.t 41) (.c .bool true) (.t 48), none, [], []⟩]) (innkeepref06_Same.c7)) (innkeepref06_Same.c6)) (innkeepref06_Same.c5)
def innkeepref06_Same.c1 : Cd := .seq (.seq (.reg false [⟨some 11, .fieldAddr (.d tWorld) 0 (.t 3), none, [], []⟩,
    ⟨some 12, .load (.d tDesc) (.t 11), none, [], []⟩,
    ⟨some 6, .newbox 3 tDesc [], none, [], []⟩,
    ⟨none, .store (.d tDesc) (.t 6) (.t 12), none, [], []⟩]) (innkeepref06_Same.c4)) (innkeepref06_Same.c3)
def innkeepref06_Same.c0 : Cd := .seq (.seq (.reg false [⟨some 9, .fieldAddr (.d tWorld) 0 (.t 2), none, [], []⟩,
    ⟨some 10, .load (.d tDesc) (.t 9), none, [], []⟩,
    ⟨some 5, .newbox 2 tDesc [], none, [], []⟩,
    ⟨none, .store (.d tDesc) (.t 5) (.t 10), none, [], []⟩]) (innkeepref06_Same.c2)) (innkeepref06_Same.c1)
def innkeepref06_Same.fn : Fn := ⟨2, [.tmp 4], .seq (.reg false [⟨some 2, .box 0 (.t 0), none, [], []⟩,
    ⟨some 3, .box 1 (.t 1), none, [], []⟩,
    ⟨some 4, .move (.c .bool false), none, [], []⟩]) (innkeepref06_Same.c0)⟩
def innkeeplaw12_SightKeeps.c3 : Cd := .tidy [11, 12, 13, 14, 15, 16] [] [] none
def innkeeplaw12_SightKeeps.c6 : Cd := .tidy [18] [] [] none
def innkeeplaw12_SightKeeps.c5 : Cd := .ret
def innkeeplaw12_SightKeeps.c4 : Cd := .seq (.seq (.reg false [⟨some 18, .call (.f 8) [] [.d .bool] [] false, none, [], []⟩,
    ⟨some 4, .move (.t 18), none, [], []⟩]) (innkeeplaw12_SightKeeps.c6)) (innkeeplaw12_SightKeeps.c5)
def innkeeplaw12_SightKeeps.c7 : Cd := .skip
def innkeeplaw12_SightKeeps.c2 : Cd := .cond (.t 17) (.seq (.tidy [17] [] [] none) (innkeeplaw12_SightKeeps.c4)) (.seq (.tidy [17] [] [] none) (innkeeplaw12_SightKeeps.c7))
def innkeeplaw12_SightKeeps.c9 : Cd := .tidy [19, 20] [] [] none
def innkeeplaw12_SightKeeps.c11 : Cd := .tidy [21, 22, 23, 24, 25, 26, 27, 28] [] [] none
def innkeeplaw12_SightKeeps.c13 : Cd := .tidy [29, 30, 31, 32, 33, 34, 35, 36] [] [] none
def innkeeplaw12_SightKeeps.c20 : Cd := .tidy [37, 38, 39, 40] [] [] none
def innkeeplaw12_SightKeeps.c21 : Cd := .skip
def innkeeplaw12_SightKeeps.c25 : Cd := .exit 0
def innkeeplaw12_SightKeeps.c19 : Cd := .cond (.t 41) (.seq (.tidy [41] [] [] none) (innkeeplaw12_SightKeeps.c21)) (.seq (.tidy [41] [] [] none) (innkeeplaw12_SightKeeps.c25))
def innkeeplaw12_SightKeeps.c23 : Cd := .tidy [44, 45, 46, 47, 48] [] [] none
def innkeeplaw12_SightKeeps.c24 : Cd := .tidy [42, 43] [] [] none
def innkeeplaw12_SightKeeps.c22 : Cd := .seq (.reg false [⟨some 42, .move (.t 8), none, [], []⟩,
    ⟨some 43, .bin .add (.t 42) (.c (.int .i64) (1 : Int)), none, [], []⟩,
    ⟨some 8, .move (.t 43), none, [], []⟩]) (innkeeplaw12_SightKeeps.c24)
def innkeeplaw12_SightKeeps.c18 : Cd := .seq (.block 1 (.seq (.reg false [⟨some 44, .fieldAddr (.d tReply) 4 (.t 6), none, [], []⟩,
    ⟨some 45, .load (.d (.sl tSeen)) (.t 44), none, [], []⟩,
    ⟨some 46, .move (.t 8), none, [], []⟩,
    ⟨some 47, .index (.sl tSeen) (.t 45) (.t 46), none, [], []⟩,
    ⟨some 48, .fieldAddr (.d tSeen) 0 (.t 47), none, [], []⟩,
    ⟨none, .store (.d (.int .i64)) (.t 48) (.c (.int .i64) (99 : Int)), none, [], []⟩]) (innkeeplaw12_SightKeeps.c23))) (innkeeplaw12_SightKeeps.c22)
def innkeeplaw12_SightKeeps.c17 : Cd := .tidy [] [] [] (some 7)
def innkeeplaw12_SightKeeps.c16 : Cd := .seq (.seq (.seq (.seq (.reg false [⟨some 37, .move (.t 8), none, [], []⟩,
    ⟨some 38, .fieldAddr (.d tReply) 4 (.t 6), none, [], []⟩,
    ⟨some 39, .load (.d (.sl tSeen)) (.t 38), none, [], []⟩,
    ⟨some 40, .len (.t 39), none, [], []⟩,
    ⟨some 41, .bin .lss (.t 37) (.t 40), none, [], []⟩]) (innkeeplaw12_SightKeeps.c20)) (innkeeplaw12_SightKeeps.c19)) (innkeeplaw12_SightKeeps.c18)) (innkeeplaw12_SightKeeps.c17)
def innkeeplaw12_SightKeeps.c15 : Cd := .block 0 (.loop (innkeeplaw12_SightKeeps.c16))
def innkeeplaw12_SightKeeps.c32 : Cd := .tidy [49, 50, 51, 52] [] [] none
def innkeeplaw12_SightKeeps.c33 : Cd := .skip
def innkeeplaw12_SightKeeps.c37 : Cd := .exit 2
def innkeeplaw12_SightKeeps.c31 : Cd := .cond (.t 53) (.seq (.tidy [53] [] [] none) (innkeeplaw12_SightKeeps.c33)) (.seq (.tidy [53] [] [] none) (innkeeplaw12_SightKeeps.c37))
def innkeeplaw12_SightKeeps.c35 : Cd := .tidy [56, 57, 58, 59] [] [] none
def innkeeplaw12_SightKeeps.c36 : Cd := .tidy [54, 55] [] [] none
def innkeeplaw12_SightKeeps.c34 : Cd := .seq (.reg false [⟨some 54, .move (.t 9), none, [], []⟩,
    ⟨some 55, .bin .add (.t 54) (.c (.int .i64) (1 : Int)), none, [], []⟩,
    ⟨some 9, .move (.t 55), none, [], []⟩]) (innkeeplaw12_SightKeeps.c36)
def innkeeplaw12_SightKeeps.c30 : Cd := .seq (.block 3 (.seq (.reg false [⟨some 56, .fieldAddr (.d tReply) 3 (.t 6), none, [], []⟩,
    ⟨some 57, .load (.d (.sl (.int .i64))) (.t 56), none, [], []⟩,
    ⟨some 58, .move (.t 9), none, [], []⟩,
    ⟨some 59, .index (.sl (.int .i64)) (.t 57) (.t 58), none, [], []⟩,
    ⟨none, .store (.d (.int .i64)) (.t 59) (.c (.int .i64) (99 : Int)), none, [], []⟩]) (innkeeplaw12_SightKeeps.c35))) (innkeeplaw12_SightKeeps.c34)
def innkeeplaw12_SightKeeps.c29 : Cd := .tidy [] [] [] (some 7)
def innkeeplaw12_SightKeeps.c28 : Cd := .seq (.seq (.seq (.seq (.reg false [⟨some 49, .move (.t 9), none, [], []⟩,
    ⟨some 50, .fieldAddr (.d tReply) 3 (.t 6), none, [], []⟩,
    ⟨some 51, .load (.d (.sl (.int .i64))) (.t 50), none, [], []⟩,
    ⟨some 52, .len (.t 51), none, [], []⟩,
    ⟨some 53, .bin .lss (.t 49) (.t 52), none, [], []⟩]) (innkeeplaw12_SightKeeps.c32)) (innkeeplaw12_SightKeeps.c31)) (innkeeplaw12_SightKeeps.c30)) (innkeeplaw12_SightKeeps.c29)
def innkeeplaw12_SightKeeps.c27 : Cd := .block 2 (.loop (innkeeplaw12_SightKeeps.c28))
def innkeeplaw12_SightKeeps.c44 : Cd := .tidy [60, 61, 62, 63] [] [] none
def innkeeplaw12_SightKeeps.c45 : Cd := .skip
def innkeeplaw12_SightKeeps.c49 : Cd := .exit 4
def innkeeplaw12_SightKeeps.c43 : Cd := .cond (.t 64) (.seq (.tidy [64] [] [] none) (innkeeplaw12_SightKeeps.c45)) (.seq (.tidy [64] [] [] none) (innkeeplaw12_SightKeeps.c49))
def innkeeplaw12_SightKeeps.c47 : Cd := .tidy [67, 68, 69, 70, 71] [] [] none
def innkeeplaw12_SightKeeps.c48 : Cd := .tidy [65, 66] [] [] none
def innkeeplaw12_SightKeeps.c46 : Cd := .seq (.reg false [⟨some 65, .move (.t 10), none, [], []⟩,
    ⟨some 66, .bin .add (.t 65) (.c (.int .i64) (1 : Int)), none, [], []⟩,
    ⟨some 10, .move (.t 66), none, [], []⟩]) (innkeeplaw12_SightKeeps.c48)
def innkeeplaw12_SightKeeps.c42 : Cd := .seq (.block 5 (.seq (.reg false [⟨some 67, .fieldAddr (.d tReply) 4 (.t 7), none, [], []⟩,
    ⟨some 68, .load (.d (.sl tSeen)) (.t 67), none, [], []⟩,
    ⟨some 69, .move (.t 10), none, [], []⟩,
    ⟨some 70, .index (.sl tSeen) (.t 68) (.t 69), none, [], []⟩,
    ⟨some 71, .fieldAddr (.d tSeen) 0 (.t 70), none, [], []⟩,
    ⟨none, .store (.d (.int .i64)) (.t 71) (.c (.int .i64) (99 : Int)), none, [], []⟩]) (innkeeplaw12_SightKeeps.c47))) (innkeeplaw12_SightKeeps.c46)
def innkeeplaw12_SightKeeps.c41 : Cd := .tidy [] [] [] (some 7)
def innkeeplaw12_SightKeeps.c40 : Cd := .seq (.seq (.seq (.seq (.reg false [⟨some 60, .move (.t 10), none, [], []⟩,
    ⟨some 61, .fieldAddr (.d tReply) 4 (.t 7), none, [], []⟩,
    ⟨some 62, .load (.d (.sl tSeen)) (.t 61), none, [], []⟩,
    ⟨some 63, .len (.t 62), none, [], []⟩,
    ⟨some 64, .bin .lss (.t 60) (.t 63), none, [], []⟩]) (innkeeplaw12_SightKeeps.c44)) (innkeeplaw12_SightKeeps.c43)) (innkeeplaw12_SightKeeps.c42)) (innkeeplaw12_SightKeeps.c41)
def innkeeplaw12_SightKeeps.c39 : Cd := .block 4 (.loop (innkeeplaw12_SightKeeps.c40))
def innkeeplaw12_SightKeeps.c51 : Cd := .tidy [72, 73, 74] [] [] none
def innkeeplaw12_SightKeeps.c50 : Cd := .ret
def innkeeplaw12_SightKeeps.c38 : Cd := .seq (.seq (.reg false [⟨some 72, .load (.d tWorld) (.t 5), none, [], []⟩,
    ⟨some 73, .load (.d tWorld) (.t 2), none, [], []⟩,
    ⟨some 74, .call (.f 20) [(.t 72), (.t 73)] [.d .bool] [] false, none, [], []⟩,
    ⟨some 4, .move (.t 74), none, [], []⟩]) (innkeeplaw12_SightKeeps.c51)) (innkeeplaw12_SightKeeps.c50)
def innkeeplaw12_SightKeeps.c26 : Cd := .seq (.seq (.reg false [⟨some 10, .move (.c (.int .i64) (0 : Int)), none, [], []⟩]) (innkeeplaw12_SightKeeps.c39)) (innkeeplaw12_SightKeeps.c38)
def innkeeplaw12_SightKeeps.c14 : Cd := .seq (.seq (.reg false [⟨some 9, .move (.c (.int .i64) (0 : Int)), none, [], []⟩]) (innkeeplaw12_SightKeeps.c27)) (innkeeplaw12_SightKeeps.c26)
def innkeeplaw12_SightKeeps.c12 : Cd := .seq (.seq (.reg false [⟨some 8, .move (.c (.int .i64) (0 : Int)), none, [], []⟩]) (innkeeplaw12_SightKeeps.c15)) (innkeeplaw12_SightKeeps.c14)
def innkeeplaw12_SightKeeps.c10 : Cd := .seq (.seq (.reg true [⟨some 29, .load (.d tWorld) (.t 5), none, [1], []⟩,
    ⟨some 30, .move (.t 1), none, [], []⟩,
    ⟨some 31, .conv .i64 (.t 30), none, [], []⟩,
    ⟨some 32, .fieldAddr (.d tWorld) 1 (.t 2), none, [0], []⟩,
    ⟨some 33, .load (.d (.sl (.int .i64))) (.t 32), none, [0], []⟩,
    ⟨some 34, .len (.t 33), none, [], []⟩,
    ⟨some 35, .bin .rem (.t 31) (.t 34), none, [], []⟩,
    ⟨some 36, .call (.f 13) [(.t 29), (.t 35)] [.d tReply] [((0, [4]), 6)] false, none, [], [6]⟩,
    ⟨some 7, .newbox 3 tReply [], none, [], [3]⟩,
    ⟨none, .store (.d tReply) (.t 7) (.t 36), none, [], [3]⟩]) (innkeeplaw12_SightKeeps.c13)) (innkeeplaw12_SightKeeps.c12)
def innkeeplaw12_SightKeeps.c8 : Cd := .seq (.seq (.reg true [⟨some 21, .load (.d tWorld) (.t 5), none, [1], []⟩,
    ⟨some 22, .move (.t 1), none, [], []⟩,
    ⟨some 23, .conv .i64 (.t 22), none, [], []⟩,
    ⟨some 24, .fieldAddr (.d tWorld) 1 (.t 2), none, [0], []⟩,
    ⟨some 25, .load (.d (.sl (.int .i64))) (.t 24), none, [0], []⟩,
    ⟨some 26, .len (.t 25), none, [], []⟩,
    ⟨some 27, .bin .rem (.t 23) (.t 26), none, [], []⟩,
    ⟨some 28, .call (.f 11) [(.t 21), (.t 27)] [.d tReply] [((0, [4]), 4), ((0, [3]), 5)] false, none, [], [4, 5]⟩,
    ⟨some 6, .newbox 2 tReply [], none, [], [2]⟩,
    ⟨none, .store (.d tReply) (.t 6) (.t 28), none, [], [2]⟩]) (innkeeplaw12_SightKeeps.c11)) (innkeeplaw12_SightKeeps.c10)
def innkeeplaw12_SightKeeps.c1 : Cd := .seq (.seq (.reg false [⟨some 19, .load (.d tWorld) (.t 2), none, [], []⟩,
    ⟨some 20, .call (.f 19) [(.t 19)] [.d tWorld] [] false, none, [], []⟩,
    ⟨some 5, .newbox 1 tWorld [], none, [], []⟩,
    ⟨none, .store (.d tWorld) (.t 5) (.t 20), none, [], []⟩]) (innkeeplaw12_SightKeeps.c9)) (innkeeplaw12_SightKeeps.c8)
def innkeeplaw12_SightKeeps.c0 : Cd := .seq (.seq (.seq (.reg false [⟨some 11, .call (.f 8) [] [.d .bool] [] false, none, [], []⟩,
    ⟨some 12, .not (.t 11), none, [], []⟩,
    ⟨some 13, .move (.t 12), none, [], []⟩,
    ⟨some 14, .load (.d tWorld) (.t 2), some (13, false), [], []⟩,
    ⟨some 15, .call (.f 9) [(.t 14)] [.d .bool] [] false, some (13, false), [], []⟩,
    ⟨some 16, .not (.t 15), some (13, false), [], []⟩,
    ⟨some 17, .pick (.t 13) (.c .bool true) (.t 16), none, [], []⟩]) (innkeeplaw12_SightKeeps.c3)) (innkeeplaw12_SightKeeps.c2)) (innkeeplaw12_SightKeeps.c1)
def innkeeplaw12_SightKeeps.fn : Fn := ⟨2, [.tmp 4], .seq (.reg false [⟨some 2, .box 0 (.t 0), none, [], []⟩,
    ⟨some 4, .move (.c .bool false), none, [], []⟩]) (innkeeplaw12_SightKeeps.c0)⟩
def innkeeplaw12_SightMoves.c3 : Cd := .tidy [24, 25, 26, 27, 28, 29, 30, 31, 32, 33, 34, 35] [] [] none
def innkeeplaw12_SightMoves.c6 : Cd := .tidy [37] [] [] none
def innkeeplaw12_SightMoves.c5 : Cd := .ret
def innkeeplaw12_SightMoves.c4 : Cd := .seq (.seq (.reg false [⟨some 37, .call (.f 8) [] [.d .bool] [] false, none, [], []⟩,
    ⟨some 8, .move (.t 37), none, [], []⟩]) (innkeeplaw12_SightMoves.c6)) (innkeeplaw12_SightMoves.c5)
def innkeeplaw12_SightMoves.c7 : Cd := .skip
def innkeeplaw12_SightMoves.c2 : Cd := .cond (.t 36) (.seq (.tidy [36] [] [] none) (innkeeplaw12_SightMoves.c4)) (.seq (.tidy [36] [] [] none) (innkeeplaw12_SightMoves.c7))
def innkeeplaw12_SightMoves.c9 : Cd := .tidy [38, 39, 40, 41, 42, 43] [] [] none
def innkeeplaw12_SightMoves.c11 : Cd := .tidy [44, 45, 46, 47, 48, 49] [] [] none
def innkeeplaw12_SightMoves.c14 : Cd := .tidy [50, 51, 52, 53, 54, 55, 56, 57, 58, 59, 60] [] [] none
def innkeeplaw12_SightMoves.c17 : Cd := .tidy [62, 63] [] [] none
def innkeeplaw12_SightMoves.c19 : Cd := .tidy [64, 65, 66, 67, 68, 69] [] [] none
def innkeeplaw12_SightMoves.c22 : Cd := .tidy [70, 71] [] [] none
def innkeeplaw12_SightMoves.c24 : Cd := .ret
def innkeeplaw12_SightMoves.c23 : Cd := .seq (.reg false [⟨some 8, .move (.c .bool true), none, [], []⟩]) (innkeeplaw12_SightMoves.c24)
def innkeeplaw12_SightMoves.c25 : Cd := .skip
def innkeeplaw12_SightMoves.c21 : Cd := .cond (.t 72) (.seq (.tidy [72] [] [] none) (innkeeplaw12_SightMoves.c23)) (.seq (.tidy [72] [] [] none) (innkeeplaw12_SightMoves.c25))
def innkeeplaw12_SightMoves.c27 : Cd := .tidy [73, 74, 75, 76] [] [] none
def innkeeplaw12_SightMoves.c29 : Cd := .tidy [77, 78, 79, 80] [] [] none
def innkeeplaw12_SightMoves.c31 : Cd := .tidy [81, 82, 83, 84] [] [] none
def innkeeplaw12_SightMoves.c33 : Cd := .tidy [85, 86, 87, 88] [] [] none
def innkeeplaw12_SightMoves.c35 : Cd := .tidy [89, 90, 91, 92, 93, 94, 95, 96, 97, 98, 99, 100, 101, 102, 103, 104, 105] [] [] none
def innkeeplaw12_SightMoves.c37 : Cd := .ret
def innkeeplaw12_SightMoves.c36 : Cd := .seq (.reg false [⟨some 8, .move (.c .bool false), none, [], []⟩]) (innkeeplaw12_SightMoves.c37)
def innkeeplaw12_SightMoves.c38 : Cd := .skip
def innkeeplaw12_SightMoves.c34 : Cd := .cond (.t 106) (.seq (.tidy [106] [] [] none) (innkeeplaw12_SightMoves.c36)) (.seq (.tidy [106] [] [] none) (innkeeplaw12_SightMoves.c38))
def innkeeplaw12_SightMoves.c32 : Cd := .seq (.seq (.reg false [⟨some 89, .move (.t 12), none, [], []⟩,
    ⟨some 90, .len (.t 89), none, [], []⟩,
    ⟨some 91, .move (.t 14), none, [], []⟩,
    ⟨some 92, .len (.t 91), none, [], []⟩,
    ⟨some 93, .bin .add (.t 90) (.t 92), none, [], []⟩,
    ⟨some 94, .move (.t 13), none, [], []⟩,
    ⟨some 95, .len (.t 94), none, [], []⟩,
    ⟨some 96, .move (.t 15), none, [], []⟩,
    ⟨some 97, .len (.t 96), none, [], []⟩,
    ⟨some 98, .bin .add (.t 95) (.t 97), none, [], []⟩,
    ⟨some 99, .bin .neq (.t 93) (.t 98), none, [], []⟩,
    ⟨some 100, .move (.t 99), none, [], []⟩,
    ⟨some 101, .move (.t 13), some (100, false), [], []⟩,
    ⟨some 102, .len (.t 101), some (100, false), [], []⟩,
    ⟨some 103, .move (.t 12), some (100, false), [], []⟩,
    ⟨some 104, .len (.t 103), some (100, false), [], []⟩,
    ⟨some 105, .bin .geq (.t 102) (.t 104), some (100, false), [], []⟩,
    ⟨some 106, .pick (.t 100) (.c .bool true) (.t 105), none, [], []⟩]) (innkeeplaw12_SightMoves.c35)) (innkeeplaw12_SightMoves.c34)
def innkeeplaw12_SightMoves.c30 : Cd := .seq (.seq (.reg false [⟨some 85, .load (.d tWorld) (.t 11), none, [], []⟩,
    ⟨some 86, .move (.t 9), none, [], []⟩,
    ⟨some 87, .call (.f 13) [(.t 85), (.t 86)] [.d tReply] [] false, none, [], []⟩,
    ⟨some 88, .field tReply 4 (.t 87), none, [], []⟩,
    ⟨some 15, .move (.t 88), none, [], []⟩]) (innkeeplaw12_SightMoves.c33)) (innkeeplaw12_SightMoves.c32)
def innkeeplaw12_SightMoves.c28 : Cd := .seq (.seq (.reg false [⟨some 81, .load (.d tWorld) (.t 4), none, [], []⟩,
    ⟨some 82, .move (.t 9), none, [], []⟩,
    ⟨some 83, .call (.f 13) [(.t 81), (.t 82)] [.d tReply] [] false, none, [], []⟩,
    ⟨some 84, .field tReply 4 (.t 83), none, [], []⟩,
    ⟨some 14, .move (.t 84), none, [], []⟩]) (innkeeplaw12_SightMoves.c31)) (innkeeplaw12_SightMoves.c30)
def innkeeplaw12_SightMoves.c26 : Cd := .seq (.seq (.reg false [⟨some 77, .load (.d tWorld) (.t 11), none, [], []⟩,
    ⟨some 78, .move (.t 9), none, [], []⟩,
    ⟨some 79, .call (.f 11) [(.t 77), (.t 78)] [.d tReply] [] false, none, [], []⟩,
    ⟨some 80, .field tReply 4 (.t 79), none, [], []⟩,
    ⟨some 13, .move (.t 80), none, [], []⟩]) (innkeeplaw12_SightMoves.c29)) (innkeeplaw12_SightMoves.c28)
def innkeeplaw12_SightMoves.c20 : Cd := .seq (.seq (.reg false [⟨some 73, .load (.d tWorld) (.t 4), none, [], []⟩,
    ⟨some 74, .move (.t 9), none, [], []⟩,
    ⟨some 75, .call (.f 11) [(.t 73), (.t 74)] [.d tReply] [] false, none, [], []⟩,
    ⟨some 76, .field tReply 4 (.t 75), none, [], []⟩,
    ⟨some 12, .move (.t 76), none, [], []⟩]) (innkeeplaw12_SightMoves.c27)) (innkeeplaw12_SightMoves.c26)
def innkeeplaw12_SightMoves.c18 : Cd := .seq (.seq (.seq (.reg false [⟨some 70, .load (.d tWorld) (.t 11), none, [], []⟩,
    ⟨some 71, .call (.f 21) [(.t 70)] [.d .bool] [] false, none, [], []⟩,
    ⟨some 72, .not (.t 71), none, [], []⟩]) (innkeeplaw12_SightMoves.c22)) (innkeeplaw12_SightMoves.c21)) (innkeeplaw12_SightMoves.c20)
def innkeeplaw12_SightMoves.c16 : Cd := .seq (.seq (.reg false [⟨some 64, .fieldAddr (.d tWorld) 3 (.t 11), none, [], []⟩,
    ⟨some 65, .load (.d (.sl tPlace)) (.t 64), none, [], []⟩,
    ⟨some 66, .move (.t 10), none, [], []⟩,
    ⟨some 67, .move (.t 9), none, [], []⟩,
    ⟨some 68, .build tPlace [(0, (.c (.int .i64) (1 : Int))), (1, (.t 67))] [], none, [], []⟩,
    ⟨some 69, .index (.sl tPlace) (.t 65) (.t 66), none, [], []⟩,
    ⟨none, .store (.d tPlace) (.t 69) (.t 68), none, [], []⟩]) (innkeeplaw12_SightMoves.c19)) (innkeeplaw12_SightMoves.c18)
def innkeeplaw12_SightMoves.c15 : Cd := .seq (.seq (.reg false [⟨some 62, .load (.d tWorld) (.t 4), none, [], []⟩,
    ⟨some 63, .call (.f 19) [(.t 62)] [.d tWorld] [((0, [3]), 3)] false, none, [], []⟩,
    ⟨some 11, .newbox 1 tWorld [], none, [], []⟩,
    ⟨none, .store (.d tWorld) (.t 11) (.t 63), none, [], []⟩]) (innkeeplaw12_SightMoves.c17)) (innkeeplaw12_SightMoves.c16)
def innkeeplaw12_SightMoves.c83 : Cd := .skip
def innkeeplaw12_SightMoves.c13 : Cd := .cond (.t 61) (.seq (.tidy [61] [] [] none) (innkeeplaw12_SightMoves.c15)) (.seq (.tidy [61] [] [] none) (innkeeplaw12_SightMoves.c83))
def innkeeplaw12_SightMoves.c40 : Cd := .tidy [107, 108, 109, 110, 111, 112, 113, 114, 115, 116, 117, 118, 119] [] [] none
def innkeeplaw12_SightMoves.c43 : Cd := .tidy [120] [] [] none
def innkeeplaw12_SightMoves.c45 : Cd := .ret
def innkeeplaw12_SightMoves.c44 : Cd := .seq (.reg false [⟨some 8, .move (.c .bool true), none, [], []⟩]) (innkeeplaw12_SightMoves.c45)
def innkeeplaw12_SightMoves.c46 : Cd := .skip
def innkeeplaw12_SightMoves.c42 : Cd := .cond (.t 121) (.seq (.tidy [121] [] [] none) (innkeeplaw12_SightMoves.c44)) (.seq (.tidy [121] [] [] none) (innkeeplaw12_SightMoves.c46))
def innkeeplaw12_SightMoves.c48 : Cd := .tidy [122, 123] [] [] none
def innkeeplaw12_SightMoves.c50 : Cd := .tidy [124, 125, 126, 127, 128] [] [] none
def innkeeplaw12_SightMoves.c52 : Cd := .tidy [129, 130, 131, 132, 133, 134, 135] [] [] none
def innkeeplaw12_SightMoves.c54 : Cd := .tidy [136, 137, 138] [] [] none
def innkeeplaw12_SightMoves.c63 : Cd := .tidy [139, 140, 141] [] [] none
def innkeeplaw12_SightMoves.c64 : Cd := .skip
def innkeeplaw12_SightMoves.c68 : Cd := .exit 0
def innkeeplaw12_SightMoves.c62 : Cd := .cond (.t 142) (.seq (.tidy [142] [] [] none) (innkeeplaw12_SightMoves.c64)) (.seq (.tidy [142] [] [] none) (innkeeplaw12_SightMoves.c68))
def innkeeplaw12_SightMoves.c66 : Cd := .tidy [145, 146, 147, 148, 149, 150, 151, 152, 153, 154, 155, 156, 157, 158, 159, 160, 161, 162] [] [] none
def innkeeplaw12_SightMoves.c67 : Cd := .tidy [143, 144] [] [] none
def innkeeplaw12_SightMoves.c65 : Cd := .seq (.reg false [⟨some 143, .move (.t 22), none, [], []⟩,
    ⟨some 144, .bin .add (.t 143) (.c (.int .i64) (1 : Int)), none, [], []⟩,
    ⟨some 22, .move (.t 144), none, [], []⟩]) (innkeeplaw12_SightMoves.c67)
def innkeeplaw12_SightMoves.c61 : Cd := .seq (.block 1 (.seq (.reg false [⟨some 145, .move (.t 20), none, [], []⟩,
    ⟨some 146, .move (.t 145), none, [], []⟩,
    ⟨some 147, .move (.t 18), some (146, true), [], []⟩,
    ⟨some 148, .move (.t 22), some (146, true), [], []⟩,
    ⟨some 149, .index (.sl (.int .i64)) (.t 147) (.t 148), some (146, true), [], []⟩,
    ⟨some 150, .load (.d (.int .i64)) (.t 149), some (146, true), [], []⟩,
    ⟨some 151, .move (.t 9), some (146, true), [], []⟩,
    ⟨some 152, .bin .neq (.t 150) (.t 151), some (146, true), [], []⟩,
    ⟨some 153, .move (.t 152), some (146, true), [], []⟩,
    ⟨some 154, .move (.t 16), some (153, false), [], []⟩,
    ⟨some 155, .fieldAddr (.d tWorld) 1 (.t 4), some (153, false), [], []⟩,
    ⟨some 156, .load (.d (.sl (.int .i64))) (.t 155), some (153, false), [], []⟩,
    ⟨some 157, .move (.t 9), some (153, false), [], []⟩,
    ⟨some 158, .index (.sl (.int .i64)) (.t 156) (.t 157), some (153, false), [], []⟩,
    ⟨some 159, .load (.d (.int .i64)) (.t 158), some (153, false), [], []⟩,
    ⟨some 160, .bin .eql (.t 154) (.t 159), some (153, false), [], []⟩,
    ⟨some 161, .pick (.t 153) (.c .bool true) (.t 160), some (146, true), [], []⟩,
    ⟨some 162, .pick (.t 146) (.t 161) (.c .bool false), none, [], []⟩,
    ⟨some 20, .move (.t 162), none, [], []⟩]) (innkeeplaw12_SightMoves.c66))) (innkeeplaw12_SightMoves.c65)
def innkeeplaw12_SightMoves.c60 : Cd := .tidy [] [] [] (some 5)
def innkeeplaw12_SightMoves.c59 : Cd := .seq (.seq (.seq (.seq (.reg false [⟨some 139, .move (.t 22), none, [], []⟩,
    ⟨some 140, .move (.t 18), none, [], []⟩,
    ⟨some 141, .len (.t 140), none, [], []⟩,
    ⟨some 142, .bin .lss (.t 139) (.t 141), none, [], []⟩]) (innkeeplaw12_SightMoves.c63)) (innkeeplaw12_SightMoves.c62)) (innkeeplaw12_SightMoves.c61)) (innkeeplaw12_SightMoves.c60)
def innkeeplaw12_SightMoves.c58 : Cd := .block 0 (.loop (innkeeplaw12_SightMoves.c59))
def innkeeplaw12_SightMoves.c75 : Cd := .tidy [163, 164, 165] [] [] none
def innkeeplaw12_SightMoves.c76 : Cd := .skip
def innkeeplaw12_SightMoves.c80 : Cd := .exit 2
def innkeeplaw12_SightMoves.c74 : Cd := .cond (.t 166) (.seq (.tidy [166] [] [] none) (innkeeplaw12_SightMoves.c76)) (.seq (.tidy [166] [] [] none) (innkeeplaw12_SightMoves.c80))
def innkeeplaw12_SightMoves.c78 : Cd := .tidy [169, 170, 171, 172, 173, 174, 175, 176, 177] [] [] none
def innkeeplaw12_SightMoves.c79 : Cd := .tidy [167, 168] [] [] none
def innkeeplaw12_SightMoves.c77 : Cd := .seq (.reg false [⟨some 167, .move (.t 23), none, [], []⟩,
    ⟨some 168, .bin .add (.t 167) (.c (.int .i64) (1 : Int)), none, [], []⟩,
    ⟨some 23, .move (.t 168), none, [], []⟩]) (innkeeplaw12_SightMoves.c79)
def innkeeplaw12_SightMoves.c73 : Cd := .seq (.block 3 (.seq (.reg false [⟨some 169, .move (.t 21), none, [], []⟩,
    ⟨some 170, .move (.t 169), none, [], []⟩,
    ⟨some 171, .move (.t 19), some (170, false), [], []⟩,
    ⟨some 172, .move (.t 23), some (170, false), [], []⟩,
    ⟨some 173, .index (.sl (.int .i64)) (.t 171) (.t 172), some (170, false), [], []⟩,
    ⟨some 174, .load (.d (.int .i64)) (.t 173), some (170, false), [], []⟩,
    ⟨some 175, .move (.t 9), some (170, false), [], []⟩,
    ⟨some 176, .bin .eql (.t 174) (.t 175), some (170, false), [], []⟩,
    ⟨some 177, .pick (.t 170) (.c .bool true) (.t 176), none, [], []⟩,
    ⟨some 21, .move (.t 177), none, [], []⟩]) (innkeeplaw12_SightMoves.c78))) (innkeeplaw12_SightMoves.c77)
def innkeeplaw12_SightMoves.c72 : Cd := .tidy [] [] [] (some 5)
def innkeeplaw12_SightMoves.c71 : Cd := .seq (.seq (.seq (.seq (.reg false [⟨some 163, .move (.t 23), none, [], []⟩,
    ⟨some 164, .move (.t 19), none, [], []⟩,
    ⟨some 165, .len (.t 164), none, [], []⟩,
    ⟨some 166, .bin .lss (.t 163) (.t 165), none, [], []⟩]) (innkeeplaw12_SightMoves.c75)) (innkeeplaw12_SightMoves.c74)) (innkeeplaw12_SightMoves.c73)) (innkeeplaw12_SightMoves.c72)
def innkeeplaw12_SightMoves.c70 : Cd := .block 2 (.loop (innkeeplaw12_SightMoves.c71))
def innkeeplaw12_SightMoves.c82 : Cd := .tidy [178, 179, 180, 181, 182, 183, 184, 185, 186, 187, 188, 189] [] [] none
def innkeeplaw12_SightMoves.c81 : Cd := .ret
def innkeeplaw12_SightMoves.c69 : Cd := .seq (.seq (.reg false [⟨some 178, .move (.t 20), none, [], []⟩,
    ⟨some 179, .move (.t 178), none, [], []⟩,
    ⟨some 180, .move (.t 21), some (179, true), [], []⟩,
    ⟨some 181, .pick (.t 179) (.t 180) (.c .bool false), none, [], []⟩,
    ⟨some 182, .move (.t 181), none, [], []⟩,
    ⟨some 183, .load (.d tWorld) (.t 17), some (182, true), [], []⟩,
    ⟨some 184, .move (.t 9), some (182, true), [], []⟩,
    ⟨some 185, .call (.f 11) [(.t 183), (.t 184)] [.d tReply] [] false, some (182, true), [], []⟩,
    ⟨some 186, .field tReply 2 (.t 185), some (182, true), [], []⟩,
    ⟨some 187, .move (.t 16), some (182, true), [], []⟩,
    ⟨some 188, .bin .eql (.t 186) (.t 187), some (182, true), [], []⟩,
    ⟨some 189, .pick (.t 182) (.t 188) (.c .bool false), none, [], []⟩,
    ⟨some 8, .move (.t 189), none, [], []⟩]) (innkeeplaw12_SightMoves.c82)) (innkeeplaw12_SightMoves.c81)
def innkeeplaw12_SightMoves.c57 : Cd := .seq (.seq (.reg false [⟨some 23, .move (.c (.int .i64) (0 : Int)), none, [], []⟩]) (innkeeplaw12_SightMoves.c70)) (innkeeplaw12_SightMoves.c69)
def innkeeplaw12_SightMoves.c56 : Cd := .seq (.seq (.reg false [⟨some 22, .move (.c (.int .i64) (0 : Int)), none, [], []⟩]) (innkeeplaw12_SightMoves.c58)) (innkeeplaw12_SightMoves.c57)
def innkeeplaw12_SightMoves.c55 : Cd := .seq (.reg false [⟨some 21, .move (.c .bool false), none, [], []⟩]) (innkeeplaw12_SightMoves.c56)
def innkeeplaw12_SightMoves.c53 : Cd := .seq (.reg false [⟨some 20, .move (.c .bool true), none, [], []⟩]) (innkeeplaw12_SightMoves.c55)
def innkeeplaw12_SightMoves.c51 : Cd := .seq (.seq (.reg false [⟨some 136, .load (.d tWorld) (.t 17), none, [], []⟩,
    ⟨some 137, .move (.t 16), none, [], []⟩,
    ⟨some 138, .call (.f 16) [(.t 136), (.t 137)] [.d (.sl (.int .i64))] [] false, none, [], []⟩,
    ⟨some 19, .move (.t 138), none, [], []⟩]) (innkeeplaw12_SightMoves.c54)) (innkeeplaw12_SightMoves.c53)
def innkeeplaw12_SightMoves.c49 : Cd := .seq (.seq (.reg true [⟨some 129, .load (.d tWorld) (.t 17), none, [2], []⟩,
    ⟨some 130, .fieldAddr (.d tWorld) 1 (.t 4), none, [0], []⟩,
    ⟨some 131, .load (.d (.sl (.int .i64))) (.t 130), none, [0], []⟩,
    ⟨some 132, .move (.t 9), none, [], []⟩,
    ⟨some 133, .index (.sl (.int .i64)) (.t 131) (.t 132), none, [], []⟩,
    ⟨some 134, .load (.d (.int .i64)) (.t 133), none, [], []⟩,
    ⟨some 135, .call (.f 16) [(.t 129), (.t 134)] [.d (.sl (.int .i64))] [] false, none, [], [4]⟩,
    ⟨some 18, .move (.t 135), none, [], []⟩]) (innkeeplaw12_SightMoves.c52)) (innkeeplaw12_SightMoves.c51)
def innkeeplaw12_SightMoves.c47 : Cd := .seq (.seq (.reg false [⟨some 124, .fieldAddr (.d tWorld) 1 (.t 17), none, [], []⟩,
    ⟨some 125, .load (.d (.sl (.int .i64))) (.t 124), none, [], []⟩,
    ⟨some 126, .move (.t 9), none, [], []⟩,
    ⟨some 127, .move (.t 16), none, [], []⟩,
    ⟨some 128, .index (.sl (.int .i64)) (.t 125) (.t 126), none, [], []⟩,
    ⟨none, .store (.d (.int .i64)) (.t 128) (.t 127), none, [], []⟩]) (innkeeplaw12_SightMoves.c50)) (innkeeplaw12_SightMoves.c49)
def innkeeplaw12_SightMoves.c41 : Cd := .seq (.seq (.reg false [⟨some 122, .load (.d tWorld) (.t 4), none, [], []⟩,
    ⟨some 123, .call (.f 19) [(.t 122)] [.d tWorld] [((0, [1]), 4)] false, none, [], []⟩,
    ⟨some 17, .newbox 2 tWorld [], none, [], []⟩,
    ⟨none, .store (.d tWorld) (.t 17) (.t 123), none, [], []⟩]) (innkeeplaw12_SightMoves.c48)) (innkeeplaw12_SightMoves.c47)
def innkeeplaw12_SightMoves.c39 : Cd := .seq (.seq (.seq (.reg false [⟨some 120, .move (.t 16), none, [], []⟩,
    ⟨some 121, .bin .lss (.t 120) (.c (.int .i64) (0 : Int)), none, [], []⟩]) (innkeeplaw12_SightMoves.c43)) (innkeeplaw12_SightMoves.c42)) (innkeeplaw12_SightMoves.c41)
def innkeeplaw12_SightMoves.c12 : Cd := .seq (.seq (.reg true [⟨some 107, .fieldAddr (.d tWorld) 0 (.t 4), none, [0], []⟩,
    ⟨some 108, .fieldAddr (.d tDesc) 0 (.t 107), none, [0], []⟩,
    ⟨some 109, .load (.d (.sl (.arr 4 (.int .i64)))) (.t 108), none, [0], []⟩,
    ⟨some 110, .fieldAddr (.d tWorld) 1 (.t 4), none, [0], []⟩,
    ⟨some 111, .load (.d (.sl (.int .i64))) (.t 110), none, [0], []⟩,
    ⟨some 112, .move (.t 9), none, [], []⟩,
    ⟨some 113, .index (.sl (.int .i64)) (.t 111) (.t 112), none, [], []⟩,
    ⟨some 114, .load (.d (.int .i64)) (.t 113), none, [], []⟩,
    ⟨some 115, .move (.t 3), none, [], []⟩,
    ⟨some 116, .bin .rem (.t 115) (.c (.int .u8) (4 : Int)), none, [], []⟩,
    ⟨some 117, .index (.sl (.arr 4 (.int .i64))) (.t 109) (.t 114), none, [], []⟩,
    ⟨some 118, .index (.arr 4 (.int .i64)) (.t 117) (.t 116), none, [], []⟩,
    ⟨some 119, .load (.d (.int .i64)) (.t 118), none, [], []⟩,
    ⟨some 16, .move (.t 119), none, [], []⟩]) (innkeeplaw12_SightMoves.c40)) (innkeeplaw12_SightMoves.c39)
def innkeeplaw12_SightMoves.c10 : Cd := .seq (.seq (.seq (.reg true [⟨some 50, .fieldAddr (.d tWorld) 3 (.t 4), none, [0], []⟩,
    ⟨some 51, .load (.d (.sl tPlace)) (.t 50), none, [0], []⟩,
    ⟨some 52, .move (.t 10), none, [], []⟩,
    ⟨some 53, .index (.sl tPlace) (.t 51) (.t 52), none, [], []⟩,
    ⟨some 54, .load (.d tPlace) (.t 53), none, [], []⟩,
    ⟨some 55, .fieldAddr (.d tWorld) 1 (.t 4), none, [0], []⟩,
    ⟨some 56, .load (.d (.sl (.int .i64))) (.t 55), none, [0], []⟩,
    ⟨some 57, .move (.t 9), none, [], []⟩,
    ⟨some 58, .index (.sl (.int .i64)) (.t 56) (.t 57), none, [], []⟩,
    ⟨some 59, .load (.d (.int .i64)) (.t 58), none, [], []⟩,
    ⟨some 60, .build tPlace [(1, (.t 59))] [], none, [], []⟩,
    ⟨some 61, .eqs tPlace false (.t 54) (.t 60), none, [], []⟩]) (innkeeplaw12_SightMoves.c14)) (innkeeplaw12_SightMoves.c13)) (innkeeplaw12_SightMoves.c12)
def innkeeplaw12_SightMoves.c8 : Cd := .seq (.seq (.reg false [⟨some 44, .move (.t 2), none, [], []⟩,
    ⟨some 45, .conv .i64 (.t 44), none, [], []⟩,
    ⟨some 46, .fieldAddr (.d tWorld) 3 (.t 4), none, [], []⟩,
    ⟨some 47, .load (.d (.sl tPlace)) (.t 46), none, [], []⟩,
    ⟨some 48, .len (.t 47), none, [], []⟩,
    ⟨some 49, .bin .rem (.t 45) (.t 48), none, [], []⟩,
    ⟨some 10, .move (.t 49), none, [], []⟩]) (innkeeplaw12_SightMoves.c11)) (innkeeplaw12_SightMoves.c10)
def innkeeplaw12_SightMoves.c1 : Cd := .seq (.seq (.reg false [⟨some 38, .move (.t 1), none, [], []⟩,
    ⟨some 39, .conv .i64 (.t 38), none, [], []⟩,
    ⟨some 40, .fieldAddr (.d tWorld) 1 (.t 4), none, [], []⟩,
    ⟨some 41, .load (.d (.sl (.int .i64))) (.t 40), none, [], []⟩,
    ⟨some 42, .len (.t 41), none, [], []⟩,
    ⟨some 43, .bin .rem (.t 39) (.t 42), none, [], []⟩,
    ⟨some 9, .move (.t 43), none, [], []⟩]) (innkeeplaw12_SightMoves.c9)) (innkeeplaw12_SightMoves.c8)
def innkeeplaw12_SightMoves.c0 : Cd := .seq (.seq (.seq (.reg false [⟨some 24, .call (.f 8) [] [.d .bool] [] false, none, [], []⟩,
    ⟨some 25, .not (.t 24), none, [], []⟩,
    ⟨some 26, .move (.t 25), none, [], []⟩,
    ⟨some 27, .load (.d tWorld) (.t 4), some (26, false), [], []⟩,
    ⟨some 28, .call (.f 9) [(.t 27)] [.d .bool] [] false, some (26, false), [], []⟩,
    ⟨some 29, .not (.t 28), some (26, false), [], []⟩,
    ⟨some 30, .pick (.t 26) (.c .bool true) (.t 29), none, [], []⟩,
    ⟨some 31, .move (.t 30), none, [], []⟩,
    ⟨some 32, .fieldAddr (.d tWorld) 3 (.t 4), some (31, false), [], []⟩,
    ⟨some 33, .load (.d (.sl tPlace)) (.t 32), some (31, false), [], []⟩,
    ⟨some 34, .len (.t 33), some (31, false), [], []⟩,
    ⟨some 35, .bin .eql (.t 34) (.c (.int .i64) (0 : Int)), some (31, false), [], []⟩,
    ⟨some 36, .pick (.t 31) (.c .bool true) (.t 35), none, [], []⟩]) (innkeeplaw12_SightMoves.c3)) (innkeeplaw12_SightMoves.c2)) (innkeeplaw12_SightMoves.c1)
def innkeeplaw12_SightMoves.fn : Fn := ⟨4, [.tmp 8], .seq (.reg false [⟨some 4, .box 0 (.t 0), none, [], []⟩,
    ⟨some 8, .move (.c .bool false), none, [], []⟩]) (innkeeplaw12_SightMoves.c0)⟩
def innkeeplaw12_SightSame.c3 : Cd := .tidy [16, 17, 18, 19, 20, 21] [] [] none
def innkeeplaw12_SightSame.c6 : Cd := .tidy [23] [] [] none
def innkeeplaw12_SightSame.c5 : Cd := .ret
def innkeeplaw12_SightSame.c4 : Cd := .seq (.seq (.reg false [⟨some 23, .call (.f 8) [] [.d .bool] [] false, none, [], []⟩,
    ⟨some 6, .move (.t 23), none, [], []⟩]) (innkeeplaw12_SightSame.c6)) (innkeeplaw12_SightSame.c5)
def innkeeplaw12_SightSame.c7 : Cd := .skip
def innkeeplaw12_SightSame.c2 : Cd := .cond (.t 22) (.seq (.tidy [22] [] [] none) (innkeeplaw12_SightSame.c4)) (.seq (.tidy [22] [] [] none) (innkeeplaw12_SightSame.c7))
def innkeeplaw12_SightSame.c9 : Cd := .tidy [24, 25, 26, 27, 28, 29] [] [] none
def innkeeplaw12_SightSame.c11 : Cd := .tidy [30, 31, 32, 33, 34, 35] [] [] none
def innkeeplaw12_SightSame.c13 : Cd := .tidy [36, 37, 38] [] [] none
def innkeeplaw12_SightSame.c15 : Cd := .tidy [39, 40, 41] [] [] none
def innkeeplaw12_SightSame.c18 : Cd := .tidy [42, 43, 44, 45, 46, 47, 48, 49, 50, 51, 52, 53, 54, 55] [] [] none
def innkeeplaw12_SightSame.c20 : Cd := .ret
def innkeeplaw12_SightSame.c19 : Cd := .seq (.reg false [⟨some 6, .move (.c .bool false), none, [], []⟩]) (innkeeplaw12_SightSame.c20)
def innkeeplaw12_SightSame.c21 : Cd := .skip
def innkeeplaw12_SightSame.c17 : Cd := .cond (.t 56) (.seq (.tidy [56] [] [] none) (innkeeplaw12_SightSame.c19)) (.seq (.tidy [56] [] [] none) (innkeeplaw12_SightSame.c21))
def innkeeplaw12_SightSame.c23 : Cd := .tidy [57, 58, 59] [] [] none
def innkeeplaw12_SightSame.c25 : Cd := .tidy [60, 61, 62, 63, 64, 65, 66] [] [] none
def innkeeplaw12_SightSame.c32 : Cd := .tidy [67, 68, 69] [] [] none
def innkeeplaw12_SightSame.c33 : Cd := .skip
def innkeeplaw12_SightSame.c59 : Cd := .exit 0
def innkeeplaw12_SightSame.c31 : Cd := .cond (.t 70) (.seq (.tidy [70] [] [] none) (innkeeplaw12_SightSame.c33)) (.seq (.tidy [70] [] [] none) (innkeeplaw12_SightSame.c59))
def innkeeplaw12_SightSame.c37 : Cd := .tidy [73, 74, 75, 76, 77, 78] [] [] none
def innkeeplaw12_SightSame.c38 : Cd := .exit 1
def innkeeplaw12_SightSame.c40 : Cd := .skip
def innkeeplaw12_SightSame.c36 : Cd := .cond (.t 79) (.seq (.tidy [79] [] [] none) (innkeeplaw12_SightSame.c38)) (.seq (.tidy [79] [] [] none) (innkeeplaw12_SightSame.c40))
def innkeeplaw12_SightSame.c48 : Cd := .tidy [80, 81, 82] [] [] none
def innkeeplaw12_SightSame.c49 : Cd := .skip
def innkeeplaw12_SightSame.c53 : Cd := .exit 2
def innkeeplaw12_SightSame.c47 : Cd := .cond (.t 83) (.seq (.tidy [83] [] [] none) (innkeeplaw12_SightSame.c49)) (.seq (.tidy [83] [] [] none) (innkeeplaw12_SightSame.c53))
def innkeeplaw12_SightSame.c51 : Cd := .tidy [86, 87, 88, 89, 90, 91, 92, 93, 94, 95, 96, 97, 98, 99, 100] [] [] none
def innkeeplaw12_SightSame.c52 : Cd := .tidy [84, 85] [] [] none
def innkeeplaw12_SightSame.c50 : Cd := .seq (.reg false [⟨some 84, .move (.t 15), none, [], []⟩,
    ⟨some 85, .bin .add (.t 84) (.c (.int .i64) (1 : Int)), none, [], []⟩,
    ⟨some 15, .move (.t 85), none, [], []⟩]) (innkeeplaw12_SightSame.c52)
def innkeeplaw12_SightSame.c46 : Cd := .seq (.block 3 (.seq (.reg true [⟨some 86, .move (.t 14), none, [], []⟩,
    ⟨some 87, .move (.t 86), none, [], []⟩,
    ⟨some 88, .move (.t 12), some (87, false), [], []⟩,
    ⟨some 89, .move (.t 15), some (87, false), [], []⟩,
    ⟨some 90, .index (.sl tSeen) (.t 88) (.t 89), some (87, false), [6], []⟩,
    ⟨some 91, .fieldAddr (.d tSeen) 0 (.t 90), some (87, false), [6], []⟩,
    ⟨some 92, .load (.d (.int .i64)) (.t 91), some (87, false), [6], []⟩,
    ⟨some 93, .move (.t 12), some (87, false), [], []⟩,
    ⟨some 94, .move (.t 13), some (87, false), [], []⟩,
    ⟨some 95, .index (.sl tSeen) (.t 93) (.t 94), some (87, false), [6], []⟩,
    ⟨some 96, .fieldAddr (.d tSeen) 1 (.t 95), some (87, false), [6], []⟩,
    ⟨some 97, .fieldAddr (.d tPlace) 1 (.t 96), some (87, false), [6], []⟩,
    ⟨some 98, .load (.d (.int .i64)) (.t 97), some (87, false), [6], []⟩,
    ⟨some 99, .bin .eql (.t 92) (.t 98), some (87, false), [], []⟩,
    ⟨some 100, .pick (.t 87) (.c .bool true) (.t 99), none, [], []⟩,
    ⟨some 14, .move (.t 100), none, [], []⟩]) (innkeeplaw12_SightSame.c51))) (innkeeplaw12_SightSame.c50)
def innkeeplaw12_SightSame.c45 : Cd := .tidy [] [] [] (some 7)
def innkeeplaw12_SightSame.c44 : Cd := .seq (.seq (.seq (.seq (.reg false [⟨some 80, .move (.t 15), none, [], []⟩,
    ⟨some 81, .move (.t 12), none, [], []⟩,
    ⟨some 82, .len (.t 81), none, [], []⟩,
    ⟨some 83, .bin .lss (.t 80) (.t 82), none, [], []⟩]) (innkeeplaw12_SightSame.c48)) (innkeeplaw12_SightSame.c47)) (innkeeplaw12_SightSame.c46)) (innkeeplaw12_SightSame.c45)
def innkeeplaw12_SightSame.c43 : Cd := .block 2 (.loop (innkeeplaw12_SightSame.c44))
def innkeeplaw12_SightSame.c55 : Cd := .tidy [101] [] [] none
def innkeeplaw12_SightSame.c57 : Cd := .ret
def innkeeplaw12_SightSame.c56 : Cd := .seq (.reg false [⟨some 6, .move (.c .bool false), none, [], []⟩]) (innkeeplaw12_SightSame.c57)
def innkeeplaw12_SightSame.c58 : Cd := .skip
def innkeeplaw12_SightSame.c54 : Cd := .cond (.t 102) (.seq (.tidy [102] [] [] none) (innkeeplaw12_SightSame.c56)) (.seq (.tidy [102] [] [] none) (innkeeplaw12_SightSame.c58))
def innkeeplaw12_SightSame.c42 : Cd := .seq (.seq (.reg false [⟨some 101, .move (.t 14), none, [], []⟩,
    ⟨some 102, .not (.t 101), none, [], []⟩]) (innkeeplaw12_SightSame.c55)) (innkeeplaw12_SightSame.c54)
def innkeeplaw12_SightSame.c41 : Cd := .seq (.seq (.reg false [⟨some 15, .move (.c (.int .i64) (0 : Int)), none, [], []⟩]) (innkeeplaw12_SightSame.c43)) (innkeeplaw12_SightSame.c42)
def innkeeplaw12_SightSame.c35 : Cd := .seq (.reg false [⟨some 14, .move (.c .bool false), none, [], []⟩]) (innkeeplaw12_SightSame.c41)
def innkeeplaw12_SightSame.c39 : Cd := .tidy [71, 72] [] [] none
def innkeeplaw12_SightSame.c34 : Cd := .seq (.reg false [⟨some 71, .move (.t 13), none, [], []⟩,
    ⟨some 72, .bin .add (.t 71) (.c (.int .i64) (1 : Int)), none, [], []⟩,
    ⟨some 13, .move (.t 72), none, [], []⟩]) (innkeeplaw12_SightSame.c39)
def innkeeplaw12_SightSame.c30 : Cd := .seq (.block 1 (.seq (.seq (.seq (.reg false [⟨some 73, .move (.t 12), none, [], []⟩,
    ⟨some 74, .move (.t 13), none, [], []⟩,
    ⟨some 75, .index (.sl tSeen) (.t 73) (.t 74), none, [], []⟩,
    ⟨some 76, .fieldAddr (.d tSeen) 1 (.t 75), none, [], []⟩,
    ⟨some 77, .fieldAddr (.d tPlace) 0 (.t 76), none, [], []⟩,
    ⟨some 78, .load (.d (.int .i64)) (.t 77), none, [], []⟩,
    ⟨some 79, .bin .neq (.t 78) (.c (.int .i64) (2 : Int)), none, [], []⟩]) (innkeeplaw12_SightSame.c37)) (innkeeplaw12_SightSame.c36)) (innkeeplaw12_SightSame.c35))) (innkeeplaw12_SightSame.c34)
def innkeeplaw12_SightSame.c29 : Cd := .tidy [14, 15] [] [] (some 7)
def innkeeplaw12_SightSame.c28 : Cd := .seq (.seq (.seq (.seq (.reg false [⟨some 67, .move (.t 13), none, [], []⟩,
    ⟨some 68, .move (.t 12), none, [], []⟩,
    ⟨some 69, .len (.t 68), none, [], []⟩,
    ⟨some 70, .bin .lss (.t 67) (.t 69), none, [], []⟩]) (innkeeplaw12_SightSame.c32)) (innkeeplaw12_SightSame.c31)) (innkeeplaw12_SightSame.c30)) (innkeeplaw12_SightSame.c29)
def innkeeplaw12_SightSame.c27 : Cd := .block 0 (.loop (innkeeplaw12_SightSame.c28))
def innkeeplaw12_SightSame.c60 : Cd := .ret
def innkeeplaw12_SightSame.c26 : Cd := .seq (.reg false [⟨some 6, .move (.c .bool true), none, [], []⟩]) (innkeeplaw12_SightSame.c60)
def innkeeplaw12_SightSame.c24 : Cd := .seq (.seq (.reg false [⟨some 13, .move (.c (.int .i64) (0 : Int)), none, [], []⟩]) (innkeeplaw12_SightSame.c27)) (innkeeplaw12_SightSame.c26)
def innkeeplaw12_SightSame.c22 : Cd := .seq (.seq (.reg true [⟨some 60, .slice 4 tSeen [], none, [], [4]⟩,
    ⟨some 61, .fieldAddr (.d tReply) 4 (.t 9), none, [1], []⟩,
    ⟨some 62, .load (.d (.sl tSeen)) (.t 61), none, [1], []⟩,
    ⟨some 63, .append 5 tSeen (.t 60) (.t 62), none, [], [4, 5]⟩,
    ⟨some 64, .fieldAddr (.d tReply) 4 (.t 11), none, [3], []⟩,
    ⟨some 65, .load (.d (.sl tSeen)) (.t 64), none, [3], []⟩,
    ⟨some 66, .append 6 tSeen (.t 63) (.t 65), none, [], [5, 6]⟩,
    ⟨some 12, .move (.t 66), none, [], []⟩]) (innkeeplaw12_SightSame.c25)) (innkeeplaw12_SightSame.c24)
def innkeeplaw12_SightSame.c16 : Cd := .seq (.seq (.reg false [⟨some 57, .load (.d tWorld) (.t 3), none, [], []⟩,
    ⟨some 58, .move (.t 7), none, [], []⟩,
    ⟨some 59, .call (.f 13) [(.t 57), (.t 58)] [.d tReply] [] false, none, [], []⟩,
    ⟨some 11, .newbox 3 tReply [], none, [], []⟩,
    ⟨none, .store (.d tReply) (.t 11) (.t 59), none, [], []⟩]) (innkeeplaw12_SightSame.c23)) (innkeeplaw12_SightSame.c22)
def innkeeplaw12_SightSame.c14 : Cd := .seq (.seq (.seq (.reg true [⟨some 42, .load (.d tReply) (.t 9), none, [1], []⟩,
    ⟨some 43, .load (.d tReply) (.t 10), none, [2], []⟩,
    ⟨some 44, .call (.f 10) [(.t 42), (.t 43)] [.d .bool] [] false, none, [], []⟩,
    ⟨some 45, .fieldAddr (.d tWorld) 1 (.t 3), none, [0], []⟩,
    ⟨some 46, .load (.d (.sl (.int .i64))) (.t 45), none, [0], []⟩,
    ⟨some 47, .move (.t 7), none, [], []⟩,
    ⟨some 48, .index (.sl (.int .i64)) (.t 46) (.t 47), none, [], []⟩,
    ⟨some 49, .load (.d (.int .i64)) (.t 48), none, [], []⟩,
    ⟨some 50, .fieldAddr (.d tWorld) 1 (.t 3), none, [0], []⟩,
    ⟨some 51, .load (.d (.sl (.int .i64))) (.t 50), none, [0], []⟩,
    ⟨some 52, .move (.t 8), none, [], []⟩,
    ⟨some 53, .index (.sl (.int .i64)) (.t 51) (.t 52), none, [], []⟩,
    ⟨some 54, .load (.d (.int .i64)) (.t 53), none, [], []⟩,
    ⟨some 55, .bin .eql (.t 49) (.t 54), none, [], []⟩,
    ⟨some 56, .eqs .bool true (.t 44) (.t 55), none, [], []⟩]) (innkeeplaw12_SightSame.c18)) (innkeeplaw12_SightSame.c17)) (innkeeplaw12_SightSame.c16)
def innkeeplaw12_SightSame.c12 : Cd := .seq (.seq (.reg false [⟨some 39, .load (.d tWorld) (.t 3), none, [], []⟩,
    ⟨some 40, .move (.t 8), none, [], []⟩,
    ⟨some 41, .call (.f 11) [(.t 39), (.t 40)] [.d tReply] [] false, none, [], []⟩,
    ⟨some 10, .newbox 2 tReply [], none, [], []⟩,
    ⟨none, .store (.d tReply) (.t 10) (.t 41), none, [], []⟩]) (innkeeplaw12_SightSame.c15)) (innkeeplaw12_SightSame.c14)
def innkeeplaw12_SightSame.c10 : Cd := .seq (.seq (.reg false [⟨some 36, .load (.d tWorld) (.t 3), none, [], []⟩,
    ⟨some 37, .move (.t 7), none, [], []⟩,
    ⟨some 38, .call (.f 11) [(.t 36), (.t 37)] [.d tReply] [] false, none, [], []⟩,
    ⟨some 9, .newbox 1 tReply [], none, [], []⟩,
    ⟨none, .store (.d tReply) (.t 9) (.t 38), none, [], []⟩]) (innkeeplaw12_SightSame.c13)) (innkeeplaw12_SightSame.c12)
def innkeeplaw12_SightSame.c8 : Cd := .seq (.seq (.reg false [⟨some 30, .move (.t 2), none, [], []⟩,
    ⟨some 31, .conv .i64 (.t 30), none, [], []⟩,
    ⟨some 32, .fieldAddr (.d tWorld) 1 (.t 3), none, [], []⟩,
    ⟨some 33, .load (.d (.sl (.int .i64))) (.t 32), none, [], []⟩,
    ⟨some 34, .len (.t 33), none, [], []⟩,
    ⟨some 35, .bin .rem (.t 31) (.t 34), none, [], []⟩,
    ⟨some 8, .move (.t 35), none, [], []⟩]) (innkeeplaw12_SightSame.c11)) (innkeeplaw12_SightSame.c10)
def innkeeplaw12_SightSame.c1 : Cd := .seq (.seq (.reg false [⟨some 24, .move (.t 1), none, [], []⟩,
    ⟨some 25, .conv .i64 (.t 24), none, [], []⟩,
    ⟨some 26, .fieldAddr (.d tWorld) 1 (.t 3), none, [], []⟩,
    ⟨some 27, .load (.d (.sl (.int .i64))) (.t 26), none, [], []⟩,
    ⟨some 28, .len (.t 27), none, [], []⟩,
    ⟨some 29, .bin .rem (.t 25) (.t 28), none, [], []⟩,
    ⟨some 7, .move (.t 29), none, [], []⟩]) (innkeeplaw12_SightSame.c9)) (innkeeplaw12_SightSame.c8)
def innkeeplaw12_SightSame.c0 : Cd := .seq (.seq (.seq (.reg false [⟨some 16, .call (.f 8) [] [.d .bool] [] false, none, [], []⟩,
    ⟨some 17, .not (.t 16), none, [], []⟩,
    ⟨some 18, .move (.t 17), none, [], []⟩,
    ⟨some 19, .load (.d tWorld) (.t 3), some (18, false), [], []⟩,
    ⟨some 20, .call (.f 9) [(.t 19)] [.d .bool] [] false, some (18, false), [], []⟩,
    ⟨some 21, .not (.t 20), some (18, false), [], []⟩,
    ⟨some 22, .pick (.t 18) (.c .bool true) (.t 21), none, [], []⟩]) (innkeeplaw12_SightSame.c3)) (innkeeplaw12_SightSame.c2)) (innkeeplaw12_SightSame.c1)
def innkeeplaw12_SightSame.fn : Fn := ⟨3, [.tmp 6], .seq (.reg false [⟨some 3, .box 0 (.t 0), none, [], []⟩,
    ⟨some 6, .move (.c .bool false), none, [], []⟩]) (innkeeplaw12_SightSame.c0)⟩
def prog : FuncId → Option Fn
  | 3 => some innkeeplaw12_SightTells.fn
  | 4 => some innkeeplaw12_SightAll.fn
  | 5 => some innkeeplaw12_SightKeeps.fn
  | 6 => some innkeeplaw12_SightMoves.fn
  | 7 => some innkeeplaw12_SightSame.fn
  | 8 => some innkeeplaw12_awake.fn
  | 9 => some innkeeplaw12_fits.fn
  | 10 => some innkeepref05_Same.fn
  | 11 => some sight_Look.fn
  | 12 => some innkeepref12_Look.fn
  | 13 => some sight_Own.fn
  | 14 => some innkeepref12_Own.fn
  | 15 => some innkeepref03_Ints.fn
  | 16 => some sight_Present.fn
  | 17 => some innkeepref12_Present.fn
  | 18 => some innkeepref05_May.fn
  | 19 => some innkeepref06_Copied.fn
  | 20 => some innkeepref06_Same.fn
  | 21 => some innkeepref06_Right.fn
  | 22 => some innkeepref06_New.fn
  | 23 => some innkeepref06_Few.fn
  | 24 => some innkeepref05_Seens.fn
  | 25 => some tree_Under.fn
  | 26 => some innkeepref07_Under.fn
  | 27 => some innkeepref05_fit.fn
  | 28 => some innkeepref06_Places.fn
  | 29 => some innkeepref06_May.fn
  | 30 => some innkeepref06_in.fn
  | 31 => some innkeepref01_Is.fn
  | 32 => some innkeepref06_Depth.fn
  | 33 => some innkeepref06_Many.fn
  | 34 => some innkeepref06_Cap.fn
  | 35 => some tree_Root.fn
  | 36 => some innkeepref07_Root.fn
  | 38 => some tree_up.fn
  | _ => none
end Go.Proofs.Ytkoefhpkdghpnaa.Ghost
