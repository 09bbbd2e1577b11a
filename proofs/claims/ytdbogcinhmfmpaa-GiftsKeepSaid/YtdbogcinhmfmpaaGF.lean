/- The functions as ghost code. Conditions: none; no statement is proved here. -/
import Derived.Test.YtdbogcinhmfmpaaA1
set_option linter.unusedVariables false
set_option linter.unusedSimpArgs false
set_option linter.unusedSectionVars false
set_option linter.unnecessarySimpa false
namespace Go.Proofs.Ytdbogcinhmfmpaa.Ghost
open Go
abbrev tboundsError : Ty := .st [(.int .i64), (.int .i64), .bool, (.int .u8)]
abbrev terrorAddressString : Ty := .st [.str, (.int .u64)]
abbrev tDesc : Ty := .st [(.sl (.arr 4 (.int .i64))), (.sl (.int .i64)), (.sl (.int .i64)), (.sl (.int .i64)), (.sl .bool), (.int .i64), (.int .i64), (.int .i64)]
abbrev tPlace : Ty := .st [(.int .i64), (.int .i64)]
abbrev tWorld : Ty := .st [tDesc, (.sl (.int .i64)), (.sl (.int .i64)), (.sl tPlace)]
abbrev tCmd : Ty := .st [(.int .i64), (.int .i64), (.int .i64), (.int .i64), (.int .i64), (.sl (.int .i64)), (.int .i64), (.sl (.int .i64)), (.int .i64)]
def innkeepref06_New.c2 : Cd := .tidy [5, 6] [] [] none
def innkeepref06_New.c4 : Cd := .tidy [7, 8, 9, 10, 11, 12] [] [] none
def innkeepref06_New.c6 : Cd := .tidy [13, 14, 15, 16, 17, 18] [] [] none
def innkeepref06_New.c13 : Cd := .tidy [19, 20, 21, 22] [] [] none
def innkeepref06_New.c14 : Cd := .skip
def innkeepref06_New.c18 : Cd := .exit 0
def innkeepref06_New.c12 : Cd := .cond (.t 23) (.seq (.tidy [23] [] [] none) (innkeepref06_New.c14)) (.seq (.tidy [23] [] [] none) (innkeepref06_New.c18))
def innkeepref06_New.c16 : Cd := .tidy [26, 27, 28, 29, 30, 31, 32, 33, 34, 35, 36] [] [] none
def innkeepref06_New.c17 : Cd := .tidy [24, 25] [] [] none
def innkeepref06_New.c15 : Cd := .seq (.reg false [⟨some 24, .move (.t 4), none, [], []⟩,
    ⟨some 25, .bin .add (.t 24) (.c (.int .i64) (1 : Int)), none, [], []⟩,
    ⟨some 4, .move (.t 25), none, [], []⟩]) (innkeepref06_New.c17)
def innkeepref06_New.c11 : Cd := .seq (.block 1 (.seq (.reg true [⟨some 26, .fieldAddr (.d tWorld) 3 (.t 3), none, [2], []⟩,
    ⟨some 27, .load (.d (.sl tPlace)) (.t 26), none, [2], []⟩,
    ⟨some 28, .fieldAddr (.d tDesc) 3 (.t 1), none, [0], []⟩,
    ⟨some 29, .load (.d (.sl (.int .i64))) (.t 28), none, [0], []⟩,
    ⟨some 30, .move (.t 4), none, [], []⟩,
    ⟨some 31, .index (.sl (.int .i64)) (.t 29) (.t 30), none, [], []⟩,
    ⟨some 32, .load (.d (.int .i64)) (.t 31), none, [], []⟩,
    ⟨some 33, .build tPlace [(1, (.t 32))] [], none, [], []⟩,
    ⟨some 34, .slice 5 tPlace [(.t 33)], none, [], [5]⟩,
    ⟨some 35, .append 6 tPlace (.t 27) (.t 34), none, [5], [6, 9]⟩,
    ⟨some 36, .fieldAddr (.d tWorld) 3 (.t 3), none, [2], []⟩,
    ⟨none, .store (.d (.sl tPlace)) (.t 36) (.t 35), none, [], [2]⟩]) (innkeepref06_New.c16))) (innkeepref06_New.c15)
def innkeepref06_New.c10 : Cd := .tidy [] [(6, 9)] [5] (some 10)
def innkeepref06_New.c9 : Cd := .seq (.seq (.seq (.seq (.reg false [⟨some 19, .move (.t 4), none, [], []⟩,
    ⟨some 20, .fieldAddr (.d tDesc) 3 (.t 1), none, [], []⟩,
    ⟨some 21, .load (.d (.sl (.int .i64))) (.t 20), none, [], []⟩,
    ⟨some 22, .len (.t 21), none, [], []⟩,
    ⟨some 23, .bin .lss (.t 19) (.t 22), none, [], []⟩]) (innkeepref06_New.c13)) (innkeepref06_New.c12)) (innkeepref06_New.c11)) (innkeepref06_New.c10)
def innkeepref06_New.c8 : Cd := .block 0 (.loop (innkeepref06_New.c9))
def innkeepref06_New.c20 : Cd := .tidy [37] [] [] none
def innkeepref06_New.c19 : Cd := .ret
def innkeepref06_New.c7 : Cd := .seq (.seq (.reg false [⟨some 37, .load (.d tWorld) (.t 3), none, [], []⟩,
    ⟨none, .store (.d tWorld) (.t 2) (.t 37), none, [], []⟩]) (innkeepref06_New.c20)) (innkeepref06_New.c19)
def innkeepref06_New.c5 : Cd := .seq (.seq (.reg false [⟨some 4, .move (.c (.int .i64) (0 : Int)), none, [], []⟩]) (innkeepref06_New.c8)) (innkeepref06_New.c7)
def innkeepref06_New.c3 : Cd := .seq (.seq (.reg false [⟨some 13, .fieldAddr (.d tWorld) 2 (.t 3), none, [], []⟩,
    ⟨some 14, .load (.d (.sl (.int .i64))) (.t 13), none, [], []⟩,
    ⟨some 15, .fieldAddr (.d tDesc) 2 (.t 1), none, [], []⟩,
    ⟨some 16, .load (.d (.sl (.int .i64))) (.t 15), none, [], []⟩,
    ⟨some 17, .append 4 (.int .i64) (.t 14) (.t 16), none, [], []⟩,
    ⟨some 18, .fieldAddr (.d tWorld) 2 (.t 3), none, [], []⟩,
    ⟨none, .store (.d (.sl (.int .i64))) (.t 18) (.t 17), none, [], []⟩]) (innkeepref06_New.c6)) (innkeepref06_New.c5)
def innkeepref06_New.c1 : Cd := .seq (.seq (.reg false [⟨some 7, .fieldAddr (.d tWorld) 1 (.t 3), none, [], []⟩,
    ⟨some 8, .load (.d (.sl (.int .i64))) (.t 7), none, [], []⟩,
    ⟨some 9, .fieldAddr (.d tDesc) 1 (.t 1), none, [], []⟩,
    ⟨some 10, .load (.d (.sl (.int .i64))) (.t 9), none, [], []⟩,
    ⟨some 11, .append 3 (.int .i64) (.t 8) (.t 10), none, [], []⟩,
    ⟨some 12, .fieldAddr (.d tWorld) 1 (.t 3), none, [], []⟩,
    ⟨none, .store (.d (.sl (.int .i64))) (.t 12) (.t 11), none, [], []⟩]) (innkeepref06_New.c4)) (innkeepref06_New.c3)
def innkeepref06_New.c0 : Cd := .seq (.seq (.reg false [⟨some 5, .load (.d tDesc) (.t 1), none, [], []⟩,
    ⟨some 6, .build tWorld [(0, (.t 5))] [([1], 7), ([2], 8), ([3], 9)], none, [], []⟩,
    ⟨some 3, .newbox 2 tWorld [], none, [], []⟩,
    ⟨none, .store (.d tWorld) (.t 3) (.t 6), none, [], []⟩]) (innkeepref06_New.c2)) (innkeepref06_New.c1)
def innkeepref06_New.fn : Fn := ⟨1, [.cell 2 (.d tWorld)], .seq (.reg false [⟨some 1, .box 0 (.t 0), none, [], []⟩,
    ⟨some 2, .newbox 1 tWorld [], none, [], []⟩]) (innkeepref06_New.c0)⟩
def gifts_is.c2 : Cd := .tidy [5, 6, 7, 8, 9, 10, 11, 12, 13] [] [] none
def gifts_is.c1 : Cd := .ret
def gifts_is.c0 : Cd := .seq (.seq (.reg false [⟨some 5, .move (.t 1), none, [], []⟩,
    ⟨some 6, .bin .geq (.t 5) (.c (.int .i64) (0 : Int)), none, [], []⟩,
    ⟨some 7, .move (.t 6), none, [], []⟩,
    ⟨some 8, .move (.t 1), some (7, true), [], []⟩,
    ⟨some 9, .fieldAddr (.d tWorld) 3 (.t 2), some (7, true), [], []⟩,
    ⟨some 10, .load (.d (.sl tPlace)) (.t 9), some (7, true), [], []⟩,
    ⟨some 11, .len (.t 10), some (7, true), [], []⟩,
    ⟨some 12, .bin .lss (.t 8) (.t 11), some (7, true), [], []⟩,
    ⟨some 13, .pick (.t 7) (.t 12) (.c .bool false), none, [], []⟩,
    ⟨some 4, .move (.t 13), none, [], []⟩]) (gifts_is.c2)) (gifts_is.c1)
def gifts_is.fn : Fn := ⟨2, [.tmp 4], .seq (.reg false [⟨some 2, .box 0 (.t 0), none, [], []⟩,
    ⟨some 4, .move (.c .bool false), none, [], []⟩]) (gifts_is.c0)⟩
def gifts_player.c2 : Cd := .tidy [5, 6, 7, 8, 9, 10, 11, 12, 13] [] [] none
def gifts_player.c1 : Cd := .ret
def gifts_player.c0 : Cd := .seq (.seq (.reg false [⟨some 5, .move (.t 1), none, [], []⟩,
    ⟨some 6, .bin .geq (.t 5) (.c (.int .i64) (0 : Int)), none, [], []⟩,
    ⟨some 7, .move (.t 6), none, [], []⟩,
    ⟨some 8, .move (.t 1), some (7, true), [], []⟩,
    ⟨some 9, .fieldAddr (.d tWorld) 1 (.t 2), some (7, true), [], []⟩,
    ⟨some 10, .load (.d (.sl (.int .i64))) (.t 9), some (7, true), [], []⟩,
    ⟨some 11, .len (.t 10), some (7, true), [], []⟩,
    ⟨some 12, .bin .lss (.t 8) (.t 11), some (7, true), [], []⟩,
    ⟨some 13, .pick (.t 7) (.t 12) (.c .bool false), none, [], []⟩,
    ⟨some 4, .move (.t 13), none, [], []⟩]) (gifts_player.c2)) (gifts_player.c1)
def gifts_player.fn : Fn := ⟨2, [.tmp 4], .seq (.reg false [⟨some 2, .box 0 (.t 0), none, [], []⟩,
    ⟨some 4, .move (.c .bool false), none, [], []⟩]) (gifts_player.c0)⟩
def gifts_with.c2 : Cd := .tidy [3, 4] [] [] none
def gifts_with.c1 : Cd := .ret
def gifts_with.c0 : Cd := .seq (.seq (.reg false [⟨some 3, .move (.t 0), none, [], []⟩,
    ⟨some 4, .build tPlace [(0, (.c (.int .i64) (1 : Int))), (1, (.t 3))] [], none, [], []⟩,
    ⟨none, .store (.d tPlace) (.t 2) (.t 4), none, [], []⟩]) (gifts_with.c2)) (gifts_with.c1)
def gifts_with.fn : Fn := ⟨1, [.cell 2 (.d tPlace)], .seq (.reg false [⟨some 2, .newbox 0 tPlace [], none, [], []⟩]) (gifts_with.c0)⟩
def tree_In.c4 : Cd := .tidy [8] [] [] none
def tree_In.c9 : Cd := .skip
def tree_In.c19 : Cd := .exit 0
def tree_In.c12 : Cd := .tidy [13, 14, 15] [] [] none
def tree_In.c14 : Cd := .tidy [16, 17] [] [] none
def tree_In.c16 : Cd := .tidy [19, 20, 21, 22] [] [] none
def tree_In.c15 : Cd := .seq (.reg false [⟨some 19, .move (.t 5), none, [], []⟩,
    ⟨some 20, .move (.t 6), none, [], []⟩,
    ⟨some 21, .slice 3 (.int .i64) [(.t 20)], none, [], []⟩,
    ⟨some 22, .append 4 (.int .i64) (.t 19) (.t 21), none, [], []⟩,
    ⟨some 5, .move (.t 22), none, [], []⟩]) (tree_In.c16)
def tree_In.c18 : Cd := .skip
def tree_In.c13 : Cd := .cond (.t 18) (.seq (.tidy [18] [] [] none) (tree_In.c15)) (.seq (.tidy [18] [] [] none) (tree_In.c18))
def tree_In.c11 : Cd := .seq (.seq (.reg false [⟨some 16, .load (.d tPlace) (.t 3), none, [], []⟩,
    ⟨some 17, .load (.d tPlace) (.t 7), none, [], []⟩,
    ⟨some 18, .eqs tPlace false (.t 16) (.t 17), none, [], []⟩]) (tree_In.c14)) (tree_In.c13)
def tree_In.c17 : Cd := .tidy [23] [] [] none
def tree_In.c10 : Cd := .seq (.reg false [⟨some 23, .bin .add (.t 11) (.c (.int .i64) (1 : Int)), none, [], []⟩,
    ⟨some 11, .move (.t 23), none, [], []⟩]) (tree_In.c17)
def tree_In.c8 : Cd := .seq (.block 1 (.seq (.seq (.reg false [⟨some 13, .move (.t 11), none, [], []⟩,
    ⟨some 14, .index (.sl tPlace) (.t 9) (.t 11), none, [], []⟩,
    ⟨some 15, .load (.d tPlace) (.t 14), none, [], []⟩,
    ⟨some 7, .newbox 2 tPlace [], none, [], []⟩,
    ⟨some 6, .move (.t 13), none, [], []⟩,
    ⟨none, .store (.d tPlace) (.t 7) (.t 15), none, [], []⟩]) (tree_In.c12)) (tree_In.c11))) (tree_In.c10)
def tree_In.c7 : Cd := .seq (.cond (.t 12) (.seq (.tidy [12] [] [] none) (tree_In.c9)) (.seq (.tidy [12] [] [] none) (tree_In.c19))) (tree_In.c8)
def tree_In.c6 : Cd := .tidy [6, 7] [(4, 5)] [2, 3] (some 6)
def tree_In.c5 : Cd := .seq (.seq (.reg false [⟨some 12, .bin .lss (.t 11) (.t 10), none, [], []⟩]) (tree_In.c7)) (tree_In.c6)
def tree_In.c3 : Cd := .block 0 (.loop (tree_In.c5))
def tree_In.c21 : Cd := .tidy [24] [] [] none
def tree_In.c20 : Cd := .ret
def tree_In.c2 : Cd := .seq (.seq (.reg false [⟨some 24, .move (.t 5), none, [], []⟩,
    ⟨some 4, .move (.t 24), none, [], []⟩]) (tree_In.c21)) (tree_In.c20)
def tree_In.c1 : Cd := .seq (.seq (.seq (.reg false [⟨some 8, .fieldAddr (.d tWorld) 3 (.t 2), none, [], []⟩,
    ⟨some 9, .load (.d (.sl tPlace)) (.t 8), none, [], []⟩,
    ⟨some 10, .len (.t 9), none, [], []⟩,
    ⟨some 11, .move (.c (.int .i64) (0 : Int)), none, [], []⟩]) (tree_In.c4)) (tree_In.c3)) (tree_In.c2)
def tree_In.c0 : Cd := .seq (.reg false [⟨some 5, .mknil 5 (.int .i64), none, [], []⟩]) (tree_In.c1)
def tree_In.fn : Fn := ⟨2, [.tmp 4], .seq (.reg false [⟨some 2, .box 0 (.t 0), none, [], []⟩,
    ⟨some 3, .box 1 (.t 1), none, [], []⟩,
    ⟨some 4, .move (.c (.sl (.int .i64)) []), none, [], []⟩]) (tree_In.c0)⟩
def tree_Room.c2 : Cd := .tidy [6, 7, 8, 9, 10, 11, 12, 13, 14, 15] [] [] none
def tree_Room.c4 : Cd := .tidy [16, 17, 18, 19, 20, 21, 22, 23, 24] [] [] none
def tree_Room.c3 : Cd := .ret
def tree_Room.c1 : Cd := .seq (.seq (.reg true [⟨some 16, .fieldAddr (.d tPlace) 0 (.t 3), none, [1], []⟩,
    ⟨some 17, .load (.d (.int .i64)) (.t 16), none, [1], []⟩,
    ⟨some 18, .index (.arr 3 (.int .i64)) (.t 5) (.t 17), none, [2], []⟩,
    ⟨some 19, .load (.d (.int .i64)) (.t 18), none, [2], []⟩,
    ⟨some 20, .load (.d tWorld) (.t 2), none, [0], []⟩,
    ⟨some 21, .load (.d tPlace) (.t 3), none, [1], []⟩,
    ⟨some 22, .call (.f 48) [(.t 20), (.t 21)] [.d (.sl (.int .i64))] [] false, none, [], []⟩,
    ⟨some 23, .len (.t 22), none, [], []⟩,
    ⟨some 24, .bin .sub (.t 19) (.t 23), none, [], []⟩,
    ⟨some 4, .move (.t 24), none, [], []⟩]) (tree_Room.c4)) (tree_Room.c3)
def tree_Room.c0 : Cd := .seq (.seq (.reg false [⟨some 6, .fieldAddr (.d tWorld) 0 (.t 2), none, [], []⟩,
    ⟨some 7, .fieldAddr (.d tDesc) 5 (.t 6), none, [], []⟩,
    ⟨some 8, .load (.d (.int .i64)) (.t 7), none, [], []⟩,
    ⟨some 9, .fieldAddr (.d tWorld) 0 (.t 2), none, [], []⟩,
    ⟨some 10, .fieldAddr (.d tDesc) 6 (.t 9), none, [], []⟩,
    ⟨some 11, .load (.d (.int .i64)) (.t 10), none, [], []⟩,
    ⟨some 12, .fieldAddr (.d tWorld) 0 (.t 2), none, [], []⟩,
    ⟨some 13, .fieldAddr (.d tDesc) 7 (.t 12), none, [], []⟩,
    ⟨some 14, .load (.d (.int .i64)) (.t 13), none, [], []⟩,
    ⟨some 15, .build (.arr 3 (.int .i64)) [(0, (.t 8)), (1, (.t 11)), (2, (.t 14))] [], none, [], []⟩,
    ⟨some 5, .newbox 2 (.arr 3 (.int .i64)) [], none, [], []⟩,
    ⟨none, .store (.d (.arr 3 (.int .i64))) (.t 5) (.t 15), none, [], []⟩]) (tree_Room.c2)) (tree_Room.c1)
def tree_Room.fn : Fn := ⟨2, [.tmp 4], .seq (.reg false [⟨some 2, .box 0 (.t 0), none, [], []⟩,
    ⟨some 3, .box 1 (.t 1), none, [], []⟩,
    ⟨some 4, .move (.c (.int .i64) (0 : Int)), none, [], []⟩]) (tree_Room.c0)⟩
def desc_Copy.c2 : Cd := .tidy [3, 4, 5, 6, 7, 8, 9, 10, 11, 12, 13, 14] [] [] none
def desc_Copy.c4 : Cd := .tidy [15] [] [] none
def desc_Copy.c3 : Cd := .ret
def desc_Copy.c1 : Cd := .seq (.seq (.reg false [⟨some 15, .load (.d tWorld) (.t 1), none, [], []⟩,
    ⟨none, .store (.d tWorld) (.t 2) (.t 15), none, [], []⟩]) (desc_Copy.c4)) (desc_Copy.c3)
def desc_Copy.c0 : Cd := .seq (.seq (.reg true [⟨some 3, .fieldAddr (.d tWorld) 1 (.t 1), none, [0], []⟩,
    ⟨some 4, .load (.d (.sl (.int .i64))) (.t 3), none, [0], []⟩,
    ⟨some 5, .call (.f 52) [(.t 4)] [.d (.sl (.int .i64))] [((0, []), 2)] false, none, [], [2]⟩,
    ⟨some 6, .fieldAddr (.d tWorld) 2 (.t 1), none, [0], []⟩,
    ⟨some 7, .load (.d (.sl (.int .i64))) (.t 6), none, [0], []⟩,
    ⟨some 8, .call (.f 52) [(.t 7)] [.d (.sl (.int .i64))] [((0, []), 3)] false, none, [], [3]⟩,
    ⟨some 9, .fieldAddr (.d tWorld) 3 (.t 1), none, [0], []⟩,
    ⟨some 10, .load (.d (.sl tPlace)) (.t 9), none, [0], []⟩,
    ⟨some 11, .call (.f 53) [(.t 10)] [.d (.sl tPlace)] [((0, []), 4)] false, none, [], [4]⟩,
    ⟨some 12, .fieldAddr (.d tWorld) 1 (.t 1), none, [0], []⟩,
    ⟨none, .store (.d (.sl (.int .i64))) (.t 12) (.t 5), none, [], [0]⟩,
    ⟨some 13, .fieldAddr (.d tWorld) 2 (.t 1), none, [0], []⟩,
    ⟨none, .store (.d (.sl (.int .i64))) (.t 13) (.t 8), none, [], [0]⟩,
    ⟨some 14, .fieldAddr (.d tWorld) 3 (.t 1), none, [0], []⟩,
    ⟨none, .store (.d (.sl tPlace)) (.t 14) (.t 11), none, [], [0]⟩]) (desc_Copy.c2)) (desc_Copy.c1)
def desc_Copy.fn : Fn := ⟨1, [.cell 2 (.d tWorld)], .seq (.reg false [⟨some 1, .box 0 (.t 0), none, [], []⟩,
    ⟨some 2, .newbox 1 tWorld [], none, [], []⟩]) (desc_Copy.c0)⟩
def hold_To.c2 : Cd := .tidy [8, 9] [] [] none
def hold_To.c4 : Cd := .tidy [10, 11, 12, 13, 14] [] [] none
def hold_To.c6 : Cd := .tidy [15] [] [] none
def hold_To.c5 : Cd := .ret
def hold_To.c3 : Cd := .seq (.seq (.reg false [⟨some 15, .load (.d tWorld) (.t 7), none, [], []⟩,
    ⟨none, .store (.d tWorld) (.t 6) (.t 15), none, [], []⟩]) (hold_To.c6)) (hold_To.c5)
def hold_To.c1 : Cd := .seq (.seq (.reg false [⟨some 10, .fieldAddr (.d tWorld) 3 (.t 7), none, [], []⟩,
    ⟨some 11, .load (.d (.sl tPlace)) (.t 10), none, [], []⟩,
    ⟨some 12, .move (.t 1), none, [], []⟩,
    ⟨some 13, .load (.d tPlace) (.t 5), none, [], []⟩,
    ⟨some 14, .index (.sl tPlace) (.t 11) (.t 12), none, [], []⟩,
    ⟨none, .store (.d tPlace) (.t 14) (.t 13), none, [], []⟩]) (hold_To.c4)) (hold_To.c3)
def hold_To.c0 : Cd := .seq (.seq (.reg false [⟨some 8, .load (.d tWorld) (.t 3), none, [], []⟩,
    ⟨some 9, .call (.f 40) [(.t 8)] [.d tWorld] [((0, [3]), 4)] false, none, [], []⟩,
    ⟨some 7, .newbox 3 tWorld [], none, [], []⟩,
    ⟨none, .store (.d tWorld) (.t 7) (.t 9), none, [], []⟩]) (hold_To.c2)) (hold_To.c1)
def hold_To.fn : Fn := ⟨3, [.cell 6 (.d tWorld)], .seq (.reg false [⟨some 3, .box 0 (.t 0), none, [], []⟩,
    ⟨some 5, .box 1 (.t 2), none, [], []⟩,
    ⟨some 6, .newbox 2 tWorld [], none, [], []⟩]) (hold_To.c0)⟩
def gifts_Give.c3 : Cd := .tidy [11, 12, 13, 14, 15, 16, 17, 18, 19, 20] [] [] none
def gifts_Give.c6 : Cd := .tidy [21] [] [] none
def gifts_Give.c5 : Cd := .ret
def gifts_Give.c4 : Cd := .seq (.seq (.reg false [⟨some 21, .load (.d tWorld) (.t 4), none, [], []⟩,
    ⟨none, .store (.d tWorld) (.t 8) (.t 21), none, [], []⟩,
    ⟨some 9, .move (.c (.int .i64) (3 : Int)), none, [], []⟩]) (gifts_Give.c6)) (gifts_Give.c5)
def gifts_Give.c9 : Cd := .tidy [23, 24, 25] [] [] none
def gifts_Give.c12 : Cd := .tidy [26] [] [] none
def gifts_Give.c11 : Cd := .ret
def gifts_Give.c10 : Cd := .seq (.seq (.reg false [⟨some 26, .load (.d tWorld) (.t 4), none, [], []⟩,
    ⟨none, .store (.d tWorld) (.t 8) (.t 26), none, [], []⟩,
    ⟨some 9, .move (.c (.int .i64) (12 : Int)), none, [], []⟩]) (gifts_Give.c12)) (gifts_Give.c11)
def gifts_Give.c15 : Cd := .tidy [28, 29, 30, 31, 32, 33, 34, 35, 36, 37, 38, 39, 40, 41, 42, 43, 44, 45, 46, 47, 48] [] [] none
def gifts_Give.c18 : Cd := .tidy [49] [] [] none
def gifts_Give.c17 : Cd := .ret
def gifts_Give.c16 : Cd := .seq (.seq (.reg false [⟨some 49, .load (.d tWorld) (.t 4), none, [], []⟩,
    ⟨none, .store (.d tWorld) (.t 8) (.t 49), none, [], []⟩,
    ⟨some 9, .move (.c (.int .i64) (5 : Int)), none, [], []⟩]) (gifts_Give.c18)) (gifts_Give.c17)
def gifts_Give.c21 : Cd := .tidy [51, 52, 53, 54, 55] [] [] none
def gifts_Give.c24 : Cd := .tidy [56] [] [] none
def gifts_Give.c23 : Cd := .ret
def gifts_Give.c22 : Cd := .seq (.seq (.reg false [⟨some 56, .load (.d tWorld) (.t 4), none, [], []⟩,
    ⟨none, .store (.d tWorld) (.t 8) (.t 56), none, [], []⟩,
    ⟨some 9, .move (.c (.int .i64) (9 : Int)), none, [], []⟩]) (gifts_Give.c24)) (gifts_Give.c23)
def gifts_Give.c25 : Cd := .skip
def gifts_Give.c20 : Cd := .cond (.t 50) (.seq (.tidy [50] [] [] none) (gifts_Give.c22)) (.seq (.tidy [50] [] [] none) (gifts_Give.c25))
def gifts_Give.c19 : Cd := .seq (.seq (.reg true [⟨some 51, .load (.d tWorld) (.t 4), none, [0], []⟩,
    ⟨some 52, .move (.t 3), none, [], []⟩,
    ⟨some 53, .call (.f 28) [(.t 52)] [.d tPlace] [] false, none, [], []⟩,
    ⟨some 54, .call (.f 29) [(.t 51), (.t 53)] [.d (.int .i64)] [] false, none, [], []⟩,
    ⟨some 55, .bin .lss (.t 54) (.c (.int .i64) (1 : Int)), none, [], []⟩,
    ⟨some 50, .move (.t 55), none, [], []⟩]) (gifts_Give.c21)) (gifts_Give.c20)
def gifts_Give.c14 : Cd := .cond (.t 27) (.seq (.tidy [27] [] [] none) (gifts_Give.c16)) (.seq (.tidy [27] [] [] none) (gifts_Give.c19))
def gifts_Give.c13 : Cd := .seq (.seq (.reg true [⟨some 28, .fieldAddr (.d tWorld) 1 (.t 4), none, [0], []⟩,
    ⟨some 29, .load (.d (.sl (.int .i64))) (.t 28), none, [0], []⟩,
    ⟨some 30, .move (.t 3), none, [], []⟩,
    ⟨some 31, .index (.sl (.int .i64)) (.t 29) (.t 30), none, [], []⟩,
    ⟨some 32, .load (.d (.int .i64)) (.t 31), none, [], []⟩,
    ⟨some 33, .fieldAddr (.d tWorld) 1 (.t 4), none, [0], []⟩,
    ⟨some 34, .load (.d (.sl (.int .i64))) (.t 33), none, [0], []⟩,
    ⟨some 35, .move (.t 1), none, [], []⟩,
    ⟨some 36, .index (.sl (.int .i64)) (.t 34) (.t 35), none, [], []⟩,
    ⟨some 37, .load (.d (.int .i64)) (.t 36), none, [], []⟩,
    ⟨some 38, .bin .neq (.t 32) (.t 37), none, [], []⟩,
    ⟨some 39, .move (.t 38), none, [], []⟩,
    ⟨some 40, .fieldAddr (.d tWorld) 3 (.t 4), some (39, false), [0], []⟩,
    ⟨some 41, .load (.d (.sl tPlace)) (.t 40), some (39, false), [0], []⟩,
    ⟨some 42, .move (.t 2), some (39, false), [], []⟩,
    ⟨some 43, .index (.sl tPlace) (.t 41) (.t 42), some (39, false), [], []⟩,
    ⟨some 44, .load (.d tPlace) (.t 43), some (39, false), [], []⟩,
    ⟨some 45, .move (.t 1), some (39, false), [], []⟩,
    ⟨some 46, .call (.f 28) [(.t 45)] [.d tPlace] [] false, some (39, false), [], []⟩,
    ⟨some 47, .eqs tPlace true (.t 44) (.t 46), some (39, false), [], []⟩,
    ⟨some 48, .pick (.t 39) (.c .bool true) (.t 47), none, [], []⟩,
    ⟨some 27, .move (.t 48), none, [], []⟩]) (gifts_Give.c15)) (gifts_Give.c14)
def gifts_Give.c8 : Cd := .cond (.t 22) (.seq (.tidy [22] [] [] none) (gifts_Give.c10)) (.seq (.tidy [22] [] [] none) (gifts_Give.c13))
def gifts_Give.c7 : Cd := .seq (.seq (.reg false [⟨some 23, .move (.t 3), none, [], []⟩,
    ⟨some 24, .move (.t 1), none, [], []⟩,
    ⟨some 25, .bin .eql (.t 23) (.t 24), none, [], []⟩,
    ⟨some 22, .move (.t 25), none, [], []⟩]) (gifts_Give.c9)) (gifts_Give.c8)
def gifts_Give.c2 : Cd := .cond (.t 10) (.seq (.tidy [10] [] [] none) (gifts_Give.c4)) (.seq (.tidy [10] [] [] none) (gifts_Give.c7))
def gifts_Give.c27 : Cd := .tidy [57, 58, 59, 60, 61] [] [] none
def gifts_Give.c26 : Cd := .ret
def gifts_Give.c1 : Cd := .seq (.seq (.reg true [⟨some 57, .load (.d tWorld) (.t 4), none, [0], []⟩,
    ⟨some 58, .move (.t 2), none, [], []⟩,
    ⟨some 59, .move (.t 3), none, [], []⟩,
    ⟨some 60, .call (.f 28) [(.t 59)] [.d tPlace] [] false, none, [], []⟩,
    ⟨some 61, .call (.f 30) [(.t 57), (.t 58), (.t 60)] [.d tWorld] [] false, none, [], []⟩,
    ⟨none, .store (.d tWorld) (.t 8) (.t 61), none, [], [1]⟩,
    ⟨some 9, .move (.c (.int .i64) (0 : Int)), none, [], []⟩]) (gifts_Give.c27)) (gifts_Give.c26)
def gifts_Give.c0 : Cd := .seq (.block 0 (.seq (.seq (.reg false [⟨some 11, .load (.d tWorld) (.t 4), none, [], []⟩,
    ⟨some 12, .move (.t 2), none, [], []⟩,
    ⟨some 13, .call (.f 26) [(.t 11), (.t 12)] [.d .bool] [] false, none, [], []⟩,
    ⟨some 14, .not (.t 13), none, [], []⟩,
    ⟨some 15, .move (.t 14), none, [], []⟩,
    ⟨some 16, .load (.d tWorld) (.t 4), some (15, false), [], []⟩,
    ⟨some 17, .move (.t 3), some (15, false), [], []⟩,
    ⟨some 18, .call (.f 27) [(.t 16), (.t 17)] [.d .bool] [] false, some (15, false), [], []⟩,
    ⟨some 19, .not (.t 18), some (15, false), [], []⟩,
    ⟨some 20, .pick (.t 15) (.c .bool true) (.t 19), none, [], []⟩,
    ⟨some 10, .move (.t 20), none, [], []⟩]) (gifts_Give.c3)) (gifts_Give.c2))) (gifts_Give.c1)
def gifts_Give.fn : Fn := ⟨4, [.cell 8 (.d tWorld), .tmp 9], .seq (.reg false [⟨some 4, .box 0 (.t 0), none, [], []⟩,
    ⟨some 8, .newbox 1 tWorld [], none, [], []⟩,
    ⟨some 9, .move (.c (.int .i64) (0 : Int)), none, [], []⟩]) (gifts_Give.c0)⟩
def gifts_Trade_2.c2 : Cd := .tidy [4, 5, 6, 7] [] [] none
def gifts_Trade_2.c1 : Cd := .ret
def gifts_Trade_2.c0 : Cd := .seq (.seq (.reg false [⟨some 4, .load (.d tWorld) (.t 1), none, [], []⟩,
    ⟨some 5, .move (.t 0), none, [], []⟩,
    ⟨some 6, .call (.f 26) [(.t 4), (.t 5)] [.d .bool] [] false, none, [], []⟩,
    ⟨some 7, .not (.t 6), none, [], []⟩,
    ⟨some 3, .move (.t 7), none, [], []⟩]) (gifts_Trade_2.c2)) (gifts_Trade_2.c1)
def gifts_Trade_2.fn : Fn := ⟨2, [.tmp 3], .seq (.reg false [⟨some 3, .move (.c .bool false), none, [], []⟩]) (gifts_Trade_2.c0)⟩
def slices_IndexFunc_sint_int.c3 : Cd := .tidy [6] [] [] none
def slices_IndexFunc_sint_int.c8 : Cd := .skip
def slices_IndexFunc_sint_int.c19 : Cd := .exit 0
def slices_IndexFunc_sint_int.c11 : Cd := .tidy [10] [] [] none
def slices_IndexFunc_sint_int.c13 : Cd := .tidy [11, 12, 13, 14, 15] [] [] none
def slices_IndexFunc_sint_int.c16 : Cd := .tidy [17] [] [] none
def slices_IndexFunc_sint_int.c15 : Cd := .ret
def slices_IndexFunc_sint_int.c14 : Cd := .seq (.seq (.reg false [⟨some 17, .move (.t 5), none, [], []⟩,
    ⟨some 4, .move (.t 17), none, [], []⟩]) (slices_IndexFunc_sint_int.c16)) (slices_IndexFunc_sint_int.c15)
def slices_IndexFunc_sint_int.c17 : Cd := .skip
def slices_IndexFunc_sint_int.c12 : Cd := .cond (.t 16) (.seq (.tidy [16] [] [] none) (slices_IndexFunc_sint_int.c14)) (.seq (.tidy [16] [] [] none) (slices_IndexFunc_sint_int.c17))
def slices_IndexFunc_sint_int.c10 : Cd := .seq (.seq (.reg false [⟨some 11, .move (.t 1), none, [], []⟩,
    ⟨some 12, .move (.t 0), none, [], []⟩,
    ⟨some 13, .move (.t 5), none, [], []⟩,
    ⟨some 14, .index (.sl (.int .i64)) (.t 12) (.t 13), none, [], []⟩,
    ⟨some 15, .load (.d (.int .i64)) (.t 14), none, [], []⟩,
    ⟨some 16, .call (.t 11) [(.t 15)] [.d .bool] [] false, none, [], []⟩]) (slices_IndexFunc_sint_int.c13)) (slices_IndexFunc_sint_int.c12)
def slices_IndexFunc_sint_int.c18 : Cd := .tidy [18] [] [] none
def slices_IndexFunc_sint_int.c9 : Cd := .seq (.reg false [⟨some 18, .bin .add (.t 8) (.c (.int .i64) (1 : Int)), none, [], []⟩,
    ⟨some 8, .move (.t 18), none, [], []⟩]) (slices_IndexFunc_sint_int.c18)
def slices_IndexFunc_sint_int.c7 : Cd := .seq (.block 1 (.seq (.seq (.reg false [⟨some 10, .move (.t 8), none, [], []⟩,
    ⟨some 5, .move (.t 10), none, [], []⟩]) (slices_IndexFunc_sint_int.c11)) (slices_IndexFunc_sint_int.c10))) (slices_IndexFunc_sint_int.c9)
def slices_IndexFunc_sint_int.c6 : Cd := .seq (.cond (.t 9) (.seq (.tidy [9] [] [] none) (slices_IndexFunc_sint_int.c8)) (.seq (.tidy [9] [] [] none) (slices_IndexFunc_sint_int.c19))) (slices_IndexFunc_sint_int.c7)
def slices_IndexFunc_sint_int.c5 : Cd := .tidy [5] [] [] (some 0)
def slices_IndexFunc_sint_int.c4 : Cd := .seq (.seq (.reg false [⟨some 9, .bin .lss (.t 8) (.t 7), none, [], []⟩]) (slices_IndexFunc_sint_int.c6)) (slices_IndexFunc_sint_int.c5)
def slices_IndexFunc_sint_int.c2 : Cd := .block 0 (.loop (slices_IndexFunc_sint_int.c4))
def slices_IndexFunc_sint_int.c20 : Cd := .ret
def slices_IndexFunc_sint_int.c1 : Cd := .seq (.reg false [⟨some 4, .move (.c (.int .i64) ((-1) : Int)), none, [], []⟩]) (slices_IndexFunc_sint_int.c20)
def slices_IndexFunc_sint_int.c0 : Cd := .seq (.seq (.seq (.reg false [⟨some 6, .move (.t 0), none, [], []⟩,
    ⟨some 7, .len (.t 6), none, [], []⟩,
    ⟨some 8, .move (.c (.int .i64) (0 : Int)), none, [], []⟩]) (slices_IndexFunc_sint_int.c3)) (slices_IndexFunc_sint_int.c2)) (slices_IndexFunc_sint_int.c1)
def slices_IndexFunc_sint_int.fn : Fn := ⟨2, [.tmp 4], .seq (.reg false [⟨some 4, .move (.c (.int .i64) (0 : Int)), none, [], []⟩]) (slices_IndexFunc_sint_int.c0)⟩
def slices_ContainsFunc_sint_int.c2 : Cd := .tidy [5, 6, 7, 8] [] [] none
def slices_ContainsFunc_sint_int.c1 : Cd := .ret
def slices_ContainsFunc_sint_int.c0 : Cd := .seq (.seq (.reg false [⟨some 5, .move (.t 0), none, [], []⟩,
    ⟨some 6, .move (.t 1), none, [], []⟩,
    ⟨some 7, .call (.f 50) [(.t 5), (.t 6)] [.d (.int .i64)] [] false, none, [], []⟩,
    ⟨some 8, .bin .geq (.t 7) (.c (.int .i64) (0 : Int)), none, [], []⟩,
    ⟨some 4, .move (.t 8), none, [], []⟩]) (slices_ContainsFunc_sint_int.c2)) (slices_ContainsFunc_sint_int.c1)
def slices_ContainsFunc_sint_int.fn : Fn := ⟨2, [.tmp 4], .seq (.reg false [⟨some 4, .move (.c .bool false), none, [], []⟩]) (slices_ContainsFunc_sint_int.c0)⟩
def gifts_twice.c2 : Cd := .tidy [6] [] [] none
def gifts_twice.c9 : Cd := .skip
def gifts_twice.c21 : Cd := .exit 0
def gifts_twice.c12 : Cd := .tidy [11, 12] [] [] none
def gifts_twice.c15 : Cd := .tidy [13, 14] [] [] none
def gifts_twice.c17 : Cd := .ret
def gifts_twice.c16 : Cd := .seq (.reg false [⟨some 2, .move (.c .bool true), none, [], []⟩]) (gifts_twice.c17)
def gifts_twice.c18 : Cd := .skip
def gifts_twice.c14 : Cd := .cond (.t 15) (.seq (.tidy [15] [] [] none) (gifts_twice.c16)) (.seq (.tidy [15] [] [] none) (gifts_twice.c18))
def gifts_twice.c19 : Cd := .tidy [16, 17] [] [] none
def gifts_twice.c13 : Cd := .seq (.reg false [⟨some 16, .move (.t 3), none, [], []⟩,
    ⟨some 17, .move (.t 5), none, [], []⟩,
    ⟨none, .mapset (.int .i64) .bool (.t 16) (.t 17) (.c .bool true), none, [], []⟩]) (gifts_twice.c19)
def gifts_twice.c11 : Cd := .seq (.seq (.seq (.reg false [⟨some 13, .move (.t 3), none, [], []⟩,
    ⟨some 14, .move (.t 5), none, [], []⟩,
    ⟨some 15, .lookup (.int .i64) .bool (.t 13) (.t 14), none, [], []⟩]) (gifts_twice.c15)) (gifts_twice.c14)) (gifts_twice.c13)
def gifts_twice.c20 : Cd := .tidy [18] [] [] none
def gifts_twice.c10 : Cd := .seq (.reg false [⟨some 18, .bin .add (.t 9) (.c (.int .i64) (1 : Int)), none, [], []⟩,
    ⟨some 9, .move (.t 18), none, [], []⟩]) (gifts_twice.c20)
def gifts_twice.c8 : Cd := .seq (.block 1 (.seq (.seq (.reg false [⟨some 11, .index (.sl (.int .i64)) (.t 7) (.t 9), none, [], []⟩,
    ⟨some 12, .load (.d (.int .i64)) (.t 11), none, [], []⟩,
    ⟨some 5, .move (.t 12), none, [], []⟩]) (gifts_twice.c12)) (gifts_twice.c11))) (gifts_twice.c10)
def gifts_twice.c7 : Cd := .seq (.cond (.t 10) (.seq (.tidy [10] [] [] none) (gifts_twice.c9)) (.seq (.tidy [10] [] [] none) (gifts_twice.c21))) (gifts_twice.c8)
def gifts_twice.c6 : Cd := .tidy [5] [] [] (some 1)
def gifts_twice.c5 : Cd := .seq (.seq (.reg false [⟨some 10, .bin .lss (.t 9) (.t 8), none, [], []⟩]) (gifts_twice.c7)) (gifts_twice.c6)
def gifts_twice.c4 : Cd := .block 0 (.loop (gifts_twice.c5))
def gifts_twice.c22 : Cd := .ret
def gifts_twice.c3 : Cd := .seq (.reg false [⟨some 2, .move (.c .bool false), none, [], []⟩]) (gifts_twice.c22)
def gifts_twice.c1 : Cd := .seq (.seq (.reg false [⟨some 7, .move (.t 0), none, [], []⟩,
    ⟨some 8, .len (.t 7), none, [], []⟩,
    ⟨some 9, .move (.c (.int .i64) (0 : Int)), none, [], []⟩]) (gifts_twice.c4)) (gifts_twice.c3)
def gifts_twice.c0 : Cd := .seq (.seq (.reg false [⟨some 6, .mkmap 0 (.int .i64) .bool, none, [], []⟩,
    ⟨some 3, .move (.t 6), none, [], []⟩]) (gifts_twice.c2)) (gifts_twice.c1)
def gifts_twice.fn : Fn := ⟨1, [.tmp 2], .seq (.reg false [⟨some 2, .move (.c .bool false), none, [], []⟩]) (gifts_twice.c0)⟩
def gifts_Trade_1_1.c2 : Cd := .tidy [5, 6, 7, 8, 9, 10, 11, 12] [] [] none
def gifts_Trade_1_1.c1 : Cd := .ret
def gifts_Trade_1_1.c0 : Cd := .seq (.seq (.reg true [⟨some 5, .fieldAddr (.d tWorld) 3 (.t 1), none, [], []⟩,
    ⟨some 6, .load (.d (.sl tPlace)) (.t 5), none, [], []⟩,
    ⟨some 7, .move (.t 0), none, [], []⟩,
    ⟨some 8, .index (.sl tPlace) (.t 6) (.t 7), none, [], []⟩,
    ⟨some 9, .load (.d tPlace) (.t 8), none, [], []⟩,
    ⟨some 10, .load (.d (.int .i64)) (.t 2), none, [], []⟩,
    ⟨some 11, .call (.f 28) [(.t 10)] [.d tPlace] [] false, none, [], []⟩,
    ⟨some 12, .eqs tPlace true (.t 9) (.t 11), none, [], []⟩,
    ⟨some 4, .move (.t 12), none, [], []⟩]) (gifts_Trade_1_1.c2)) (gifts_Trade_1_1.c1)
def gifts_Trade_1_1.fn : Fn := ⟨3, [.tmp 4], .seq (.reg false [⟨some 4, .move (.c .bool false), none, [], []⟩]) (gifts_Trade_1_1.c0)⟩
def gifts_Trade_1.c2 : Cd := .tidy [6, 7, 8] [] [] none
def gifts_Trade_1.c1 : Cd := .ret
def gifts_Trade_1.c0 : Cd := .seq (.seq (.reg false [⟨some 6, .move (.t 0), none, [], []⟩,
    ⟨some 7, .func 36 [(.t 2), (.t 4)], none, [], []⟩,
    ⟨some 8, .call (.f 35) [(.t 6), (.t 7)] [.d .bool] [] false, none, [], []⟩,
    ⟨some 5, .move (.t 8), none, [], []⟩]) (gifts_Trade_1.c2)) (gifts_Trade_1.c1)
def gifts_Trade_1.fn : Fn := ⟨3, [.tmp 5], .seq (.reg false [⟨some 4, .box 0 (.t 1), none, [], []⟩,
    ⟨some 5, .move (.c .bool false), none, [], []⟩]) (gifts_Trade_1.c0)⟩
def coin_Is.c2 : Cd := .tidy [3, 4, 5, 6, 7, 8] [] [] none
def coin_Is.c1 : Cd := .ret
def coin_Is.c0 : Cd := .seq (.seq (.reg false [⟨some 3, .move (.t 0), none, [], []⟩,
    ⟨some 4, .bin .geq (.t 3) (.c (.int .i64) (0 : Int)), none, [], []⟩,
    ⟨some 5, .move (.t 4), none, [], []⟩,
    ⟨some 6, .move (.t 0), some (5, true), [], []⟩,
    ⟨some 7, .bin .leq (.t 6) (.c (.int .i64) (1073741824 : Int)), some (5, true), [], []⟩,
    ⟨some 8, .pick (.t 5) (.t 7) (.c .bool false), none, [], []⟩,
    ⟨some 2, .move (.t 8), none, [], []⟩]) (coin_Is.c2)) (coin_Is.c1)
def coin_Is.fn : Fn := ⟨1, [.tmp 2], .seq (.reg false [⟨some 2, .move (.c .bool false), none, [], []⟩]) (coin_Is.c0)⟩
def coin_Swap.c3 : Cd := .tidy [12, 13, 14, 15, 16, 17] [] [] none
def coin_Swap.c6 : Cd := .tidy [18, 19] [] [] none
def coin_Swap.c5 : Cd := .ret
def coin_Swap.c4 : Cd := .seq (.seq (.reg false [⟨some 18, .move (.t 0), none, [], []⟩,
    ⟨some 19, .move (.t 1), none, [], []⟩,
    ⟨some 8, .move (.t 18), none, [], []⟩,
    ⟨some 9, .move (.t 19), none, [], []⟩,
    ⟨some 10, .move (.c (.int .i64) (1 : Int)), none, [], []⟩]) (coin_Swap.c6)) (coin_Swap.c5)
def coin_Swap.c9 : Cd := .tidy [21, 22, 23, 24, 25, 26, 27, 28] [] [] none
def coin_Swap.c12 : Cd := .tidy [29, 30] [] [] none
def coin_Swap.c11 : Cd := .ret
def coin_Swap.c10 : Cd := .seq (.seq (.reg false [⟨some 29, .move (.t 0), none, [], []⟩,
    ⟨some 30, .move (.t 1), none, [], []⟩,
    ⟨some 8, .move (.t 29), none, [], []⟩,
    ⟨some 9, .move (.t 30), none, [], []⟩,
    ⟨some 10, .move (.c (.int .i64) (10 : Int)), none, [], []⟩]) (coin_Swap.c12)) (coin_Swap.c11)
def coin_Swap.c15 : Cd := .tidy [32, 33, 34, 35, 36, 37, 38, 39, 40, 41, 42, 43, 44, 45, 46, 47] [] [] none
def coin_Swap.c18 : Cd := .tidy [48, 49] [] [] none
def coin_Swap.c17 : Cd := .ret
def coin_Swap.c16 : Cd := .seq (.seq (.reg false [⟨some 48, .move (.t 0), none, [], []⟩,
    ⟨some 49, .move (.t 1), none, [], []⟩,
    ⟨some 8, .move (.t 48), none, [], []⟩,
    ⟨some 9, .move (.t 49), none, [], []⟩,
    ⟨some 10, .move (.c (.int .i64) (11 : Int)), none, [], []⟩]) (coin_Swap.c18)) (coin_Swap.c17)
def coin_Swap.c19 : Cd := .skip
def coin_Swap.c14 : Cd := .cond (.t 31) (.seq (.tidy [31] [] [] none) (coin_Swap.c16)) (.seq (.tidy [31] [] [] none) (coin_Swap.c19))
def coin_Swap.c13 : Cd := .seq (.seq (.reg false [⟨some 32, .move (.t 0), none, [], []⟩,
    ⟨some 33, .move (.t 2), none, [], []⟩,
    ⟨some 34, .bin .sub (.t 32) (.t 33), none, [], []⟩,
    ⟨some 35, .move (.t 3), none, [], []⟩,
    ⟨some 36, .bin .add (.t 34) (.t 35), none, [], []⟩,
    ⟨some 37, .call (.f 51) [(.t 36)] [.d .bool] [] false, none, [], []⟩,
    ⟨some 38, .not (.t 37), none, [], []⟩,
    ⟨some 39, .move (.t 38), none, [], []⟩,
    ⟨some 40, .move (.t 1), some (39, false), [], []⟩,
    ⟨some 41, .move (.t 3), some (39, false), [], []⟩,
    ⟨some 42, .bin .sub (.t 40) (.t 41), some (39, false), [], []⟩,
    ⟨some 43, .move (.t 2), some (39, false), [], []⟩,
    ⟨some 44, .bin .add (.t 42) (.t 43), some (39, false), [], []⟩,
    ⟨some 45, .call (.f 51) [(.t 44)] [.d .bool] [] false, some (39, false), [], []⟩,
    ⟨some 46, .not (.t 45), some (39, false), [], []⟩,
    ⟨some 47, .pick (.t 39) (.c .bool true) (.t 46), none, [], []⟩,
    ⟨some 31, .move (.t 47), none, [], []⟩]) (coin_Swap.c15)) (coin_Swap.c14)
def coin_Swap.c8 : Cd := .cond (.t 20) (.seq (.tidy [20] [] [] none) (coin_Swap.c10)) (.seq (.tidy [20] [] [] none) (coin_Swap.c13))
def coin_Swap.c7 : Cd := .seq (.seq (.reg false [⟨some 21, .move (.t 2), none, [], []⟩,
    ⟨some 22, .move (.t 0), none, [], []⟩,
    ⟨some 23, .bin .gtr (.t 21) (.t 22), none, [], []⟩,
    ⟨some 24, .move (.t 23), none, [], []⟩,
    ⟨some 25, .move (.t 3), some (24, false), [], []⟩,
    ⟨some 26, .move (.t 1), some (24, false), [], []⟩,
    ⟨some 27, .bin .gtr (.t 25) (.t 26), some (24, false), [], []⟩,
    ⟨some 28, .pick (.t 24) (.c .bool true) (.t 27), none, [], []⟩,
    ⟨some 20, .move (.t 28), none, [], []⟩]) (coin_Swap.c9)) (coin_Swap.c8)
def coin_Swap.c2 : Cd := .cond (.t 11) (.seq (.tidy [11] [] [] none) (coin_Swap.c4)) (.seq (.tidy [11] [] [] none) (coin_Swap.c7))
def coin_Swap.c21 : Cd := .tidy [50, 51, 52, 53, 54, 55, 56, 57, 58, 59] [] [] none
def coin_Swap.c20 : Cd := .ret
def coin_Swap.c1 : Cd := .seq (.seq (.reg false [⟨some 50, .move (.t 0), none, [], []⟩,
    ⟨some 51, .move (.t 2), none, [], []⟩,
    ⟨some 52, .bin .sub (.t 50) (.t 51), none, [], []⟩,
    ⟨some 53, .move (.t 3), none, [], []⟩,
    ⟨some 54, .bin .add (.t 52) (.t 53), none, [], []⟩,
    ⟨some 55, .move (.t 1), none, [], []⟩,
    ⟨some 56, .move (.t 3), none, [], []⟩,
    ⟨some 57, .bin .sub (.t 55) (.t 56), none, [], []⟩,
    ⟨some 58, .move (.t 2), none, [], []⟩,
    ⟨some 59, .bin .add (.t 57) (.t 58), none, [], []⟩,
    ⟨some 8, .move (.t 54), none, [], []⟩,
    ⟨some 9, .move (.t 59), none, [], []⟩,
    ⟨some 10, .move (.c (.int .i64) (0 : Int)), none, [], []⟩]) (coin_Swap.c21)) (coin_Swap.c20)
def coin_Swap.c0 : Cd := .seq (.block 0 (.seq (.seq (.reg false [⟨some 12, .move (.t 2), none, [], []⟩,
    ⟨some 13, .bin .lss (.t 12) (.c (.int .i64) (0 : Int)), none, [], []⟩,
    ⟨some 14, .move (.t 13), none, [], []⟩,
    ⟨some 15, .move (.t 3), some (14, false), [], []⟩,
    ⟨some 16, .bin .lss (.t 15) (.c (.int .i64) (0 : Int)), some (14, false), [], []⟩,
    ⟨some 17, .pick (.t 14) (.c .bool true) (.t 16), none, [], []⟩,
    ⟨some 11, .move (.t 17), none, [], []⟩]) (coin_Swap.c3)) (coin_Swap.c2))) (coin_Swap.c1)
def coin_Swap.fn : Fn := ⟨4, [.tmp 8, .tmp 9, .tmp 10], .seq (.reg false [⟨some 8, .move (.c (.int .i64) (0 : Int)), none, [], []⟩,
    ⟨some 9, .move (.c (.int .i64) (0 : Int)), none, [], []⟩,
    ⟨some 10, .move (.c (.int .i64) (0 : Int)), none, [], []⟩]) (coin_Swap.c0)⟩
def gifts_Trade.c2 : Cd := .tidy [20, 21, 22, 23, 24, 25, 26, 27] [] [] none
def gifts_Trade.c4 : Cd := .tidy [28] [] [] none
def gifts_Trade.c7 : Cd := .tidy [30, 31, 32, 33, 34, 35, 36, 37, 38] [] [] none
def gifts_Trade.c10 : Cd := .tidy [39] [] [] none
def gifts_Trade.c9 : Cd := .ret
def gifts_Trade.c8 : Cd := .seq (.seq (.reg false [⟨some 39, .load (.d tWorld) (.t 3), none, [], []⟩,
    ⟨none, .store (.d tWorld) (.t 6) (.t 39), none, [], []⟩,
    ⟨some 7, .move (.c (.int .i64) (3 : Int)), none, [], []⟩]) (gifts_Trade.c10)) (gifts_Trade.c9)
def gifts_Trade.c13 : Cd := .tidy [41, 42, 43] [] [] none
def gifts_Trade.c16 : Cd := .tidy [44] [] [] none
def gifts_Trade.c15 : Cd := .ret
def gifts_Trade.c14 : Cd := .seq (.seq (.reg false [⟨some 44, .load (.d tWorld) (.t 3), none, [], []⟩,
    ⟨none, .store (.d tWorld) (.t 6) (.t 44), none, [], []⟩,
    ⟨some 7, .move (.c (.int .i64) (12 : Int)), none, [], []⟩]) (gifts_Trade.c16)) (gifts_Trade.c15)
def gifts_Trade.c19 : Cd := .tidy [46, 47, 48, 49, 50, 51, 52, 53, 54, 55, 56] [] [] none
def gifts_Trade.c22 : Cd := .tidy [57] [] [] none
def gifts_Trade.c21 : Cd := .ret
def gifts_Trade.c20 : Cd := .seq (.seq (.reg false [⟨some 57, .load (.d tWorld) (.t 3), none, [], []⟩,
    ⟨none, .store (.d tWorld) (.t 6) (.t 57), none, [], []⟩,
    ⟨some 7, .move (.c (.int .i64) (5 : Int)), none, [], []⟩]) (gifts_Trade.c22)) (gifts_Trade.c21)
def gifts_Trade.c25 : Cd := .tidy [59, 60] [] [] none
def gifts_Trade.c28 : Cd := .tidy [61] [] [] none
def gifts_Trade.c27 : Cd := .ret
def gifts_Trade.c26 : Cd := .seq (.seq (.reg false [⟨some 61, .load (.d tWorld) (.t 3), none, [], []⟩,
    ⟨none, .store (.d tWorld) (.t 6) (.t 61), none, [], []⟩,
    ⟨some 7, .move (.c (.int .i64) (13 : Int)), none, [], []⟩]) (gifts_Trade.c28)) (gifts_Trade.c27)
def gifts_Trade.c31 : Cd := .tidy [63, 64, 65, 66, 67, 68, 69, 70, 71, 72, 73, 74] [] [] none
def gifts_Trade.c34 : Cd := .tidy [75] [] [] none
def gifts_Trade.c33 : Cd := .ret
def gifts_Trade.c32 : Cd := .seq (.seq (.reg false [⟨some 75, .load (.d tWorld) (.t 3), none, [], []⟩,
    ⟨none, .store (.d tWorld) (.t 6) (.t 75), none, [], []⟩,
    ⟨some 7, .move (.c (.int .i64) (5 : Int)), none, [], []⟩]) (gifts_Trade.c34)) (gifts_Trade.c33)
def gifts_Trade.c35 : Cd := .skip
def gifts_Trade.c30 : Cd := .cond (.t 62) (.seq (.tidy [62] [] [] none) (gifts_Trade.c32)) (.seq (.tidy [62] [] [] none) (gifts_Trade.c35))
def gifts_Trade.c29 : Cd := .seq (.seq (.reg false [⟨some 63, .move (.t 10), none, [], []⟩,
    ⟨some 64, .fieldAddr (.d tCmd) 5 (.t 5), none, [], []⟩,
    ⟨some 65, .load (.d (.sl (.int .i64))) (.t 64), none, [], []⟩,
    ⟨some 66, .move (.t 1), none, [], []⟩,
    ⟨some 67, .call (.t 63) [(.t 65), (.t 66)] [.d .bool] [] false, none, [], []⟩,
    ⟨some 68, .move (.t 67), none, [], []⟩,
    ⟨some 69, .move (.t 10), some (68, false), [], []⟩,
    ⟨some 70, .fieldAddr (.d tCmd) 7 (.t 5), some (68, false), [], []⟩,
    ⟨some 71, .load (.d (.sl (.int .i64))) (.t 70), some (68, false), [], []⟩,
    ⟨some 72, .move (.t 8), some (68, false), [], []⟩,
    ⟨some 73, .call (.t 69) [(.t 71), (.t 72)] [.d .bool] [] false, some (68, false), [], []⟩,
    ⟨some 74, .pick (.t 68) (.c .bool true) (.t 73), none, [], []⟩,
    ⟨some 62, .move (.t 74), none, [], []⟩]) (gifts_Trade.c31)) (gifts_Trade.c30)
def gifts_Trade.c24 : Cd := .cond (.t 58) (.seq (.tidy [58] [] [] none) (gifts_Trade.c26)) (.seq (.tidy [58] [] [] none) (gifts_Trade.c29))
def gifts_Trade.c23 : Cd := .seq (.seq (.reg false [⟨some 59, .move (.t 9), none, [], []⟩,
    ⟨some 60, .call (.f 38) [(.t 59)] [.d .bool] [] false, none, [], []⟩,
    ⟨some 58, .move (.t 60), none, [], []⟩]) (gifts_Trade.c25)) (gifts_Trade.c24)
def gifts_Trade.c18 : Cd := .cond (.t 45) (.seq (.tidy [45] [] [] none) (gifts_Trade.c20)) (.seq (.tidy [45] [] [] none) (gifts_Trade.c23))
def gifts_Trade.c17 : Cd := .seq (.seq (.reg true [⟨some 46, .fieldAddr (.d tWorld) 1 (.t 3), none, [0], []⟩,
    ⟨some 47, .load (.d (.sl (.int .i64))) (.t 46), none, [0], []⟩,
    ⟨some 48, .move (.t 8), none, [], []⟩,
    ⟨some 49, .index (.sl (.int .i64)) (.t 47) (.t 48), none, [], []⟩,
    ⟨some 50, .load (.d (.int .i64)) (.t 49), none, [], []⟩,
    ⟨some 51, .fieldAddr (.d tWorld) 1 (.t 3), none, [0], []⟩,
    ⟨some 52, .load (.d (.sl (.int .i64))) (.t 51), none, [0], []⟩,
    ⟨some 53, .move (.t 1), none, [], []⟩,
    ⟨some 54, .index (.sl (.int .i64)) (.t 52) (.t 53), none, [], []⟩,
    ⟨some 55, .load (.d (.int .i64)) (.t 54), none, [], []⟩,
    ⟨some 56, .bin .neq (.t 50) (.t 55), none, [], []⟩,
    ⟨some 45, .move (.t 56), none, [], []⟩]) (gifts_Trade.c19)) (gifts_Trade.c18)
def gifts_Trade.c12 : Cd := .cond (.t 40) (.seq (.tidy [40] [] [] none) (gifts_Trade.c14)) (.seq (.tidy [40] [] [] none) (gifts_Trade.c17))
def gifts_Trade.c11 : Cd := .seq (.seq (.reg false [⟨some 41, .move (.t 8), none, [], []⟩,
    ⟨some 42, .move (.t 1), none, [], []⟩,
    ⟨some 43, .bin .eql (.t 41) (.t 42), none, [], []⟩,
    ⟨some 40, .move (.t 43), none, [], []⟩]) (gifts_Trade.c13)) (gifts_Trade.c12)
def gifts_Trade.c6 : Cd := .cond (.t 29) (.seq (.tidy [29] [] [] none) (gifts_Trade.c8)) (.seq (.tidy [29] [] [] none) (gifts_Trade.c11))
def gifts_Trade.c37 : Cd := .tidy [76, 77, 78, 79, 80, 81, 82] [] [] none
def gifts_Trade.c40 : Cd := .tidy [83, 84, 85, 86, 87, 88, 89, 90, 91, 92, 93, 94, 95, 96] [] [] none
def gifts_Trade.c43 : Cd := .tidy [98] [] [] none
def gifts_Trade.c42 : Cd := .ret
def gifts_Trade.c41 : Cd := .seq (.seq (.reg false [⟨some 98, .load (.d tWorld) (.t 3), none, [], []⟩,
    ⟨none, .store (.d tWorld) (.t 6) (.t 98), none, [], []⟩,
    ⟨some 7, .move (.c (.int .i64) (9 : Int)), none, [], []⟩]) (gifts_Trade.c43)) (gifts_Trade.c42)
def gifts_Trade.c44 : Cd := .skip
def gifts_Trade.c39 : Cd := .cond (.t 97) (.seq (.tidy [97] [] [] none) (gifts_Trade.c41)) (.seq (.tidy [97] [] [] none) (gifts_Trade.c44))
def gifts_Trade.c46 : Cd := .tidy [99, 100, 101, 102, 103, 104, 105, 106, 107, 108, 109, 110, 111, 112, 113, 114, 115, 116, 117] [] [] none
def gifts_Trade.c49 : Cd := .tidy [118] [] [] none
def gifts_Trade.c52 : Cd := .tidy [120, 121] [] [] none
def gifts_Trade.c51 : Cd := .ret
def gifts_Trade.c50 : Cd := .seq (.seq (.reg false [⟨some 120, .load (.d tWorld) (.t 3), none, [], []⟩,
    ⟨some 121, .move (.t 14), none, [], []⟩,
    ⟨none, .store (.d tWorld) (.t 6) (.t 120), none, [], []⟩,
    ⟨some 7, .move (.t 121), none, [], []⟩]) (gifts_Trade.c52)) (gifts_Trade.c51)
def gifts_Trade.c53 : Cd := .skip
def gifts_Trade.c48 : Cd := .cond (.t 119) (.seq (.tidy [119] [] [] none) (gifts_Trade.c50)) (.seq (.tidy [119] [] [] none) (gifts_Trade.c53))
def gifts_Trade.c55 : Cd := .tidy [122, 123] [] [] none
def gifts_Trade.c57 : Cd := .tidy [124, 125, 126, 127, 128, 129, 130, 131, 132, 133] [] [] none
def gifts_Trade.c60 : Cd := .tidy [134] [] [] none
def gifts_Trade.c65 : Cd := .skip
def gifts_Trade.c71 : Cd := .exit 1
def gifts_Trade.c68 : Cd := .tidy [139, 140] [] [] none
def gifts_Trade.c69 : Cd := .tidy [141, 142, 143, 144, 145, 146] [] [] none
def gifts_Trade.c67 : Cd := .seq (.reg true [⟨some 141, .fieldAddr (.d tWorld) 3 (.t 15), none, [4], []⟩,
    ⟨some 142, .load (.d (.sl tPlace)) (.t 141), none, [4], []⟩,
    ⟨some 143, .move (.t 17), none, [], []⟩,
    ⟨some 144, .move (.t 8), none, [], []⟩,
    ⟨some 145, .call (.f 28) [(.t 144)] [.d tPlace] [] false, none, [], []⟩,
    ⟨some 146, .index (.sl tPlace) (.t 142) (.t 143), none, [6], []⟩,
    ⟨none, .store (.d tPlace) (.t 146) (.t 145), none, [], [6]⟩]) (gifts_Trade.c69)
def gifts_Trade.c70 : Cd := .tidy [147] [] [] none
def gifts_Trade.c66 : Cd := .seq (.reg false [⟨some 147, .bin .add (.t 137) (.c (.int .i64) (1 : Int)), none, [], []⟩,
    ⟨some 137, .move (.t 147), none, [], []⟩]) (gifts_Trade.c70)
def gifts_Trade.c64 : Cd := .seq (.block 2 (.seq (.seq (.reg false [⟨some 139, .index (.sl (.int .i64)) (.t 135) (.t 137), none, [], []⟩,
    ⟨some 140, .load (.d (.int .i64)) (.t 139), none, [], []⟩,
    ⟨some 17, .move (.t 140), none, [], []⟩]) (gifts_Trade.c68)) (gifts_Trade.c67))) (gifts_Trade.c66)
def gifts_Trade.c63 : Cd := .seq (.cond (.t 138) (.seq (.tidy [138] [] [] none) (gifts_Trade.c65)) (.seq (.tidy [138] [] [] none) (gifts_Trade.c71))) (gifts_Trade.c64)
def gifts_Trade.c62 : Cd := .tidy [17] [] [] (some 7)
def gifts_Trade.c61 : Cd := .seq (.seq (.reg false [⟨some 138, .bin .lss (.t 137) (.t 136), none, [], []⟩]) (gifts_Trade.c63)) (gifts_Trade.c62)
def gifts_Trade.c59 : Cd := .block 1 (.loop (gifts_Trade.c61))
def gifts_Trade.c74 : Cd := .tidy [148] [] [] none
def gifts_Trade.c79 : Cd := .skip
def gifts_Trade.c85 : Cd := .exit 3
def gifts_Trade.c82 : Cd := .tidy [153, 154] [] [] none
def gifts_Trade.c83 : Cd := .tidy [155, 156, 157, 158, 159, 160] [] [] none
def gifts_Trade.c81 : Cd := .seq (.reg true [⟨some 155, .fieldAddr (.d tWorld) 3 (.t 15), none, [4], []⟩,
    ⟨some 156, .load (.d (.sl tPlace)) (.t 155), none, [4], []⟩,
    ⟨some 157, .move (.t 19), none, [], []⟩,
    ⟨some 158, .move (.t 1), none, [], []⟩,
    ⟨some 159, .call (.f 28) [(.t 158)] [.d tPlace] [] false, none, [], []⟩,
    ⟨some 160, .index (.sl tPlace) (.t 156) (.t 157), none, [6], []⟩,
    ⟨none, .store (.d tPlace) (.t 160) (.t 159), none, [], [6]⟩]) (gifts_Trade.c83)
def gifts_Trade.c84 : Cd := .tidy [161] [] [] none
def gifts_Trade.c80 : Cd := .seq (.reg false [⟨some 161, .bin .add (.t 151) (.c (.int .i64) (1 : Int)), none, [], []⟩,
    ⟨some 151, .move (.t 161), none, [], []⟩]) (gifts_Trade.c84)
def gifts_Trade.c78 : Cd := .seq (.block 4 (.seq (.seq (.reg false [⟨some 153, .index (.sl (.int .i64)) (.t 149) (.t 151), none, [], []⟩,
    ⟨some 154, .load (.d (.int .i64)) (.t 153), none, [], []⟩,
    ⟨some 19, .move (.t 154), none, [], []⟩]) (gifts_Trade.c82)) (gifts_Trade.c81))) (gifts_Trade.c80)
def gifts_Trade.c77 : Cd := .seq (.cond (.t 152) (.seq (.tidy [152] [] [] none) (gifts_Trade.c79)) (.seq (.tidy [152] [] [] none) (gifts_Trade.c85))) (gifts_Trade.c78)
def gifts_Trade.c76 : Cd := .tidy [19] [] [] (some 7)
def gifts_Trade.c75 : Cd := .seq (.seq (.reg false [⟨some 152, .bin .lss (.t 151) (.t 150), none, [], []⟩]) (gifts_Trade.c77)) (gifts_Trade.c76)
def gifts_Trade.c73 : Cd := .block 3 (.loop (gifts_Trade.c75))
def gifts_Trade.c87 : Cd := .tidy [162] [] [] none
def gifts_Trade.c86 : Cd := .ret
def gifts_Trade.c72 : Cd := .seq (.seq (.reg false [⟨some 162, .load (.d tWorld) (.t 15), none, [], []⟩,
    ⟨none, .store (.d tWorld) (.t 6) (.t 162), none, [], []⟩,
    ⟨some 7, .move (.c (.int .i64) (0 : Int)), none, [], []⟩]) (gifts_Trade.c87)) (gifts_Trade.c86)
def gifts_Trade.c58 : Cd := .seq (.seq (.seq (.reg false [⟨some 148, .fieldAddr (.d tCmd) 7 (.t 5), none, [], []⟩,
    ⟨some 149, .load (.d (.sl (.int .i64))) (.t 148), none, [], []⟩,
    ⟨some 150, .len (.t 149), none, [], []⟩,
    ⟨some 151, .move (.c (.int .i64) (0 : Int)), none, [], []⟩]) (gifts_Trade.c74)) (gifts_Trade.c73)) (gifts_Trade.c72)
def gifts_Trade.c56 : Cd := .seq (.seq (.seq (.reg false [⟨some 134, .fieldAddr (.d tCmd) 5 (.t 5), none, [], []⟩,
    ⟨some 135, .load (.d (.sl (.int .i64))) (.t 134), none, [], []⟩,
    ⟨some 136, .len (.t 135), none, [], []⟩,
    ⟨some 137, .move (.c (.int .i64) (0 : Int)), none, [], []⟩]) (gifts_Trade.c60)) (gifts_Trade.c59)) (gifts_Trade.c58)
def gifts_Trade.c54 : Cd := .seq (.seq (.reg true [⟨some 124, .fieldAddr (.d tWorld) 2 (.t 15), none, [4], []⟩,
    ⟨some 125, .load (.d (.sl (.int .i64))) (.t 124), none, [4], []⟩,
    ⟨some 126, .move (.t 1), none, [], []⟩,
    ⟨some 127, .fieldAddr (.d tWorld) 2 (.t 15), none, [4], []⟩,
    ⟨some 128, .load (.d (.sl (.int .i64))) (.t 127), none, [4], []⟩,
    ⟨some 129, .move (.t 8), none, [], []⟩,
    ⟨some 130, .move (.t 12), none, [], []⟩,
    ⟨some 131, .move (.t 13), none, [], []⟩,
    ⟨some 132, .index (.sl (.int .i64)) (.t 125) (.t 126), none, [5], []⟩,
    ⟨none, .store (.d (.int .i64)) (.t 132) (.t 130), none, [], [5]⟩,
    ⟨some 133, .index (.sl (.int .i64)) (.t 128) (.t 129), none, [5], []⟩,
    ⟨none, .store (.d (.int .i64)) (.t 133) (.t 131), none, [], [5]⟩]) (gifts_Trade.c57)) (gifts_Trade.c56)
def gifts_Trade.c47 : Cd := .seq (.seq (.reg false [⟨some 122, .load (.d tWorld) (.t 3), none, [], []⟩,
    ⟨some 123, .call (.f 40) [(.t 122)] [.d tWorld] [((0, [2]), 5), ((0, [3]), 6)] false, none, [], []⟩,
    ⟨some 15, .newbox 4 tWorld [], none, [], []⟩,
    ⟨none, .store (.d tWorld) (.t 15) (.t 123), none, [], []⟩]) (gifts_Trade.c55)) (gifts_Trade.c54)
def gifts_Trade.c45 : Cd := .seq (.seq (.seq (.reg false [⟨some 118, .move (.t 14), none, [], []⟩,
    ⟨some 119, .bin .neq (.t 118) (.c (.int .i64) (0 : Int)), none, [], []⟩]) (gifts_Trade.c49)) (gifts_Trade.c48)) (gifts_Trade.c47)
def gifts_Trade.c38 : Cd := .seq (.seq (.reg true [⟨some 100, .fieldAddr (.d tWorld) 2 (.t 3), none, [0], []⟩,
    ⟨some 101, .load (.d (.sl (.int .i64))) (.t 100), none, [0], []⟩,
    ⟨some 102, .move (.t 1), none, [], []⟩,
    ⟨some 103, .index (.sl (.int .i64)) (.t 101) (.t 102), none, [], []⟩,
    ⟨some 104, .load (.d (.int .i64)) (.t 103), none, [], []⟩,
    ⟨some 105, .fieldAddr (.d tWorld) 2 (.t 3), none, [0], []⟩,
    ⟨some 106, .load (.d (.sl (.int .i64))) (.t 105), none, [0], []⟩,
    ⟨some 107, .move (.t 8), none, [], []⟩,
    ⟨some 108, .index (.sl (.int .i64)) (.t 106) (.t 107), none, [], []⟩,
    ⟨some 109, .load (.d (.int .i64)) (.t 108), none, [], []⟩,
    ⟨some 110, .fieldAddr (.d tCmd) 6 (.t 5), none, [1], []⟩,
    ⟨some 111, .load (.d (.int .i64)) (.t 110), none, [1], []⟩,
    ⟨some 112, .fieldAddr (.d tCmd) 8 (.t 5), none, [1], []⟩,
    ⟨some 113, .load (.d (.int .i64)) (.t 112), none, [1], []⟩,
    ⟨some 114, .call (.f 39) [(.t 104), (.t 109), (.t 111), (.t 113)] [.d (.int .i64), .d (.int .i64), .d (.int .i64)] [] false, none, [], []⟩,
    ⟨some 99, .move (.t 114), none, [], []⟩,
    ⟨some 115, .extract (.t 99) 0, none, [], []⟩,
    ⟨some 116, .extract (.t 99) 1, none, [], []⟩,
    ⟨some 117, .extract (.t 99) 2, none, [], []⟩,
    ⟨some 12, .move (.t 115), none, [], []⟩,
    ⟨some 13, .move (.t 116), none, [], []⟩,
    ⟨some 14, .move (.t 117), none, [], []⟩]) (gifts_Trade.c46)) (gifts_Trade.c45)
def gifts_Trade.c36 : Cd := .seq (.seq (.seq (.reg true [⟨some 83, .load (.d tWorld) (.t 3), none, [0], []⟩,
    ⟨some 84, .move (.t 1), none, [], []⟩,
    ⟨some 85, .call (.f 28) [(.t 84)] [.d tPlace] [] false, none, [], []⟩,
    ⟨some 86, .call (.f 29) [(.t 83), (.t 85)] [.d (.int .i64)] [] false, none, [], []⟩,
    ⟨some 87, .move (.t 11), none, [], []⟩,
    ⟨some 88, .bin .lss (.t 86) (.t 87), none, [], []⟩,
    ⟨some 89, .move (.t 88), none, [], []⟩,
    ⟨some 90, .load (.d tWorld) (.t 3), some (89, false), [0], []⟩,
    ⟨some 91, .move (.t 8), some (89, false), [], []⟩,
    ⟨some 92, .call (.f 28) [(.t 91)] [.d tPlace] [] false, some (89, false), [], []⟩,
    ⟨some 93, .call (.f 29) [(.t 90), (.t 92)] [.d (.int .i64)] [] false, some (89, false), [], []⟩,
    ⟨some 94, .move (.t 11), some (89, false), [], []⟩,
    ⟨some 95, .neg (.t 94), some (89, false), [], []⟩,
    ⟨some 96, .bin .lss (.t 93) (.t 95), some (89, false), [], []⟩,
    ⟨some 97, .pick (.t 89) (.c .bool true) (.t 96), none, [], []⟩]) (gifts_Trade.c40)) (gifts_Trade.c39)) (gifts_Trade.c38)
def gifts_Trade.c5 : Cd := .seq (.seq (.reg false [⟨some 76, .fieldAddr (.d tCmd) 7 (.t 5), none, [], []⟩,
    ⟨some 77, .load (.d (.sl (.int .i64))) (.t 76), none, [], []⟩,
    ⟨some 78, .len (.t 77), none, [], []⟩,
    ⟨some 79, .fieldAddr (.d tCmd) 5 (.t 5), none, [], []⟩,
    ⟨some 80, .load (.d (.sl (.int .i64))) (.t 79), none, [], []⟩,
    ⟨some 81, .len (.t 80), none, [], []⟩,
    ⟨some 82, .bin .sub (.t 78) (.t 81), none, [], []⟩,
    ⟨some 11, .move (.t 82), none, [], []⟩]) (gifts_Trade.c37)) (gifts_Trade.c36)
def gifts_Trade.c3 : Cd := .seq (.block 0 (.seq (.seq (.reg false [⟨some 30, .load (.d tWorld) (.t 3), none, [], []⟩,
    ⟨some 31, .move (.t 8), none, [], []⟩,
    ⟨some 32, .call (.f 27) [(.t 30), (.t 31)] [.d .bool] [] false, none, [], []⟩,
    ⟨some 33, .not (.t 32), none, [], []⟩,
    ⟨some 34, .move (.t 33), none, [], []⟩,
    ⟨some 35, .move (.t 9), some (34, false), [], []⟩,
    ⟨some 36, .func 37 [(.t 3)], some (34, false), [], []⟩,
    ⟨some 37, .call (.f 35) [(.t 35), (.t 36)] [.d .bool] [] false, some (34, false), [], []⟩,
    ⟨some 38, .pick (.t 34) (.c .bool true) (.t 37), none, [], []⟩,
    ⟨some 29, .move (.t 38), none, [], []⟩]) (gifts_Trade.c7)) (gifts_Trade.c6))) (gifts_Trade.c5)
def gifts_Trade.c1 : Cd := .seq (.seq (.reg false [⟨some 28, .func 34 [(.t 3)], none, [], []⟩,
    ⟨some 10, .move (.t 28), none, [], []⟩]) (gifts_Trade.c4)) (gifts_Trade.c3)
def gifts_Trade.c0 : Cd := .seq (.seq (.reg true [⟨some 20, .fieldAddr (.d tCmd) 4 (.t 5), none, [1], []⟩,
    ⟨some 21, .load (.d (.int .i64)) (.t 20), none, [1], []⟩,
    ⟨some 22, .fieldAddr (.d tCmd) 5 (.t 5), none, [1], []⟩,
    ⟨some 23, .load (.d (.sl (.int .i64))) (.t 22), none, [1], []⟩,
    ⟨some 24, .fieldAddr (.d tCmd) 7 (.t 5), none, [1], []⟩,
    ⟨some 25, .load (.d (.sl (.int .i64))) (.t 24), none, [1], []⟩,
    ⟨some 26, .slice 3 (.sl (.int .i64)) [(.t 23), (.t 25)], none, [], [3]⟩,
    ⟨some 27, .call (.f 33) [(.t 26)] [.d (.sl (.int .i64))] [] false, none, [], [3]⟩,
    ⟨some 8, .move (.t 21), none, [], []⟩,
    ⟨some 9, .move (.t 27), none, [], []⟩]) (gifts_Trade.c2)) (gifts_Trade.c1)
def gifts_Trade.fn : Fn := ⟨3, [.cell 6 (.d tWorld), .tmp 7], .seq (.reg false [⟨some 3, .box 0 (.t 0), none, [], []⟩,
    ⟨some 5, .box 1 (.t 2), none, [], []⟩,
    ⟨some 6, .newbox 2 tWorld [], none, [], []⟩,
    ⟨some 7, .move (.c (.int .i64) (0 : Int)), none, [], []⟩]) (gifts_Trade.c0)⟩
def innkeepref03_Ints.c3 : Cd := .tidy [6, 7, 8, 9] [] [] none
def innkeepref03_Ints.c5 : Cd := .ret
def innkeepref03_Ints.c4 : Cd := .seq (.reg false [⟨some 4, .move (.c .bool false), none, [], []⟩]) (innkeepref03_Ints.c5)
def innkeepref03_Ints.c6 : Cd := .skip
def innkeepref03_Ints.c2 : Cd := .cond (.t 10) (.seq (.tidy [10] [] [] none) (innkeepref03_Ints.c4)) (.seq (.tidy [10] [] [] none) (innkeepref03_Ints.c6))
def innkeepref03_Ints.c13 : Cd := .tidy [11, 12, 13] [] [] none
def innkeepref03_Ints.c14 : Cd := .skip
def innkeepref03_Ints.c22 : Cd := .exit 0
def innkeepref03_Ints.c12 : Cd := .cond (.t 14) (.seq (.tidy [14] [] [] none) (innkeepref03_Ints.c14)) (.seq (.tidy [14] [] [] none) (innkeepref03_Ints.c22))
def innkeepref03_Ints.c17 : Cd := .tidy [17, 18, 19, 20, 21, 22, 23, 24] [] [] none
def innkeepref03_Ints.c19 : Cd := .ret
def innkeepref03_Ints.c18 : Cd := .seq (.reg false [⟨some 4, .move (.c .bool false), none, [], []⟩]) (innkeepref03_Ints.c19)
def innkeepref03_Ints.c20 : Cd := .skip
def innkeepref03_Ints.c16 : Cd := .cond (.t 25) (.seq (.tidy [25] [] [] none) (innkeepref03_Ints.c18)) (.seq (.tidy [25] [] [] none) (innkeepref03_Ints.c20))
def innkeepref03_Ints.c21 : Cd := .tidy [15, 16] [] [] none
def innkeepref03_Ints.c15 : Cd := .seq (.reg false [⟨some 15, .move (.t 5), none, [], []⟩,
    ⟨some 16, .bin .add (.t 15) (.c (.int .i64) (1 : Int)), none, [], []⟩,
    ⟨some 5, .move (.t 16), none, [], []⟩]) (innkeepref03_Ints.c21)
def innkeepref03_Ints.c11 : Cd := .seq (.block 1 (.seq (.seq (.reg true [⟨some 17, .move (.t 0), none, [], []⟩,
    ⟨some 18, .move (.t 5), none, [], []⟩,
    ⟨some 19, .index (.sl (.int .i64)) (.t 17) (.t 18), none, [], []⟩,
    ⟨some 20, .load (.d (.int .i64)) (.t 19), none, [], []⟩,
    ⟨some 21, .move (.t 1), none, [], []⟩,
    ⟨some 22, .move (.t 5), none, [], []⟩,
    ⟨some 23, .index (.sl (.int .i64)) (.t 21) (.t 22), none, [], []⟩,
    ⟨some 24, .load (.d (.int .i64)) (.t 23), none, [], []⟩,
    ⟨some 25, .bin .neq (.t 20) (.t 24), none, [], []⟩]) (innkeepref03_Ints.c17)) (innkeepref03_Ints.c16))) (innkeepref03_Ints.c15)
def innkeepref03_Ints.c10 : Cd := .tidy [] [] [] (some 0)
def innkeepref03_Ints.c9 : Cd := .seq (.seq (.seq (.seq (.reg false [⟨some 11, .move (.t 5), none, [], []⟩,
    ⟨some 12, .move (.t 0), none, [], []⟩,
    ⟨some 13, .len (.t 12), none, [], []⟩,
    ⟨some 14, .bin .lss (.t 11) (.t 13), none, [], []⟩]) (innkeepref03_Ints.c13)) (innkeepref03_Ints.c12)) (innkeepref03_Ints.c11)) (innkeepref03_Ints.c10)
def innkeepref03_Ints.c8 : Cd := .block 0 (.loop (innkeepref03_Ints.c9))
def innkeepref03_Ints.c23 : Cd := .ret
def innkeepref03_Ints.c7 : Cd := .seq (.reg false [⟨some 4, .move (.c .bool true), none, [], []⟩]) (innkeepref03_Ints.c23)
def innkeepref03_Ints.c1 : Cd := .seq (.seq (.reg false [⟨some 5, .move (.c (.int .i64) (0 : Int)), none, [], []⟩]) (innkeepref03_Ints.c8)) (innkeepref03_Ints.c7)
def innkeepref03_Ints.c0 : Cd := .seq (.seq (.seq (.reg false [⟨some 6, .move (.t 0), none, [], []⟩,
    ⟨some 7, .len (.t 6), none, [], []⟩,
    ⟨some 8, .move (.t 1), none, [], []⟩,
    ⟨some 9, .len (.t 8), none, [], []⟩,
    ⟨some 10, .bin .neq (.t 7) (.t 9), none, [], []⟩]) (innkeepref03_Ints.c3)) (innkeepref03_Ints.c2)) (innkeepref03_Ints.c1)
def innkeepref03_Ints.fn : Fn := ⟨2, [.tmp 4], .seq (.reg false [⟨some 4, .move (.c .bool false), none, [], []⟩]) (innkeepref03_Ints.c0)⟩
def innkeeplaw11_awake.c2 : Cd := .tidy [16, 17, 18, 19, 20, 21, 22] [] [] none
def innkeeplaw11_awake.c4 : Cd := .tidy [23, 24, 25, 26, 27] [] [] none
def innkeeplaw11_awake.c6 : Cd := .tidy [2, 28, 29, 30, 31, 32] [] [] none
def innkeeplaw11_awake.c8 : Cd := .tidy [33, 34, 35, 36, 37] [] [] none
def innkeeplaw11_awake.c10 : Cd := .tidy [6, 38, 39, 40, 41, 42] [] [] none
def innkeeplaw11_awake.c12 : Cd := .tidy [8, 43, 44, 45, 46, 47] [] [] none
def innkeeplaw11_awake.c14 : Cd := .tidy [48, 49, 50, 51, 52, 53, 54, 55] [] [] none
def innkeeplaw11_awake.c16 : Cd := .tidy [12, 56, 57, 58, 59, 60, 61] [] [] none
def innkeeplaw11_awake.c18 : Cd := .tidy [14, 62, 63, 64, 65, 66, 67, 68] [] [] none
def innkeeplaw11_awake.c20 : Cd := .tidy [69, 70, 71, 72, 73, 74, 75, 76, 77, 78, 79, 80, 81, 82, 83, 84, 85, 86, 87, 88, 89, 90, 91, 92, 93, 94, 95, 96, 97, 98, 99, 100, 101, 102, 103, 104, 105, 106, 107, 108, 109, 110, 111, 112, 113, 114, 115, 116, 117, 118, 119, 120, 121, 122, 123, 124] [] [] none
def innkeeplaw11_awake.c19 : Cd := .ret
def innkeeplaw11_awake.c17 : Cd := .seq (.seq (.reg false [⟨some 69, .move (.t 3), none, [], []⟩,
    ⟨some 70, .bin .eql (.t 69) (.c (.int .i64) (9 : Int)), none, [], []⟩,
    ⟨some 71, .move (.t 70), none, [], []⟩,
    ⟨some 72, .move (.t 5), some (71, true), [], []⟩,
    ⟨some 73, .bin .eql (.t 72) (.c (.int .i64) (0 : Int)), some (71, true), [], []⟩,
    ⟨some 74, .pick (.t 71) (.t 73) (.c .bool false), none, [], []⟩,
    ⟨some 75, .move (.t 74), none, [], []⟩,
    ⟨some 76, .fieldAddr (.d tWorld) 3 (.t 4), some (75, true), [], []⟩,
    ⟨some 77, .load (.d (.sl tPlace)) (.t 76), some (75, true), [], []⟩,
    ⟨some 78, .index (.sl tPlace) (.t 77) (.c (.int .i64) (1 : Int)), some (75, true), [], []⟩,
    ⟨some 79, .load (.d tPlace) (.t 78), some (75, true), [], []⟩,
    ⟨some 80, .build tPlace [(0, (.c (.int .i64) (1 : Int)))] [], some (75, true), [], []⟩,
    ⟨some 81, .eqs tPlace false (.t 79) (.t 80), some (75, true), [], []⟩,
    ⟨some 82, .pick (.t 75) (.t 81) (.c .bool false), none, [], []⟩,
    ⟨some 83, .move (.t 82), none, [], []⟩,
    ⟨some 84, .move (.t 7), some (83, true), [], []⟩,
    ⟨some 85, .bin .eql (.t 84) (.c (.int .i64) (5 : Int)), some (83, true), [], []⟩,
    ⟨some 86, .pick (.t 83) (.t 85) (.c .bool false), none, [], []⟩,
    ⟨some 87, .move (.t 86), none, [], []⟩,
    ⟨some 88, .move (.t 9), some (87, true), [], []⟩,
    ⟨some 89, .bin .eql (.t 88) (.c (.int .i64) (12 : Int)), some (87, true), [], []⟩,
    ⟨some 90, .pick (.t 87) (.t 89) (.c .bool false), none, [], []⟩,
    ⟨some 91, .move (.t 90), none, [], []⟩,
    ⟨some 92, .move (.t 11), some (91, true), [], []⟩,
    ⟨some 93, .bin .eql (.t 92) (.c (.int .i64) (0 : Int)), some (91, true), [], []⟩,
    ⟨some 94, .pick (.t 91) (.t 93) (.c .bool false), none, [], []⟩,
    ⟨some 95, .move (.t 94), none, [], []⟩,
    ⟨some 96, .fieldAddr (.d tWorld) 3 (.t 10), some (95, true), [], []⟩,
    ⟨some 97, .load (.d (.sl tPlace)) (.t 96), some (95, true), [], []⟩,
    ⟨some 98, .index (.sl tPlace) (.t 97) (.c (.int .i64) (0 : Int)), some (95, true), [], []⟩,
    ⟨some 99, .fieldAddr (.d tPlace) 1 (.t 98), some (95, true), [], []⟩,
    ⟨some 100, .load (.d (.int .i64)) (.t 99), some (95, true), [], []⟩,
    ⟨some 101, .bin .eql (.t 100) (.c (.int .i64) (1 : Int)), some (95, true), [], []⟩,
    ⟨some 102, .pick (.t 95) (.t 101) (.c .bool false), none, [], []⟩,
    ⟨some 103, .move (.t 102), none, [], []⟩,
    ⟨some 104, .fieldAddr (.d tWorld) 3 (.t 10), some (103, true), [], []⟩,
    ⟨some 105, .load (.d (.sl tPlace)) (.t 104), some (103, true), [], []⟩,
    ⟨some 106, .index (.sl tPlace) (.t 105) (.c (.int .i64) (2 : Int)), some (103, true), [], []⟩,
    ⟨some 107, .fieldAddr (.d tPlace) 1 (.t 106), some (103, true), [], []⟩,
    ⟨some 108, .load (.d (.int .i64)) (.t 107), some (103, true), [], []⟩,
    ⟨some 109, .bin .eql (.t 108) (.c (.int .i64) (0 : Int)), some (103, true), [], []⟩,
    ⟨some 110, .pick (.t 103) (.t 109) (.c .bool false), none, [], []⟩,
    ⟨some 111, .move (.t 110), none, [], []⟩,
    ⟨some 112, .fieldAddr (.d tWorld) 2 (.t 10), some (111, true), [], []⟩,
    ⟨some 113, .load (.d (.sl (.int .i64))) (.t 112), some (111, true), [], []⟩,
    ⟨some 114, .slice 17 (.int .i64) [(.c (.int .i64) (2 : Int)), (.c (.int .i64) (5 : Int)), (.c (.int .i64) (5 : Int))], some (111, true), [], []⟩,
    ⟨some 115, .call (.f 22) [(.t 113), (.t 114)] [.d .bool] [] false, some (111, true), [], []⟩,
    ⟨some 116, .pick (.t 111) (.t 115) (.c .bool false), none, [], []⟩,
    ⟨some 117, .move (.t 116), none, [], []⟩,
    ⟨some 118, .move (.t 13), some (117, true), [], []⟩,
    ⟨some 119, .bin .eql (.t 118) (.c (.int .i64) (10 : Int)), some (117, true), [], []⟩,
    ⟨some 120, .pick (.t 117) (.t 119) (.c .bool false), none, [], []⟩,
    ⟨some 121, .move (.t 120), none, [], []⟩,
    ⟨some 122, .move (.t 15), some (121, true), [], []⟩,
    ⟨some 123, .bin .eql (.t 122) (.c (.int .i64) (13 : Int)), some (121, true), [], []⟩,
    ⟨some 124, .pick (.t 121) (.t 123) (.c .bool false), none, [], []⟩,
    ⟨some 0, .move (.t 124), none, [], []⟩]) (innkeeplaw11_awake.c20)) (innkeeplaw11_awake.c19)
def innkeeplaw11_awake.c15 : Cd := .seq (.seq (.reg false [⟨some 63, .load (.d tWorld) (.t 1), none, [], []⟩,
    ⟨some 64, .slice 15 (.int .i64) [(.c (.int .i64) (0 : Int)), (.c (.int .i64) (0 : Int))], none, [], []⟩,
    ⟨some 65, .build tCmd [(0, (.c (.int .i64) (8 : Int))), (4, (.c (.int .i64) (1 : Int))), (5, (.t 64))] [], none, [], []⟩,
    ⟨some 66, .call (.f 13) [(.t 63), (.c (.int .i64) (0 : Int)), (.t 65)] [.d tWorld, .d (.int .i64)] [] false, none, [], []⟩,
    ⟨some 62, .move (.t 66), none, [], []⟩,
    ⟨some 67, .extract (.t 62) 0, none, [], []⟩,
    ⟨some 68, .extract (.t 62) 1, none, [], []⟩,
    ⟨some 14, .newbox 16 tWorld [], none, [], []⟩,
    ⟨none, .store (.d tWorld) (.t 14) (.t 67), none, [], []⟩,
    ⟨some 15, .move (.t 68), none, [], []⟩]) (innkeeplaw11_awake.c18)) (innkeeplaw11_awake.c17)
def innkeeplaw11_awake.c13 : Cd := .seq (.seq (.reg false [⟨some 57, .load (.d tWorld) (.t 1), none, [], []⟩,
    ⟨some 58, .build tCmd [(0, (.c (.int .i64) (8 : Int))), (4, (.c (.int .i64) (1 : Int))), (8, (.c (.int .i64) (3 : Int)))] [], none, [], []⟩,
    ⟨some 59, .call (.f 13) [(.t 57), (.c (.int .i64) (0 : Int)), (.t 58)] [.d tWorld, .d (.int .i64)] [] false, none, [], []⟩,
    ⟨some 56, .move (.t 59), none, [], []⟩,
    ⟨some 60, .extract (.t 56) 0, none, [], []⟩,
    ⟨some 61, .extract (.t 56) 1, none, [], []⟩,
    ⟨some 12, .newbox 14 tWorld [], none, [], []⟩,
    ⟨none, .store (.d tWorld) (.t 12) (.t 60), none, [], []⟩,
    ⟨some 13, .move (.t 61), none, [], []⟩]) (innkeeplaw11_awake.c16)) (innkeeplaw11_awake.c15)
def innkeeplaw11_awake.c11 : Cd := .seq (.seq (.reg false [⟨some 49, .load (.d tWorld) (.t 1), none, [], []⟩,
    ⟨some 50, .slice 11 (.int .i64) [(.c (.int .i64) (0 : Int))], none, [], []⟩,
    ⟨some 51, .slice 12 (.int .i64) [(.c (.int .i64) (1 : Int)), (.c (.int .i64) (2 : Int))], none, [], []⟩,
    ⟨some 52, .build tCmd [(0, (.c (.int .i64) (8 : Int))), (4, (.c (.int .i64) (1 : Int))), (5, (.t 50)), (6, (.c (.int .i64) (5 : Int))), (7, (.t 51)), (8, (.c (.int .i64) (2 : Int)))] [], none, [], []⟩,
    ⟨some 53, .call (.f 13) [(.t 49), (.c (.int .i64) (0 : Int)), (.t 52)] [.d tWorld, .d (.int .i64)] [] false, none, [], []⟩,
    ⟨some 48, .move (.t 53), none, [], []⟩,
    ⟨some 54, .extract (.t 48) 0, none, [], []⟩,
    ⟨some 55, .extract (.t 48) 1, none, [], []⟩,
    ⟨some 10, .newbox 13 tWorld [], none, [], []⟩,
    ⟨none, .store (.d tWorld) (.t 10) (.t 54), none, [], []⟩,
    ⟨some 11, .move (.t 55), none, [], []⟩]) (innkeeplaw11_awake.c14)) (innkeeplaw11_awake.c13)
def innkeeplaw11_awake.c9 : Cd := .seq (.seq (.reg false [⟨some 44, .load (.d tWorld) (.t 1), none, [], []⟩,
    ⟨some 45, .call (.f 11) [(.t 44), (.c (.int .i64) (0 : Int)), (.c (.int .i64) (0 : Int)), (.c (.int .i64) (0 : Int))] [.d tWorld, .d (.int .i64)] [] false, none, [], []⟩,
    ⟨some 43, .move (.t 45), none, [], []⟩,
    ⟨some 46, .extract (.t 43) 0, none, [], []⟩,
    ⟨some 47, .extract (.t 43) 1, none, [], []⟩,
    ⟨some 8, .newbox 10 tWorld [], none, [], []⟩,
    ⟨none, .store (.d tWorld) (.t 8) (.t 46), none, [], []⟩,
    ⟨some 9, .move (.t 47), none, [], []⟩]) (innkeeplaw11_awake.c12)) (innkeeplaw11_awake.c11)
def innkeeplaw11_awake.c7 : Cd := .seq (.seq (.reg false [⟨some 39, .load (.d tWorld) (.t 1), none, [], []⟩,
    ⟨some 40, .call (.f 11) [(.t 39), (.c (.int .i64) (0 : Int)), (.c (.int .i64) (0 : Int)), (.c (.int .i64) (2 : Int))] [.d tWorld, .d (.int .i64)] [] false, none, [], []⟩,
    ⟨some 38, .move (.t 40), none, [], []⟩,
    ⟨some 41, .extract (.t 38) 0, none, [], []⟩,
    ⟨some 42, .extract (.t 38) 1, none, [], []⟩,
    ⟨some 6, .newbox 9 tWorld [], none, [], []⟩,
    ⟨none, .store (.d tWorld) (.t 6) (.t 41), none, [], []⟩,
    ⟨some 7, .move (.t 42), none, [], []⟩]) (innkeeplaw11_awake.c10)) (innkeeplaw11_awake.c9)
def innkeeplaw11_awake.c5 : Cd := .seq (.seq (.reg false [⟨some 34, .load (.d tWorld) (.t 1), none, [], []⟩,
    ⟨some 35, .call (.f 11) [(.t 34), (.c (.int .i64) (1 : Int)), (.c (.int .i64) (1 : Int)), (.c (.int .i64) (0 : Int))] [.d tWorld, .d (.int .i64)] [] false, none, [], []⟩,
    ⟨some 33, .move (.t 35), none, [], []⟩,
    ⟨some 36, .extract (.t 33) 0, none, [], []⟩,
    ⟨some 37, .extract (.t 33) 1, none, [], []⟩,
    ⟨some 4, .newbox 8 tWorld [], none, [], []⟩,
    ⟨none, .store (.d tWorld) (.t 4) (.t 36), none, [], []⟩,
    ⟨some 5, .move (.t 37), none, [], []⟩]) (innkeeplaw11_awake.c8)) (innkeeplaw11_awake.c7)
def innkeeplaw11_awake.c3 : Cd := .seq (.seq (.reg false [⟨some 29, .load (.d tWorld) (.t 1), none, [], []⟩,
    ⟨some 30, .call (.f 11) [(.t 29), (.c (.int .i64) (0 : Int)), (.c (.int .i64) (0 : Int)), (.c (.int .i64) (1 : Int))] [.d tWorld, .d (.int .i64)] [] false, none, [], []⟩,
    ⟨some 28, .move (.t 30), none, [], []⟩,
    ⟨some 31, .extract (.t 28) 0, none, [], []⟩,
    ⟨some 32, .extract (.t 28) 1, none, [], []⟩,
    ⟨some 2, .newbox 7 tWorld [], none, [], []⟩,
    ⟨none, .store (.d tWorld) (.t 2) (.t 31), none, [], []⟩,
    ⟨some 3, .move (.t 32), none, [], []⟩]) (innkeeplaw11_awake.c6)) (innkeeplaw11_awake.c5)
def innkeeplaw11_awake.c1 : Cd := .seq (.seq (.reg false [⟨some 23, .build tPlace [(0, (.c (.int .i64) (1 : Int)))] [], none, [], []⟩,
    ⟨some 24, .build tPlace [(0, (.c (.int .i64) (1 : Int))), (1, (.c (.int .i64) (1 : Int)))] [], none, [], []⟩,
    ⟨some 25, .build tPlace [(0, (.c (.int .i64) (1 : Int))), (1, (.c (.int .i64) (1 : Int)))] [], none, [], []⟩,
    ⟨some 26, .slice 6 tPlace [(.t 23), (.t 24), (.t 25)], none, [], []⟩,
    ⟨some 27, .fieldAddr (.d tWorld) 3 (.t 1), none, [], []⟩,
    ⟨none, .store (.d (.sl tPlace)) (.t 27) (.t 26), none, [], []⟩]) (innkeeplaw11_awake.c4)) (innkeeplaw11_awake.c3)
def innkeeplaw11_awake.c0 : Cd := .seq (.seq (.reg false [⟨some 16, .make 0 (.arr 4 (.int .i64)) (.c (.int .i64) (2 : Int)), none, [], []⟩,
    ⟨some 17, .slice 1 (.int .i64) [(.c (.int .i64) (0 : Int)), (.c (.int .i64) (0 : Int)), (.c (.int .i64) (1 : Int))], none, [], []⟩,
    ⟨some 18, .slice 2 (.int .i64) [(.c (.int .i64) (5 : Int)), (.c (.int .i64) (2 : Int)), (.c (.int .i64) (5 : Int))], none, [], []⟩,
    ⟨some 19, .slice 3 (.int .i64) [(.c (.int .i64) (0 : Int)), (.c (.int .i64) (0 : Int)), (.c (.int .i64) (0 : Int))], none, [], []⟩,
    ⟨some 20, .slice 4 .bool [(.c .bool false), (.c .bool false), (.c .bool false)], none, [], []⟩,
    ⟨some 21, .build tDesc [(0, (.t 16)), (1, (.t 17)), (2, (.t 18)), (3, (.t 19)), (4, (.t 20)), (5, (.c (.int .i64) (4 : Int))), (6, (.c (.int .i64) (2 : Int))), (7, (.c (.int .i64) (1 : Int)))] [], none, [], []⟩,
    ⟨some 22, .call (.f 21) [(.t 21)] [.d tWorld] [] false, none, [], []⟩,
    ⟨some 1, .newbox 5 tWorld [], none, [], []⟩,
    ⟨none, .store (.d tWorld) (.t 1) (.t 22), none, [], []⟩]) (innkeeplaw11_awake.c2)) (innkeeplaw11_awake.c1)
def innkeeplaw11_awake.fn : Fn := ⟨0, [.tmp 0], .seq (.reg false [⟨some 0, .move (.c .bool false), none, [], []⟩]) (innkeeplaw11_awake.c0)⟩
def innkeepref06_Few.c2 : Cd := .tidy [4, 5] [] [] none
def innkeepref06_Few.c4 : Cd := .tidy [6, 7, 8, 9, 10, 11, 12, 13, 14, 15, 16, 17, 18, 19, 20, 21, 22, 23, 24, 25, 26, 27, 28, 29, 30, 31, 32, 33, 34, 35, 36, 37, 38, 39, 40, 41, 42, 43, 44, 45, 46, 47, 48, 49, 50, 51] [] [] none
def innkeepref06_Few.c3 : Cd := .ret
def innkeepref06_Few.c1 : Cd := .seq (.seq (.reg false [⟨some 6, .fieldAddr (.d tDesc) 0 (.t 3), none, [], []⟩,
    ⟨some 7, .load (.d (.sl (.arr 4 (.int .i64)))) (.t 6), none, [], []⟩,
    ⟨some 8, .len (.t 7), none, [], []⟩,
    ⟨some 9, .bin .leq (.t 8) (.c (.int .i64) (20 : Int)), none, [], []⟩,
    ⟨some 10, .move (.t 9), none, [], []⟩,
    ⟨some 11, .fieldAddr (.d tDesc) 1 (.t 3), some (10, true), [], []⟩,
    ⟨some 12, .load (.d (.sl (.int .i64))) (.t 11), some (10, true), [], []⟩,
    ⟨some 13, .len (.t 12), some (10, true), [], []⟩,
    ⟨some 14, .bin .leq (.t 13) (.c (.int .i64) (20 : Int)), some (10, true), [], []⟩,
    ⟨some 15, .pick (.t 10) (.t 14) (.c .bool false), none, [], []⟩,
    ⟨some 16, .move (.t 15), none, [], []⟩,
    ⟨some 17, .fieldAddr (.d tDesc) 2 (.t 3), some (16, true), [], []⟩,
    ⟨some 18, .load (.d (.sl (.int .i64))) (.t 17), some (16, true), [], []⟩,
    ⟨some 19, .len (.t 18), some (16, true), [], []⟩,
    ⟨some 20, .bin .leq (.t 19) (.c (.int .i64) (20 : Int)), some (16, true), [], []⟩,
    ⟨some 21, .pick (.t 16) (.t 20) (.c .bool false), none, [], []⟩,
    ⟨some 22, .move (.t 21), none, [], []⟩,
    ⟨some 23, .fieldAddr (.d tDesc) 3 (.t 3), some (22, true), [], []⟩,
    ⟨some 24, .load (.d (.sl (.int .i64))) (.t 23), some (22, true), [], []⟩,
    ⟨some 25, .len (.t 24), some (22, true), [], []⟩,
    ⟨some 26, .bin .leq (.t 25) (.c (.int .i64) (40 : Int)), some (22, true), [], []⟩,
    ⟨some 27, .pick (.t 22) (.t 26) (.c .bool false), none, [], []⟩,
    ⟨some 28, .move (.t 27), none, [], []⟩,
    ⟨some 29, .fieldAddr (.d tDesc) 4 (.t 3), some (28, true), [], []⟩,
    ⟨some 30, .load (.d (.sl .bool)) (.t 29), some (28, true), [], []⟩,
    ⟨some 31, .len (.t 30), some (28, true), [], []⟩,
    ⟨some 32, .bin .leq (.t 31) (.c (.int .i64) (40 : Int)), some (28, true), [], []⟩,
    ⟨some 33, .pick (.t 28) (.t 32) (.c .bool false), none, [], []⟩,
    ⟨some 34, .move (.t 33), none, [], []⟩,
    ⟨some 35, .fieldAddr (.d tWorld) 1 (.t 1), some (34, true), [], []⟩,
    ⟨some 36, .load (.d (.sl (.int .i64))) (.t 35), some (34, true), [], []⟩,
    ⟨some 37, .len (.t 36), some (34, true), [], []⟩,
    ⟨some 38, .bin .leq (.t 37) (.c (.int .i64) (40 : Int)), some (34, true), [], []⟩,
    ⟨some 39, .pick (.t 34) (.t 38) (.c .bool false), none, [], []⟩,
    ⟨some 40, .move (.t 39), none, [], []⟩,
    ⟨some 41, .fieldAddr (.d tWorld) 2 (.t 1), some (40, true), [], []⟩,
    ⟨some 42, .load (.d (.sl (.int .i64))) (.t 41), some (40, true), [], []⟩,
    ⟨some 43, .len (.t 42), some (40, true), [], []⟩,
    ⟨some 44, .bin .leq (.t 43) (.c (.int .i64) (40 : Int)), some (40, true), [], []⟩,
    ⟨some 45, .pick (.t 40) (.t 44) (.c .bool false), none, [], []⟩,
    ⟨some 46, .move (.t 45), none, [], []⟩,
    ⟨some 47, .fieldAddr (.d tWorld) 3 (.t 1), some (46, true), [], []⟩,
    ⟨some 48, .load (.d (.sl tPlace)) (.t 47), some (46, true), [], []⟩,
    ⟨some 49, .len (.t 48), some (46, true), [], []⟩,
    ⟨some 50, .bin .leq (.t 49) (.c (.int .i64) (40 : Int)), some (46, true), [], []⟩,
    ⟨some 51, .pick (.t 46) (.t 50) (.c .bool false), none, [], []⟩,
    ⟨some 2, .move (.t 51), none, [], []⟩]) (innkeepref06_Few.c4)) (innkeepref06_Few.c3)
def innkeepref06_Few.c0 : Cd := .seq (.seq (.reg false [⟨some 4, .fieldAddr (.d tWorld) 0 (.t 1), none, [], []⟩,
    ⟨some 5, .load (.d tDesc) (.t 4), none, [], []⟩,
    ⟨some 3, .newbox 1 tDesc [], none, [], []⟩,
    ⟨none, .store (.d tDesc) (.t 3) (.t 5), none, [], []⟩]) (innkeepref06_Few.c2)) (innkeepref06_Few.c1)
def innkeepref06_Few.fn : Fn := ⟨1, [.tmp 2], .seq (.reg false [⟨some 1, .box 0 (.t 0), none, [], []⟩,
    ⟨some 2, .move (.c .bool false), none, [], []⟩]) (innkeepref06_Few.c0)⟩
def innkeepref06_in.c2 : Cd := .tidy [5, 6, 7, 8, 9, 10, 11] [] [] none
def innkeepref06_in.c1 : Cd := .ret
def innkeepref06_in.c0 : Cd := .seq (.seq (.reg false [⟨some 5, .move (.t 0), none, [], []⟩,
    ⟨some 6, .bin .geq (.t 5) (.c (.int .i64) (0 : Int)), none, [], []⟩,
    ⟨some 7, .move (.t 6), none, [], []⟩,
    ⟨some 8, .move (.t 0), some (7, true), [], []⟩,
    ⟨some 9, .move (.t 1), some (7, true), [], []⟩,
    ⟨some 10, .bin .lss (.t 8) (.t 9), some (7, true), [], []⟩,
    ⟨some 11, .pick (.t 7) (.t 10) (.c .bool false), none, [], []⟩,
    ⟨some 4, .move (.t 11), none, [], []⟩]) (innkeepref06_in.c2)) (innkeepref06_in.c1)
def innkeepref06_in.fn : Fn := ⟨2, [.tmp 4], .seq (.reg false [⟨some 4, .move (.c .bool false), none, [], []⟩]) (innkeepref06_in.c0)⟩
def innkeepref01_Is.c2 : Cd := .tidy [3, 4, 5, 6, 7, 8] [] [] none
def innkeepref01_Is.c1 : Cd := .ret
def innkeepref01_Is.c0 : Cd := .seq (.seq (.reg false [⟨some 3, .move (.t 0), none, [], []⟩,
    ⟨some 4, .bin .leq (.c (.int .i64) (0 : Int)) (.t 3), none, [], []⟩,
    ⟨some 5, .move (.t 4), none, [], []⟩,
    ⟨some 6, .move (.t 0), some (5, true), [], []⟩,
    ⟨some 7, .bin .leq (.t 6) (.c (.int .i64) (1073741824 : Int)), some (5, true), [], []⟩,
    ⟨some 8, .pick (.t 5) (.t 7) (.c .bool false), none, [], []⟩,
    ⟨some 2, .move (.t 8), none, [], []⟩]) (innkeepref01_Is.c2)) (innkeepref01_Is.c1)
def innkeepref01_Is.fn : Fn := ⟨1, [.tmp 2], .seq (.reg false [⟨some 2, .move (.c .bool false), none, [], []⟩]) (innkeepref01_Is.c0)⟩
def innkeepref06_May.c2 : Cd := .tidy [10, 11, 12] [] [] none
def innkeepref06_May.c5 : Cd := .tidy [13, 14, 15, 16, 17, 18, 19, 20, 21, 22, 23, 24, 25, 26, 27, 28, 29, 30, 31, 32, 33, 34, 35, 36, 37, 38, 39, 40, 41, 42, 43, 44, 45, 46, 47, 48, 49, 50, 51, 52, 53] [] [] none
def innkeepref06_May.c7 : Cd := .ret
def innkeepref06_May.c6 : Cd := .seq (.reg false [⟨some 2, .move (.c .bool false), none, [], []⟩]) (innkeepref06_May.c7)
def innkeepref06_May.c8 : Cd := .skip
def innkeepref06_May.c4 : Cd := .cond (.t 54) (.seq (.tidy [54] [] [] none) (innkeepref06_May.c6)) (.seq (.tidy [54] [] [] none) (innkeepref06_May.c8))
def innkeepref06_May.c11 : Cd := .tidy [55, 56, 57, 58, 59, 60, 61, 62, 63, 64, 65, 66, 67, 68, 69] [] [] none
def innkeepref06_May.c13 : Cd := .ret
def innkeepref06_May.c12 : Cd := .seq (.reg false [⟨some 2, .move (.c .bool false), none, [], []⟩]) (innkeepref06_May.c13)
def innkeepref06_May.c14 : Cd := .skip
def innkeepref06_May.c10 : Cd := .cond (.t 70) (.seq (.tidy [70] [] [] none) (innkeepref06_May.c12)) (.seq (.tidy [70] [] [] none) (innkeepref06_May.c14))
def innkeepref06_May.c21 : Cd := .tidy [71, 72] [] [] none
def innkeepref06_May.c22 : Cd := .skip
def innkeepref06_May.c63 : Cd := .exit 0
def innkeepref06_May.c20 : Cd := .cond (.t 73) (.seq (.tidy [73] [] [] none) (innkeepref06_May.c22)) (.seq (.tidy [73] [] [] none) (innkeepref06_May.c63))
def innkeepref06_May.c30 : Cd := .tidy [76] [] [] none
def innkeepref06_May.c31 : Cd := .skip
def innkeepref06_May.c39 : Cd := .exit 2
def innkeepref06_May.c29 : Cd := .cond (.t 77) (.seq (.tidy [77] [] [] none) (innkeepref06_May.c31)) (.seq (.tidy [77] [] [] none) (innkeepref06_May.c39))
def innkeepref06_May.c34 : Cd := .tidy [80, 81, 82, 83, 84, 85, 86, 87, 88, 89, 90, 91, 92, 93, 94, 95, 96, 97, 98] [] [] none
def innkeepref06_May.c36 : Cd := .ret
def innkeepref06_May.c35 : Cd := .seq (.reg false [⟨some 2, .move (.c .bool false), none, [], []⟩]) (innkeepref06_May.c36)
def innkeepref06_May.c37 : Cd := .skip
def innkeepref06_May.c33 : Cd := .cond (.t 99) (.seq (.tidy [99] [] [] none) (innkeepref06_May.c35)) (.seq (.tidy [99] [] [] none) (innkeepref06_May.c37))
def innkeepref06_May.c38 : Cd := .tidy [78, 79] [] [] none
def innkeepref06_May.c32 : Cd := .seq (.reg false [⟨some 78, .move (.t 5), none, [], []⟩,
    ⟨some 79, .bin .add (.t 78) (.c (.int .i64) (1 : Int)), none, [], []⟩,
    ⟨some 5, .move (.t 79), none, [], []⟩]) (innkeepref06_May.c38)
def innkeepref06_May.c28 : Cd := .seq (.block 3 (.seq (.seq (.reg false [⟨some 80, .fieldAddr (.d tDesc) 0 (.t 1), none, [], []⟩,
    ⟨some 81, .load (.d (.sl (.arr 4 (.int .i64)))) (.t 80), none, [], []⟩,
    ⟨some 82, .move (.t 4), none, [], []⟩,
    ⟨some 83, .move (.t 5), none, [], []⟩,
    ⟨some 84, .index (.sl (.arr 4 (.int .i64))) (.t 81) (.t 82), none, [], []⟩,
    ⟨some 85, .index (.arr 4 (.int .i64)) (.t 84) (.t 83), none, [], []⟩,
    ⟨some 86, .load (.d (.int .i64)) (.t 85), none, [], []⟩,
    ⟨some 87, .bin .neq (.t 86) (.c (.int .i64) ((-1) : Int)), none, [], []⟩,
    ⟨some 88, .move (.t 87), none, [], []⟩,
    ⟨some 89, .fieldAddr (.d tDesc) 0 (.t 1), some (88, true), [], []⟩,
    ⟨some 90, .load (.d (.sl (.arr 4 (.int .i64)))) (.t 89), some (88, true), [], []⟩,
    ⟨some 91, .move (.t 4), some (88, true), [], []⟩,
    ⟨some 92, .move (.t 5), some (88, true), [], []⟩,
    ⟨some 93, .index (.sl (.arr 4 (.int .i64))) (.t 90) (.t 91), some (88, true), [], []⟩,
    ⟨some 94, .index (.arr 4 (.int .i64)) (.t 93) (.t 92), some (88, true), [], []⟩,
    ⟨some 95, .load (.d (.int .i64)) (.t 94), some (88, true), [], []⟩,
    ⟨some 96, .move (.t 3), some (88, true), [], []⟩,
    ⟨some 97, .call (.f 43) [(.t 95), (.t 96)] [.d .bool] [] false, some (88, true), [], []⟩,
    ⟨some 98, .not (.t 97), some (88, true), [], []⟩,
    ⟨some 99, .pick (.t 88) (.t 98) (.c .bool false), none, [], []⟩]) (innkeepref06_May.c34)) (innkeepref06_May.c33))) (innkeepref06_May.c32)
def innkeepref06_May.c27 : Cd := .tidy [] [] [] (some 1)
def innkeepref06_May.c26 : Cd := .seq (.seq (.seq (.seq (.reg false [⟨some 76, .move (.t 5), none, [], []⟩,
    ⟨some 77, .bin .lss (.t 76) (.c (.int .i64) (4 : Int)), none, [], []⟩]) (innkeepref06_May.c30)) (innkeepref06_May.c29)) (innkeepref06_May.c28)) (innkeepref06_May.c27)
def innkeepref06_May.c25 : Cd := .block 2 (.loop (innkeepref06_May.c26))
def innkeepref06_May.c47 : Cd := .tidy [100, 101, 102, 103] [] [] none
def innkeepref06_May.c48 : Cd := .skip
def innkeepref06_May.c56 : Cd := .exit 4
def innkeepref06_May.c46 : Cd := .cond (.t 104) (.seq (.tidy [104] [] [] none) (innkeepref06_May.c48)) (.seq (.tidy [104] [] [] none) (innkeepref06_May.c56))
def innkeepref06_May.c51 : Cd := .tidy [107, 108, 109, 110, 111, 112] [] [] none
def innkeepref06_May.c53 : Cd := .tidy [114, 115] [] [] none
def innkeepref06_May.c52 : Cd := .seq (.reg false [⟨some 114, .move (.t 6), none, [], []⟩,
    ⟨some 115, .bin .add (.t 114) (.c (.int .i64) (1 : Int)), none, [], []⟩,
    ⟨some 6, .move (.t 115), none, [], []⟩]) (innkeepref06_May.c53)
def innkeepref06_May.c55 : Cd := .skip
def innkeepref06_May.c50 : Cd := .cond (.t 113) (.seq (.tidy [113] [] [] none) (innkeepref06_May.c52)) (.seq (.tidy [113] [] [] none) (innkeepref06_May.c55))
def innkeepref06_May.c54 : Cd := .tidy [105, 106] [] [] none
def innkeepref06_May.c49 : Cd := .seq (.reg false [⟨some 105, .move (.t 7), none, [], []⟩,
    ⟨some 106, .bin .add (.t 105) (.c (.int .i64) (1 : Int)), none, [], []⟩,
    ⟨some 7, .move (.t 106), none, [], []⟩]) (innkeepref06_May.c54)
def innkeepref06_May.c45 : Cd := .seq (.block 5 (.seq (.seq (.reg false [⟨some 107, .fieldAddr (.d tDesc) 3 (.t 1), none, [], []⟩,
    ⟨some 108, .load (.d (.sl (.int .i64))) (.t 107), none, [], []⟩,
    ⟨some 109, .move (.t 7), none, [], []⟩,
    ⟨some 110, .index (.sl (.int .i64)) (.t 108) (.t 109), none, [], []⟩,
    ⟨some 111, .load (.d (.int .i64)) (.t 110), none, [], []⟩,
    ⟨some 112, .move (.t 4), none, [], []⟩,
    ⟨some 113, .bin .eql (.t 111) (.t 112), none, [], []⟩]) (innkeepref06_May.c51)) (innkeepref06_May.c50))) (innkeepref06_May.c49)
def innkeepref06_May.c44 : Cd := .tidy [] [] [] (some 1)
def innkeepref06_May.c43 : Cd := .seq (.seq (.seq (.seq (.reg false [⟨some 100, .move (.t 7), none, [], []⟩,
    ⟨some 101, .fieldAddr (.d tDesc) 3 (.t 1), none, [], []⟩,
    ⟨some 102, .load (.d (.sl (.int .i64))) (.t 101), none, [], []⟩,
    ⟨some 103, .len (.t 102), none, [], []⟩,
    ⟨some 104, .bin .lss (.t 100) (.t 103), none, [], []⟩]) (innkeepref06_May.c47)) (innkeepref06_May.c46)) (innkeepref06_May.c45)) (innkeepref06_May.c44)
def innkeepref06_May.c42 : Cd := .block 4 (.loop (innkeepref06_May.c43))
def innkeepref06_May.c58 : Cd := .tidy [116, 117, 118] [] [] none
def innkeepref06_May.c60 : Cd := .ret
def innkeepref06_May.c59 : Cd := .seq (.reg false [⟨some 2, .move (.c .bool false), none, [], []⟩]) (innkeepref06_May.c60)
def innkeepref06_May.c61 : Cd := .skip
def innkeepref06_May.c57 : Cd := .cond (.t 119) (.seq (.tidy [119] [] [] none) (innkeepref06_May.c59)) (.seq (.tidy [119] [] [] none) (innkeepref06_May.c61))
def innkeepref06_May.c41 : Cd := .seq (.seq (.reg false [⟨some 116, .move (.t 6), none, [], []⟩,
    ⟨some 117, .fieldAddr (.d tDesc) 5 (.t 1), none, [], []⟩,
    ⟨some 118, .load (.d (.int .i64)) (.t 117), none, [], []⟩,
    ⟨some 119, .bin .gtr (.t 116) (.t 118), none, [], []⟩]) (innkeepref06_May.c58)) (innkeepref06_May.c57)
def innkeepref06_May.c40 : Cd := .seq (.seq (.reg false [⟨some 7, .move (.c (.int .i64) (0 : Int)), none, [], []⟩]) (innkeepref06_May.c42)) (innkeepref06_May.c41)
def innkeepref06_May.c24 : Cd := .seq (.reg false [⟨some 6, .move (.c (.int .i64) (0 : Int)), none, [], []⟩]) (innkeepref06_May.c40)
def innkeepref06_May.c62 : Cd := .tidy [74, 75] [] [] none
def innkeepref06_May.c23 : Cd := .seq (.reg false [⟨some 74, .move (.t 4), none, [], []⟩,
    ⟨some 75, .bin .add (.t 74) (.c (.int .i64) (1 : Int)), none, [], []⟩,
    ⟨some 4, .move (.t 75), none, [], []⟩]) (innkeepref06_May.c62)
def innkeepref06_May.c19 : Cd := .seq (.block 1 (.seq (.seq (.reg false [⟨some 5, .move (.c (.int .i64) (0 : Int)), none, [], []⟩]) (innkeepref06_May.c25)) (innkeepref06_May.c24))) (innkeepref06_May.c23)
def innkeepref06_May.c18 : Cd := .tidy [5, 6, 7] [] [] (some 1)
def innkeepref06_May.c17 : Cd := .seq (.seq (.seq (.seq (.reg false [⟨some 71, .move (.t 4), none, [], []⟩,
    ⟨some 72, .move (.t 3), none, [], []⟩,
    ⟨some 73, .bin .lss (.t 71) (.t 72), none, [], []⟩]) (innkeepref06_May.c21)) (innkeepref06_May.c20)) (innkeepref06_May.c19)) (innkeepref06_May.c18)
def innkeepref06_May.c16 : Cd := .block 0 (.loop (innkeepref06_May.c17))
def innkeepref06_May.c70 : Cd := .tidy [120, 121, 122, 123] [] [] none
def innkeepref06_May.c71 : Cd := .skip
def innkeepref06_May.c79 : Cd := .exit 6
def innkeepref06_May.c69 : Cd := .cond (.t 124) (.seq (.tidy [124] [] [] none) (innkeepref06_May.c71)) (.seq (.tidy [124] [] [] none) (innkeepref06_May.c79))
def innkeepref06_May.c74 : Cd := .tidy [127, 128, 129, 130, 131, 132, 133, 134, 135, 136, 137, 138, 139, 140, 141, 142] [] [] none
def innkeepref06_May.c76 : Cd := .ret
def innkeepref06_May.c75 : Cd := .seq (.reg false [⟨some 2, .move (.c .bool false), none, [], []⟩]) (innkeepref06_May.c76)
def innkeepref06_May.c77 : Cd := .skip
def innkeepref06_May.c73 : Cd := .cond (.t 143) (.seq (.tidy [143] [] [] none) (innkeepref06_May.c75)) (.seq (.tidy [143] [] [] none) (innkeepref06_May.c77))
def innkeepref06_May.c78 : Cd := .tidy [125, 126] [] [] none
def innkeepref06_May.c72 : Cd := .seq (.reg false [⟨some 125, .move (.t 8), none, [], []⟩,
    ⟨some 126, .bin .add (.t 125) (.c (.int .i64) (1 : Int)), none, [], []⟩,
    ⟨some 8, .move (.t 126), none, [], []⟩]) (innkeepref06_May.c78)
def innkeepref06_May.c68 : Cd := .seq (.block 7 (.seq (.seq (.reg false [⟨some 127, .fieldAddr (.d tDesc) 1 (.t 1), none, [], []⟩,
    ⟨some 128, .load (.d (.sl (.int .i64))) (.t 127), none, [], []⟩,
    ⟨some 129, .move (.t 8), none, [], []⟩,
    ⟨some 130, .index (.sl (.int .i64)) (.t 128) (.t 129), none, [], []⟩,
    ⟨some 131, .load (.d (.int .i64)) (.t 130), none, [], []⟩,
    ⟨some 132, .move (.t 3), none, [], []⟩,
    ⟨some 133, .call (.f 43) [(.t 131), (.t 132)] [.d .bool] [] false, none, [], []⟩,
    ⟨some 134, .not (.t 133), none, [], []⟩,
    ⟨some 135, .move (.t 134), none, [], []⟩,
    ⟨some 136, .fieldAddr (.d tDesc) 2 (.t 1), some (135, false), [], []⟩,
    ⟨some 137, .load (.d (.sl (.int .i64))) (.t 136), some (135, false), [], []⟩,
    ⟨some 138, .move (.t 8), some (135, false), [], []⟩,
    ⟨some 139, .index (.sl (.int .i64)) (.t 137) (.t 138), some (135, false), [], []⟩,
    ⟨some 140, .load (.d (.int .i64)) (.t 139), some (135, false), [], []⟩,
    ⟨some 141, .call (.f 44) [(.t 140)] [.d .bool] [] false, some (135, false), [], []⟩,
    ⟨some 142, .not (.t 141), some (135, false), [], []⟩,
    ⟨some 143, .pick (.t 135) (.c .bool true) (.t 142), none, [], []⟩]) (innkeepref06_May.c74)) (innkeepref06_May.c73))) (innkeepref06_May.c72)
def innkeepref06_May.c67 : Cd := .tidy [] [] [] (some 1)
def innkeepref06_May.c66 : Cd := .seq (.seq (.seq (.seq (.reg false [⟨some 120, .move (.t 8), none, [], []⟩,
    ⟨some 121, .fieldAddr (.d tDesc) 1 (.t 1), none, [], []⟩,
    ⟨some 122, .load (.d (.sl (.int .i64))) (.t 121), none, [], []⟩,
    ⟨some 123, .len (.t 122), none, [], []⟩,
    ⟨some 124, .bin .lss (.t 120) (.t 123), none, [], []⟩]) (innkeepref06_May.c70)) (innkeepref06_May.c69)) (innkeepref06_May.c68)) (innkeepref06_May.c67)
def innkeepref06_May.c65 : Cd := .block 6 (.loop (innkeepref06_May.c66))
def innkeepref06_May.c86 : Cd := .tidy [144, 145, 146, 147] [] [] none
def innkeepref06_May.c87 : Cd := .skip
def innkeepref06_May.c95 : Cd := .exit 8
def innkeepref06_May.c85 : Cd := .cond (.t 148) (.seq (.tidy [148] [] [] none) (innkeepref06_May.c87)) (.seq (.tidy [148] [] [] none) (innkeepref06_May.c95))
def innkeepref06_May.c90 : Cd := .tidy [151, 152, 153, 154, 155, 156, 157] [] [] none
def innkeepref06_May.c92 : Cd := .ret
def innkeepref06_May.c91 : Cd := .seq (.reg false [⟨some 2, .move (.c .bool false), none, [], []⟩]) (innkeepref06_May.c92)
def innkeepref06_May.c93 : Cd := .skip
def innkeepref06_May.c89 : Cd := .cond (.t 158) (.seq (.tidy [158] [] [] none) (innkeepref06_May.c91)) (.seq (.tidy [158] [] [] none) (innkeepref06_May.c93))
def innkeepref06_May.c94 : Cd := .tidy [149, 150] [] [] none
def innkeepref06_May.c88 : Cd := .seq (.reg false [⟨some 149, .move (.t 9), none, [], []⟩,
    ⟨some 150, .bin .add (.t 149) (.c (.int .i64) (1 : Int)), none, [], []⟩,
    ⟨some 9, .move (.t 150), none, [], []⟩]) (innkeepref06_May.c94)
def innkeepref06_May.c84 : Cd := .seq (.block 9 (.seq (.seq (.reg false [⟨some 151, .fieldAddr (.d tDesc) 3 (.t 1), none, [], []⟩,
    ⟨some 152, .load (.d (.sl (.int .i64))) (.t 151), none, [], []⟩,
    ⟨some 153, .move (.t 9), none, [], []⟩,
    ⟨some 154, .index (.sl (.int .i64)) (.t 152) (.t 153), none, [], []⟩,
    ⟨some 155, .load (.d (.int .i64)) (.t 154), none, [], []⟩,
    ⟨some 156, .move (.t 3), none, [], []⟩,
    ⟨some 157, .call (.f 43) [(.t 155), (.t 156)] [.d .bool] [] false, none, [], []⟩,
    ⟨some 158, .not (.t 157), none, [], []⟩]) (innkeepref06_May.c90)) (innkeepref06_May.c89))) (innkeepref06_May.c88)
def innkeepref06_May.c83 : Cd := .tidy [] [] [] (some 1)
def innkeepref06_May.c82 : Cd := .seq (.seq (.seq (.seq (.reg false [⟨some 144, .move (.t 9), none, [], []⟩,
    ⟨some 145, .fieldAddr (.d tDesc) 3 (.t 1), none, [], []⟩,
    ⟨some 146, .load (.d (.sl (.int .i64))) (.t 145), none, [], []⟩,
    ⟨some 147, .len (.t 146), none, [], []⟩,
    ⟨some 148, .bin .lss (.t 144) (.t 147), none, [], []⟩]) (innkeepref06_May.c86)) (innkeepref06_May.c85)) (innkeepref06_May.c84)) (innkeepref06_May.c83)
def innkeepref06_May.c81 : Cd := .block 8 (.loop (innkeepref06_May.c82))
def innkeepref06_May.c96 : Cd := .ret
def innkeepref06_May.c80 : Cd := .seq (.reg false [⟨some 2, .move (.c .bool true), none, [], []⟩]) (innkeepref06_May.c96)
def innkeepref06_May.c64 : Cd := .seq (.seq (.reg false [⟨some 9, .move (.c (.int .i64) (0 : Int)), none, [], []⟩]) (innkeepref06_May.c81)) (innkeepref06_May.c80)
def innkeepref06_May.c15 : Cd := .seq (.seq (.reg false [⟨some 8, .move (.c (.int .i64) (0 : Int)), none, [], []⟩]) (innkeepref06_May.c65)) (innkeepref06_May.c64)
def innkeepref06_May.c9 : Cd := .seq (.seq (.reg false [⟨some 4, .move (.c (.int .i64) (0 : Int)), none, [], []⟩]) (innkeepref06_May.c16)) (innkeepref06_May.c15)
def innkeepref06_May.c3 : Cd := .seq (.seq (.seq (.reg false [⟨some 55, .fieldAddr (.d tDesc) 5 (.t 1), none, [], []⟩,
    ⟨some 56, .load (.d (.int .i64)) (.t 55), none, [], []⟩,
    ⟨some 57, .call (.f 43) [(.t 56), (.c (.int .i64) (65 : Int))] [.d .bool] [] false, none, [], []⟩,
    ⟨some 58, .not (.t 57), none, [], []⟩,
    ⟨some 59, .move (.t 58), none, [], []⟩,
    ⟨some 60, .fieldAddr (.d tDesc) 6 (.t 1), some (59, false), [], []⟩,
    ⟨some 61, .load (.d (.int .i64)) (.t 60), some (59, false), [], []⟩,
    ⟨some 62, .call (.f 43) [(.t 61), (.c (.int .i64) (65 : Int))] [.d .bool] [] false, some (59, false), [], []⟩,
    ⟨some 63, .not (.t 62), some (59, false), [], []⟩,
    ⟨some 64, .pick (.t 59) (.c .bool true) (.t 63), none, [], []⟩,
    ⟨some 65, .move (.t 64), none, [], []⟩,
    ⟨some 66, .fieldAddr (.d tDesc) 7 (.t 1), some (65, false), [], []⟩,
    ⟨some 67, .load (.d (.int .i64)) (.t 66), some (65, false), [], []⟩,
    ⟨some 68, .call (.f 43) [(.t 67), (.c (.int .i64) (65 : Int))] [.d .bool] [] false, some (65, false), [], []⟩,
    ⟨some 69, .not (.t 68), some (65, false), [], []⟩,
    ⟨some 70, .pick (.t 65) (.c .bool true) (.t 69), none, [], []⟩]) (innkeepref06_May.c11)) (innkeepref06_May.c10)) (innkeepref06_May.c9)
def innkeepref06_May.c1 : Cd := .seq (.seq (.seq (.reg false [⟨some 13, .move (.t 3), none, [], []⟩,
    ⟨some 14, .bin .lss (.t 13) (.c (.int .i64) (1 : Int)), none, [], []⟩,
    ⟨some 15, .move (.t 14), none, [], []⟩,
    ⟨some 16, .move (.t 3), some (15, false), [], []⟩,
    ⟨some 17, .bin .gtr (.t 16) (.c (.int .i64) (8 : Int)), some (15, false), [], []⟩,
    ⟨some 18, .pick (.t 15) (.c .bool true) (.t 17), none, [], []⟩,
    ⟨some 19, .move (.t 18), none, [], []⟩,
    ⟨some 20, .fieldAddr (.d tDesc) 1 (.t 1), some (19, false), [], []⟩,
    ⟨some 21, .load (.d (.sl (.int .i64))) (.t 20), some (19, false), [], []⟩,
    ⟨some 22, .len (.t 21), some (19, false), [], []⟩,
    ⟨some 23, .bin .lss (.t 22) (.c (.int .i64) (1 : Int)), some (19, false), [], []⟩,
    ⟨some 24, .pick (.t 19) (.c .bool true) (.t 23), none, [], []⟩,
    ⟨some 25, .move (.t 24), none, [], []⟩,
    ⟨some 26, .fieldAddr (.d tDesc) 1 (.t 1), some (25, false), [], []⟩,
    ⟨some 27, .load (.d (.sl (.int .i64))) (.t 26), some (25, false), [], []⟩,
    ⟨some 28, .len (.t 27), some (25, false), [], []⟩,
    ⟨some 29, .bin .gtr (.t 28) (.c (.int .i64) (6 : Int)), some (25, false), [], []⟩,
    ⟨some 30, .pick (.t 25) (.c .bool true) (.t 29), none, [], []⟩,
    ⟨some 31, .move (.t 30), none, [], []⟩,
    ⟨some 32, .fieldAddr (.d tDesc) 2 (.t 1), some (31, false), [], []⟩,
    ⟨some 33, .load (.d (.sl (.int .i64))) (.t 32), some (31, false), [], []⟩,
    ⟨some 34, .len (.t 33), some (31, false), [], []⟩,
    ⟨some 35, .fieldAddr (.d tDesc) 1 (.t 1), some (31, false), [], []⟩,
    ⟨some 36, .load (.d (.sl (.int .i64))) (.t 35), some (31, false), [], []⟩,
    ⟨some 37, .len (.t 36), some (31, false), [], []⟩,
    ⟨some 38, .bin .neq (.t 34) (.t 37), some (31, false), [], []⟩,
    ⟨some 39, .pick (.t 31) (.c .bool true) (.t 38), none, [], []⟩,
    ⟨some 40, .move (.t 39), none, [], []⟩,
    ⟨some 41, .fieldAddr (.d tDesc) 3 (.t 1), some (40, false), [], []⟩,
    ⟨some 42, .load (.d (.sl (.int .i64))) (.t 41), some (40, false), [], []⟩,
    ⟨some 43, .len (.t 42), some (40, false), [], []⟩,
    ⟨some 44, .bin .gtr (.t 43) (.c (.int .i64) (16 : Int)), some (40, false), [], []⟩,
    ⟨some 45, .pick (.t 40) (.c .bool true) (.t 44), none, [], []⟩,
    ⟨some 46, .move (.t 45), none, [], []⟩,
    ⟨some 47, .fieldAddr (.d tDesc) 4 (.t 1), some (46, false), [], []⟩,
    ⟨some 48, .load (.d (.sl .bool)) (.t 47), some (46, false), [], []⟩,
    ⟨some 49, .len (.t 48), some (46, false), [], []⟩,
    ⟨some 50, .fieldAddr (.d tDesc) 3 (.t 1), some (46, false), [], []⟩,
    ⟨some 51, .load (.d (.sl (.int .i64))) (.t 50), some (46, false), [], []⟩,
    ⟨some 52, .len (.t 51), some (46, false), [], []⟩,
    ⟨some 53, .bin .neq (.t 49) (.t 52), some (46, false), [], []⟩,
    ⟨some 54, .pick (.t 46) (.c .bool true) (.t 53), none, [], []⟩]) (innkeepref06_May.c5)) (innkeepref06_May.c4)) (innkeepref06_May.c3)
def innkeepref06_May.c0 : Cd := .seq (.seq (.reg false [⟨some 10, .fieldAddr (.d tDesc) 0 (.t 1), none, [], []⟩,
    ⟨some 11, .load (.d (.sl (.arr 4 (.int .i64)))) (.t 10), none, [], []⟩,
    ⟨some 12, .len (.t 11), none, [], []⟩,
    ⟨some 3, .move (.t 12), none, [], []⟩]) (innkeepref06_May.c2)) (innkeepref06_May.c1)
def innkeepref06_May.fn : Fn := ⟨1, [.tmp 2], .seq (.reg false [⟨some 1, .box 0 (.t 0), none, [], []⟩,
    ⟨some 2, .move (.c .bool false), none, [], []⟩]) (innkeepref06_May.c0)⟩
def innkeepref06_Depth.c7 : Cd := .tidy [6, 7] [] [] none
def innkeepref06_Depth.c8 : Cd := .skip
def innkeepref06_Depth.c18 : Cd := .exit 0
def innkeepref06_Depth.c6 : Cd := .cond (.t 8) (.seq (.tidy [8] [] [] none) (innkeepref06_Depth.c8)) (.seq (.tidy [8] [] [] none) (innkeepref06_Depth.c18))
def innkeepref06_Depth.c10 : Cd := .tidy [9, 10] [] [] none
def innkeepref06_Depth.c13 : Cd := .tidy [11] [] [] none
def innkeepref06_Depth.c15 : Cd := .ret
def innkeepref06_Depth.c14 : Cd := .seq (.reg false [⟨some 4, .move (.c (.int .i64) (99 : Int)), none, [], []⟩]) (innkeepref06_Depth.c15)
def innkeepref06_Depth.c16 : Cd := .skip
def innkeepref06_Depth.c12 : Cd := .cond (.t 12) (.seq (.tidy [12] [] [] none) (innkeepref06_Depth.c14)) (.seq (.tidy [12] [] [] none) (innkeepref06_Depth.c16))
def innkeepref06_Depth.c17 : Cd := .tidy [13, 14, 15, 16, 17, 18] [] [] none
def innkeepref06_Depth.c11 : Cd := .seq (.reg false [⟨some 13, .fieldAddr (.d tWorld) 3 (.t 2), none, [], []⟩,
    ⟨some 14, .load (.d (.sl tPlace)) (.t 13), none, [], []⟩,
    ⟨some 15, .fieldAddr (.d tPlace) 1 (.t 3), none, [], []⟩,
    ⟨some 16, .load (.d (.int .i64)) (.t 15), none, [], []⟩,
    ⟨some 17, .index (.sl tPlace) (.t 14) (.t 16), none, [], []⟩,
    ⟨some 18, .load (.d tPlace) (.t 17), none, [], []⟩,
    ⟨none, .store (.d tPlace) (.t 3) (.t 18), none, [], []⟩]) (innkeepref06_Depth.c17)
def innkeepref06_Depth.c9 : Cd := .seq (.seq (.seq (.reg false [⟨some 11, .move (.t 5), none, [], []⟩,
    ⟨some 12, .bin .gtr (.t 11) (.c (.int .i64) (50 : Int)), none, [], []⟩]) (innkeepref06_Depth.c13)) (innkeepref06_Depth.c12)) (innkeepref06_Depth.c11)
def innkeepref06_Depth.c5 : Cd := .block 1 (.seq (.seq (.reg false [⟨some 9, .move (.t 5), none, [], []⟩,
    ⟨some 10, .bin .add (.t 9) (.c (.int .i64) (1 : Int)), none, [], []⟩,
    ⟨some 5, .move (.t 10), none, [], []⟩]) (innkeepref06_Depth.c10)) (innkeepref06_Depth.c9))
def innkeepref06_Depth.c4 : Cd := .tidy [] [] [] (some 2)
def innkeepref06_Depth.c3 : Cd := .seq (.seq (.seq (.seq (.reg false [⟨some 6, .fieldAddr (.d tPlace) 0 (.t 3), none, [], []⟩,
    ⟨some 7, .load (.d (.int .i64)) (.t 6), none, [], []⟩,
    ⟨some 8, .bin .eql (.t 7) (.c (.int .i64) (2 : Int)), none, [], []⟩]) (innkeepref06_Depth.c7)) (innkeepref06_Depth.c6)) (innkeepref06_Depth.c5)) (innkeepref06_Depth.c4)
def innkeepref06_Depth.c20 : Cd := .tidy [19] [] [] none
def innkeepref06_Depth.c19 : Cd := .ret
def innkeepref06_Depth.c2 : Cd := .seq (.seq (.reg false [⟨some 19, .move (.t 5), none, [], []⟩,
    ⟨some 4, .move (.t 19), none, [], []⟩]) (innkeepref06_Depth.c20)) (innkeepref06_Depth.c19)
def innkeepref06_Depth.c1 : Cd := .seq (.block 0 (.loop (innkeepref06_Depth.c3))) (innkeepref06_Depth.c2)
def innkeepref06_Depth.c0 : Cd := .seq (.reg false [⟨some 5, .move (.c (.int .i64) (0 : Int)), none, [], []⟩]) (innkeepref06_Depth.c1)
def innkeepref06_Depth.fn : Fn := ⟨2, [.tmp 4], .seq (.reg false [⟨some 2, .box 0 (.t 0), none, [], []⟩,
    ⟨some 3, .box 1 (.t 1), none, [], []⟩,
    ⟨some 4, .move (.c (.int .i64) (0 : Int)), none, [], []⟩]) (innkeepref06_Depth.c0)⟩
def innkeepref06_Many.c8 : Cd := .tidy [7, 8, 9, 10] [] [] none
def innkeepref06_Many.c9 : Cd := .skip
def innkeepref06_Many.c17 : Cd := .exit 0
def innkeepref06_Many.c7 : Cd := .cond (.t 11) (.seq (.tidy [11] [] [] none) (innkeepref06_Many.c9)) (.seq (.tidy [11] [] [] none) (innkeepref06_Many.c17))
def innkeepref06_Many.c12 : Cd := .tidy [14, 15, 16, 17, 18, 19] [] [] none
def innkeepref06_Many.c14 : Cd := .tidy [21, 22] [] [] none
def innkeepref06_Many.c13 : Cd := .seq (.reg false [⟨some 21, .move (.t 5), none, [], []⟩,
    ⟨some 22, .bin .add (.t 21) (.c (.int .i64) (1 : Int)), none, [], []⟩,
    ⟨some 5, .move (.t 22), none, [], []⟩]) (innkeepref06_Many.c14)
def innkeepref06_Many.c16 : Cd := .skip
def innkeepref06_Many.c11 : Cd := .cond (.t 20) (.seq (.tidy [20] [] [] none) (innkeepref06_Many.c13)) (.seq (.tidy [20] [] [] none) (innkeepref06_Many.c16))
def innkeepref06_Many.c15 : Cd := .tidy [12, 13] [] [] none
def innkeepref06_Many.c10 : Cd := .seq (.reg false [⟨some 12, .move (.t 6), none, [], []⟩,
    ⟨some 13, .bin .add (.t 12) (.c (.int .i64) (1 : Int)), none, [], []⟩,
    ⟨some 6, .move (.t 13), none, [], []⟩]) (innkeepref06_Many.c15)
def innkeepref06_Many.c6 : Cd := .seq (.block 1 (.seq (.seq (.reg true [⟨some 14, .fieldAddr (.d tWorld) 3 (.t 2), none, [0], []⟩,
    ⟨some 15, .load (.d (.sl tPlace)) (.t 14), none, [0], []⟩,
    ⟨some 16, .move (.t 6), none, [], []⟩,
    ⟨some 17, .index (.sl tPlace) (.t 15) (.t 16), none, [], []⟩,
    ⟨some 18, .load (.d tPlace) (.t 17), none, [], []⟩,
    ⟨some 19, .load (.d tPlace) (.t 3), none, [1], []⟩,
    ⟨some 20, .eqs tPlace false (.t 18) (.t 19), none, [], []⟩]) (innkeepref06_Many.c12)) (innkeepref06_Many.c11))) (innkeepref06_Many.c10)
def innkeepref06_Many.c5 : Cd := .tidy [] [] [] (some 2)
def innkeepref06_Many.c4 : Cd := .seq (.seq (.seq (.seq (.reg false [⟨some 7, .move (.t 6), none, [], []⟩,
    ⟨some 8, .fieldAddr (.d tWorld) 3 (.t 2), none, [], []⟩,
    ⟨some 9, .load (.d (.sl tPlace)) (.t 8), none, [], []⟩,
    ⟨some 10, .len (.t 9), none, [], []⟩,
    ⟨some 11, .bin .lss (.t 7) (.t 10), none, [], []⟩]) (innkeepref06_Many.c8)) (innkeepref06_Many.c7)) (innkeepref06_Many.c6)) (innkeepref06_Many.c5)
def innkeepref06_Many.c3 : Cd := .block 0 (.loop (innkeepref06_Many.c4))
def innkeepref06_Many.c19 : Cd := .tidy [23] [] [] none
def innkeepref06_Many.c18 : Cd := .ret
def innkeepref06_Many.c2 : Cd := .seq (.seq (.reg false [⟨some 23, .move (.t 5), none, [], []⟩,
    ⟨some 4, .move (.t 23), none, [], []⟩]) (innkeepref06_Many.c19)) (innkeepref06_Many.c18)
def innkeepref06_Many.c1 : Cd := .seq (.seq (.reg false [⟨some 6, .move (.c (.int .i64) (0 : Int)), none, [], []⟩]) (innkeepref06_Many.c3)) (innkeepref06_Many.c2)
def innkeepref06_Many.c0 : Cd := .seq (.reg false [⟨some 5, .move (.c (.int .i64) (0 : Int)), none, [], []⟩]) (innkeepref06_Many.c1)
def innkeepref06_Many.fn : Fn := ⟨2, [.tmp 4], .seq (.reg false [⟨some 2, .box 0 (.t 0), none, [], []⟩,
    ⟨some 3, .box 1 (.t 1), none, [], []⟩,
    ⟨some 4, .move (.c (.int .i64) (0 : Int)), none, [], []⟩]) (innkeepref06_Many.c0)⟩
def innkeepref06_Cap.c2 : Cd := .tidy [5, 6, 7, 8, 9, 10, 11, 12, 13, 14, 15, 16, 17, 18] [] [] none
def innkeepref06_Cap.c1 : Cd := .ret
def innkeepref06_Cap.c0 : Cd := .seq (.seq (.reg false [⟨some 5, .fieldAddr (.d tWorld) 0 (.t 2), none, [], []⟩,
    ⟨some 6, .fieldAddr (.d tDesc) 5 (.t 5), none, [], []⟩,
    ⟨some 7, .load (.d (.int .i64)) (.t 6), none, [], []⟩,
    ⟨some 8, .fieldAddr (.d tWorld) 0 (.t 2), none, [], []⟩,
    ⟨some 9, .fieldAddr (.d tDesc) 6 (.t 8), none, [], []⟩,
    ⟨some 10, .load (.d (.int .i64)) (.t 9), none, [], []⟩,
    ⟨some 11, .fieldAddr (.d tWorld) 0 (.t 2), none, [], []⟩,
    ⟨some 12, .fieldAddr (.d tDesc) 7 (.t 11), none, [], []⟩,
    ⟨some 13, .load (.d (.int .i64)) (.t 12), none, [], []⟩,
    ⟨some 14, .slice 2 (.int .i64) [(.t 7), (.t 10), (.t 13)], none, [], []⟩,
    ⟨some 15, .fieldAddr (.d tPlace) 0 (.t 3), none, [], []⟩,
    ⟨some 16, .load (.d (.int .i64)) (.t 15), none, [], []⟩,
    ⟨some 17, .index (.sl (.int .i64)) (.t 14) (.t 16), none, [], []⟩,
    ⟨some 18, .load (.d (.int .i64)) (.t 17), none, [], []⟩,
    ⟨some 4, .move (.t 18), none, [], []⟩]) (innkeepref06_Cap.c2)) (innkeepref06_Cap.c1)
def innkeepref06_Cap.fn : Fn := ⟨2, [.tmp 4], .seq (.reg false [⟨some 2, .box 0 (.t 0), none, [], []⟩,
    ⟨some 3, .box 1 (.t 1), none, [], []⟩,
    ⟨some 4, .move (.c (.int .i64) (0 : Int)), none, [], []⟩]) (innkeepref06_Cap.c0)⟩
def innkeepref06_Right.c2 : Cd := .tidy [9, 10] [] [] none
def innkeepref06_Right.c5 : Cd := .tidy [11, 12, 13, 14, 15, 16, 17, 18, 19, 20, 21, 22, 23, 24, 25, 26, 27, 28, 29, 30, 31, 32, 33, 34, 35, 36, 37, 38, 39] [] [] none
def innkeepref06_Right.c7 : Cd := .ret
def innkeepref06_Right.c6 : Cd := .seq (.reg false [⟨some 2, .move (.c .bool false), none, [], []⟩]) (innkeepref06_Right.c7)
def innkeepref06_Right.c8 : Cd := .skip
def innkeepref06_Right.c4 : Cd := .cond (.t 40) (.seq (.tidy [40] [] [] none) (innkeepref06_Right.c6)) (.seq (.tidy [40] [] [] none) (innkeepref06_Right.c8))
def innkeepref06_Right.c15 : Cd := .tidy [41, 42, 43, 44] [] [] none
def innkeepref06_Right.c16 : Cd := .skip
def innkeepref06_Right.c24 : Cd := .exit 0
def innkeepref06_Right.c14 : Cd := .cond (.t 45) (.seq (.tidy [45] [] [] none) (innkeepref06_Right.c16)) (.seq (.tidy [45] [] [] none) (innkeepref06_Right.c24))
def innkeepref06_Right.c19 : Cd := .tidy [48, 49, 50, 51, 52, 53, 54, 55, 56, 57, 58, 59, 60, 61, 62, 63, 64, 65] [] [] none
def innkeepref06_Right.c21 : Cd := .ret
def innkeepref06_Right.c20 : Cd := .seq (.reg false [⟨some 2, .move (.c .bool false), none, [], []⟩]) (innkeepref06_Right.c21)
def innkeepref06_Right.c22 : Cd := .skip
def innkeepref06_Right.c18 : Cd := .cond (.t 66) (.seq (.tidy [66] [] [] none) (innkeepref06_Right.c20)) (.seq (.tidy [66] [] [] none) (innkeepref06_Right.c22))
def innkeepref06_Right.c23 : Cd := .tidy [46, 47] [] [] none
def innkeepref06_Right.c17 : Cd := .seq (.reg false [⟨some 46, .move (.t 4), none, [], []⟩,
    ⟨some 47, .bin .add (.t 46) (.c (.int .i64) (1 : Int)), none, [], []⟩,
    ⟨some 4, .move (.t 47), none, [], []⟩]) (innkeepref06_Right.c23)
def innkeepref06_Right.c13 : Cd := .seq (.block 1 (.seq (.seq (.reg true [⟨some 48, .fieldAddr (.d tWorld) 1 (.t 1), none, [0], []⟩,
    ⟨some 49, .load (.d (.sl (.int .i64))) (.t 48), none, [0], []⟩,
    ⟨some 50, .move (.t 4), none, [], []⟩,
    ⟨some 51, .index (.sl (.int .i64)) (.t 49) (.t 50), none, [], []⟩,
    ⟨some 52, .load (.d (.int .i64)) (.t 51), none, [], []⟩,
    ⟨some 53, .fieldAddr (.d tDesc) 0 (.t 3), none, [1], []⟩,
    ⟨some 54, .load (.d (.sl (.arr 4 (.int .i64)))) (.t 53), none, [1], []⟩,
    ⟨some 55, .len (.t 54), none, [], []⟩,
    ⟨some 56, .call (.f 43) [(.t 52), (.t 55)] [.d .bool] [] false, none, [], []⟩,
    ⟨some 57, .not (.t 56), none, [], []⟩,
    ⟨some 58, .move (.t 57), none, [], []⟩,
    ⟨some 59, .fieldAddr (.d tWorld) 2 (.t 1), some (58, false), [0], []⟩,
    ⟨some 60, .load (.d (.sl (.int .i64))) (.t 59), some (58, false), [0], []⟩,
    ⟨some 61, .move (.t 4), some (58, false), [], []⟩,
    ⟨some 62, .index (.sl (.int .i64)) (.t 60) (.t 61), some (58, false), [], []⟩,
    ⟨some 63, .load (.d (.int .i64)) (.t 62), some (58, false), [], []⟩,
    ⟨some 64, .call (.f 44) [(.t 63)] [.d .bool] [] false, some (58, false), [], []⟩,
    ⟨some 65, .not (.t 64), some (58, false), [], []⟩,
    ⟨some 66, .pick (.t 58) (.c .bool true) (.t 65), none, [], []⟩]) (innkeepref06_Right.c19)) (innkeepref06_Right.c18))) (innkeepref06_Right.c17)
def innkeepref06_Right.c12 : Cd := .tidy [] [] [] (some 2)
def innkeepref06_Right.c11 : Cd := .seq (.seq (.seq (.seq (.reg false [⟨some 41, .move (.t 4), none, [], []⟩,
    ⟨some 42, .fieldAddr (.d tWorld) 1 (.t 1), none, [], []⟩,
    ⟨some 43, .load (.d (.sl (.int .i64))) (.t 42), none, [], []⟩,
    ⟨some 44, .len (.t 43), none, [], []⟩,
    ⟨some 45, .bin .lss (.t 41) (.t 44), none, [], []⟩]) (innkeepref06_Right.c15)) (innkeepref06_Right.c14)) (innkeepref06_Right.c13)) (innkeepref06_Right.c12)
def innkeepref06_Right.c10 : Cd := .block 0 (.loop (innkeepref06_Right.c11))
def innkeepref06_Right.c31 : Cd := .tidy [67, 68, 69, 70] [] [] none
def innkeepref06_Right.c32 : Cd := .skip
def innkeepref06_Right.c44 : Cd := .exit 2
def innkeepref06_Right.c30 : Cd := .cond (.t 71) (.seq (.tidy [71] [] [] none) (innkeepref06_Right.c32)) (.seq (.tidy [71] [] [] none) (innkeepref06_Right.c44))
def innkeepref06_Right.c35 : Cd := .tidy [74, 75, 76, 77, 78] [] [] none
def innkeepref06_Right.c37 : Cd := .tidy [79, 80, 81, 82, 83, 84, 85, 86, 87, 88, 89, 90, 91, 92, 93, 94, 95, 96, 97, 98, 99, 100, 101, 102, 103, 104, 105, 106, 107, 108, 109, 110, 111, 112, 113, 114, 115, 116, 117, 118, 119, 120, 121, 122, 123] [] [] none
def innkeepref06_Right.c39 : Cd := .tidy [124] [] [] none
def innkeepref06_Right.c43 : Cd := .ret
def innkeepref06_Right.c42 : Cd := .seq (.reg false [⟨some 2, .move (.c .bool false), none, [], []⟩]) (innkeepref06_Right.c43)
def innkeepref06_Right.c40 : Cd := .skip
def innkeepref06_Right.c38 : Cd := .cond (.t 125) (.seq (.tidy [125] [] [] none) (innkeepref06_Right.c42)) (.seq (.tidy [125] [] [] none) (innkeepref06_Right.c40))
def innkeepref06_Right.c36 : Cd := .seq (.seq (.reg false [⟨some 124, .move (.t 7), none, [], []⟩,
    ⟨some 125, .not (.t 124), none, [], []⟩]) (innkeepref06_Right.c39)) (innkeepref06_Right.c38)
def innkeepref06_Right.c34 : Cd := .seq (.seq (.reg false [⟨some 79, .fieldAddr (.d tPlace) 0 (.t 6), none, [], []⟩,
    ⟨some 80, .load (.d (.int .i64)) (.t 79), none, [], []⟩,
    ⟨some 81, .bin .eql (.t 80) (.c (.int .i64) (0 : Int)), none, [], []⟩,
    ⟨some 82, .move (.t 81), none, [], []⟩,
    ⟨some 83, .fieldAddr (.d tPlace) 1 (.t 6), some (82, true), [], []⟩,
    ⟨some 84, .load (.d (.int .i64)) (.t 83), some (82, true), [], []⟩,
    ⟨some 85, .fieldAddr (.d tDesc) 0 (.t 3), some (82, true), [], []⟩,
    ⟨some 86, .load (.d (.sl (.arr 4 (.int .i64)))) (.t 85), some (82, true), [], []⟩,
    ⟨some 87, .len (.t 86), some (82, true), [], []⟩,
    ⟨some 88, .call (.f 43) [(.t 84), (.t 87)] [.d .bool] [] false, some (82, true), [], []⟩,
    ⟨some 89, .pick (.t 82) (.t 88) (.c .bool false), none, [], []⟩,
    ⟨some 90, .move (.t 89), none, [], []⟩,
    ⟨some 91, .fieldAddr (.d tPlace) 0 (.t 6), some (90, false), [], []⟩,
    ⟨some 92, .load (.d (.int .i64)) (.t 91), some (90, false), [], []⟩,
    ⟨some 93, .bin .eql (.t 92) (.c (.int .i64) (1 : Int)), some (90, false), [], []⟩,
    ⟨some 94, .move (.t 93), some (90, false), [], []⟩,
    ⟨some 95, .fieldAddr (.d tPlace) 1 (.t 6), some (94, true), [], []⟩,
    ⟨some 96, .load (.d (.int .i64)) (.t 95), some (94, true), [], []⟩,
    ⟨some 97, .fieldAddr (.d tDesc) 1 (.t 3), some (94, true), [], []⟩,
    ⟨some 98, .load (.d (.sl (.int .i64))) (.t 97), some (94, true), [], []⟩,
    ⟨some 99, .len (.t 98), some (94, true), [], []⟩,
    ⟨some 100, .call (.f 43) [(.t 96), (.t 99)] [.d .bool] [] false, some (94, true), [], []⟩,
    ⟨some 101, .pick (.t 94) (.t 100) (.c .bool false), some (90, false), [], []⟩,
    ⟨some 102, .pick (.t 90) (.c .bool true) (.t 101), none, [], []⟩,
    ⟨some 103, .move (.t 102), none, [], []⟩,
    ⟨some 104, .fieldAddr (.d tPlace) 0 (.t 6), some (103, false), [], []⟩,
    ⟨some 105, .load (.d (.int .i64)) (.t 104), some (103, false), [], []⟩,
    ⟨some 106, .bin .eql (.t 105) (.c (.int .i64) (2 : Int)), some (103, false), [], []⟩,
    ⟨some 107, .move (.t 106), some (103, false), [], []⟩,
    ⟨some 108, .fieldAddr (.d tPlace) 1 (.t 6), some (107, true), [], []⟩,
    ⟨some 109, .load (.d (.int .i64)) (.t 108), some (107, true), [], []⟩,
    ⟨some 110, .fieldAddr (.d tDesc) 3 (.t 3), some (107, true), [], []⟩,
    ⟨some 111, .load (.d (.sl (.int .i64))) (.t 110), some (107, true), [], []⟩,
    ⟨some 112, .len (.t 111), some (107, true), [], []⟩,
    ⟨some 113, .call (.f 43) [(.t 109), (.t 112)] [.d .bool] [] false, some (107, true), [], []⟩,
    ⟨some 114, .pick (.t 107) (.t 113) (.c .bool false), some (103, false), [], []⟩,
    ⟨some 115, .move (.t 114), some (103, false), [], []⟩,
    ⟨some 116, .fieldAddr (.d tDesc) 4 (.t 3), some (115, true), [], []⟩,
    ⟨some 117, .load (.d (.sl .bool)) (.t 116), some (115, true), [], []⟩,
    ⟨some 118, .fieldAddr (.d tPlace) 1 (.t 6), some (115, true), [], []⟩,
    ⟨some 119, .load (.d (.int .i64)) (.t 118), some (115, true), [], []⟩,
    ⟨some 120, .index (.sl .bool) (.t 117) (.t 119), some (115, true), [], []⟩,
    ⟨some 121, .load (.d .bool) (.t 120), some (115, true), [], []⟩,
    ⟨some 122, .pick (.t 115) (.t 121) (.c .bool false), some (103, false), [], []⟩,
    ⟨some 123, .pick (.t 103) (.c .bool true) (.t 122), none, [], []⟩,
    ⟨some 7, .move (.t 123), none, [], []⟩]) (innkeepref06_Right.c37)) (innkeepref06_Right.c36)
def innkeepref06_Right.c41 : Cd := .tidy [72, 73] [] [] none
def innkeepref06_Right.c33 : Cd := .seq (.reg false [⟨some 72, .move (.t 5), none, [], []⟩,
    ⟨some 73, .bin .add (.t 72) (.c (.int .i64) (1 : Int)), none, [], []⟩,
    ⟨some 5, .move (.t 73), none, [], []⟩]) (innkeepref06_Right.c41)
def innkeepref06_Right.c29 : Cd := .seq (.block 3 (.seq (.seq (.reg false [⟨some 74, .fieldAddr (.d tWorld) 3 (.t 1), none, [], []⟩,
    ⟨some 75, .load (.d (.sl tPlace)) (.t 74), none, [], []⟩,
    ⟨some 76, .move (.t 5), none, [], []⟩,
    ⟨some 77, .index (.sl tPlace) (.t 75) (.t 76), none, [], []⟩,
    ⟨some 78, .load (.d tPlace) (.t 77), none, [], []⟩,
    ⟨some 6, .newbox 2 tPlace [], none, [], []⟩,
    ⟨none, .store (.d tPlace) (.t 6) (.t 78), none, [], []⟩]) (innkeepref06_Right.c35)) (innkeepref06_Right.c34))) (innkeepref06_Right.c33)
def innkeepref06_Right.c28 : Cd := .tidy [6, 7] [] [] (some 2)
def innkeepref06_Right.c27 : Cd := .seq (.seq (.seq (.seq (.reg false [⟨some 67, .move (.t 5), none, [], []⟩,
    ⟨some 68, .fieldAddr (.d tWorld) 3 (.t 1), none, [], []⟩,
    ⟨some 69, .load (.d (.sl tPlace)) (.t 68), none, [], []⟩,
    ⟨some 70, .len (.t 69), none, [], []⟩,
    ⟨some 71, .bin .lss (.t 67) (.t 70), none, [], []⟩]) (innkeepref06_Right.c31)) (innkeepref06_Right.c30)) (innkeepref06_Right.c29)) (innkeepref06_Right.c28)
def innkeepref06_Right.c26 : Cd := .block 2 (.loop (innkeepref06_Right.c27))
def innkeepref06_Right.c51 : Cd := .tidy [126, 127, 128, 129] [] [] none
def innkeepref06_Right.c52 : Cd := .skip
def innkeepref06_Right.c60 : Cd := .exit 4
def innkeepref06_Right.c50 : Cd := .cond (.t 130) (.seq (.tidy [130] [] [] none) (innkeepref06_Right.c52)) (.seq (.tidy [130] [] [] none) (innkeepref06_Right.c60))
def innkeepref06_Right.c55 : Cd := .tidy [133, 134, 135, 136, 137, 138, 139, 140, 141, 142, 143, 144, 145, 146, 147, 148, 149, 150, 151, 152, 153, 154, 155, 156] [] [] none
def innkeepref06_Right.c57 : Cd := .ret
def innkeepref06_Right.c56 : Cd := .seq (.reg false [⟨some 2, .move (.c .bool false), none, [], []⟩]) (innkeepref06_Right.c57)
def innkeepref06_Right.c58 : Cd := .skip
def innkeepref06_Right.c54 : Cd := .cond (.t 157) (.seq (.tidy [157] [] [] none) (innkeepref06_Right.c56)) (.seq (.tidy [157] [] [] none) (innkeepref06_Right.c58))
def innkeepref06_Right.c59 : Cd := .tidy [131, 132] [] [] none
def innkeepref06_Right.c53 : Cd := .seq (.reg false [⟨some 131, .move (.t 8), none, [], []⟩,
    ⟨some 132, .bin .add (.t 131) (.c (.int .i64) (1 : Int)), none, [], []⟩,
    ⟨some 8, .move (.t 132), none, [], []⟩]) (innkeepref06_Right.c59)
def innkeepref06_Right.c49 : Cd := .seq (.block 5 (.seq (.seq (.reg true [⟨some 133, .load (.d tWorld) (.t 1), none, [0], []⟩,
    ⟨some 134, .fieldAddr (.d tWorld) 3 (.t 1), none, [0], []⟩,
    ⟨some 135, .load (.d (.sl tPlace)) (.t 134), none, [0], []⟩,
    ⟨some 136, .move (.t 8), none, [], []⟩,
    ⟨some 137, .index (.sl tPlace) (.t 135) (.t 136), none, [], []⟩,
    ⟨some 138, .load (.d tPlace) (.t 137), none, [], []⟩,
    ⟨some 139, .call (.f 45) [(.t 133), (.t 138)] [.d (.int .i64)] [] false, none, [], []⟩,
    ⟨some 140, .bin .gtr (.t 139) (.c (.int .i64) (4 : Int)), none, [], []⟩,
    ⟨some 141, .move (.t 140), none, [], []⟩,
    ⟨some 142, .load (.d tWorld) (.t 1), some (141, false), [0], []⟩,
    ⟨some 143, .fieldAddr (.d tWorld) 3 (.t 1), some (141, false), [0], []⟩,
    ⟨some 144, .load (.d (.sl tPlace)) (.t 143), some (141, false), [0], []⟩,
    ⟨some 145, .move (.t 8), some (141, false), [], []⟩,
    ⟨some 146, .index (.sl tPlace) (.t 144) (.t 145), some (141, false), [], []⟩,
    ⟨some 147, .load (.d tPlace) (.t 146), some (141, false), [], []⟩,
    ⟨some 148, .call (.f 46) [(.t 142), (.t 147)] [.d (.int .i64)] [] false, some (141, false), [], []⟩,
    ⟨some 149, .load (.d tWorld) (.t 1), some (141, false), [0], []⟩,
    ⟨some 150, .fieldAddr (.d tWorld) 3 (.t 1), some (141, false), [0], []⟩,
    ⟨some 151, .load (.d (.sl tPlace)) (.t 150), some (141, false), [0], []⟩,
    ⟨some 152, .move (.t 8), some (141, false), [], []⟩,
    ⟨some 153, .index (.sl tPlace) (.t 151) (.t 152), some (141, false), [], []⟩,
    ⟨some 154, .load (.d tPlace) (.t 153), some (141, false), [], []⟩,
    ⟨some 155, .call (.f 47) [(.t 149), (.t 154)] [.d (.int .i64)] [] false, some (141, false), [], []⟩,
    ⟨some 156, .bin .gtr (.t 148) (.t 155), some (141, false), [], []⟩,
    ⟨some 157, .pick (.t 141) (.c .bool true) (.t 156), none, [], []⟩]) (innkeepref06_Right.c55)) (innkeepref06_Right.c54))) (innkeepref06_Right.c53)
def innkeepref06_Right.c48 : Cd := .tidy [] [] [] (some 2)
def innkeepref06_Right.c47 : Cd := .seq (.seq (.seq (.seq (.reg false [⟨some 126, .move (.t 8), none, [], []⟩,
    ⟨some 127, .fieldAddr (.d tWorld) 3 (.t 1), none, [], []⟩,
    ⟨some 128, .load (.d (.sl tPlace)) (.t 127), none, [], []⟩,
    ⟨some 129, .len (.t 128), none, [], []⟩,
    ⟨some 130, .bin .lss (.t 126) (.t 129), none, [], []⟩]) (innkeepref06_Right.c51)) (innkeepref06_Right.c50)) (innkeepref06_Right.c49)) (innkeepref06_Right.c48)
def innkeepref06_Right.c46 : Cd := .block 4 (.loop (innkeepref06_Right.c47))
def innkeepref06_Right.c61 : Cd := .ret
def innkeepref06_Right.c45 : Cd := .seq (.reg false [⟨some 2, .move (.c .bool true), none, [], []⟩]) (innkeepref06_Right.c61)
def innkeepref06_Right.c25 : Cd := .seq (.seq (.reg false [⟨some 8, .move (.c (.int .i64) (0 : Int)), none, [], []⟩]) (innkeepref06_Right.c46)) (innkeepref06_Right.c45)
def innkeepref06_Right.c9 : Cd := .seq (.seq (.reg false [⟨some 5, .move (.c (.int .i64) (0 : Int)), none, [], []⟩]) (innkeepref06_Right.c26)) (innkeepref06_Right.c25)
def innkeepref06_Right.c3 : Cd := .seq (.seq (.reg false [⟨some 4, .move (.c (.int .i64) (0 : Int)), none, [], []⟩]) (innkeepref06_Right.c10)) (innkeepref06_Right.c9)
def innkeepref06_Right.c1 : Cd := .seq (.seq (.seq (.reg false [⟨some 11, .load (.d tDesc) (.t 3), none, [], []⟩,
    ⟨some 12, .call (.f 42) [(.t 11)] [.d .bool] [] false, none, [], []⟩,
    ⟨some 13, .not (.t 12), none, [], []⟩,
    ⟨some 14, .move (.t 13), none, [], []⟩,
    ⟨some 15, .fieldAddr (.d tWorld) 1 (.t 1), some (14, false), [], []⟩,
    ⟨some 16, .load (.d (.sl (.int .i64))) (.t 15), some (14, false), [], []⟩,
    ⟨some 17, .len (.t 16), some (14, false), [], []⟩,
    ⟨some 18, .fieldAddr (.d tDesc) 1 (.t 3), some (14, false), [], []⟩,
    ⟨some 19, .load (.d (.sl (.int .i64))) (.t 18), some (14, false), [], []⟩,
    ⟨some 20, .len (.t 19), some (14, false), [], []⟩,
    ⟨some 21, .bin .neq (.t 17) (.t 20), some (14, false), [], []⟩,
    ⟨some 22, .pick (.t 14) (.c .bool true) (.t 21), none, [], []⟩,
    ⟨some 23, .move (.t 22), none, [], []⟩,
    ⟨some 24, .fieldAddr (.d tWorld) 2 (.t 1), some (23, false), [], []⟩,
    ⟨some 25, .load (.d (.sl (.int .i64))) (.t 24), some (23, false), [], []⟩,
    ⟨some 26, .len (.t 25), some (23, false), [], []⟩,
    ⟨some 27, .fieldAddr (.d tDesc) 1 (.t 3), some (23, false), [], []⟩,
    ⟨some 28, .load (.d (.sl (.int .i64))) (.t 27), some (23, false), [], []⟩,
    ⟨some 29, .len (.t 28), some (23, false), [], []⟩,
    ⟨some 30, .bin .neq (.t 26) (.t 29), some (23, false), [], []⟩,
    ⟨some 31, .pick (.t 23) (.c .bool true) (.t 30), none, [], []⟩,
    ⟨some 32, .move (.t 31), none, [], []⟩,
    ⟨some 33, .fieldAddr (.d tWorld) 3 (.t 1), some (32, false), [], []⟩,
    ⟨some 34, .load (.d (.sl tPlace)) (.t 33), some (32, false), [], []⟩,
    ⟨some 35, .len (.t 34), some (32, false), [], []⟩,
    ⟨some 36, .fieldAddr (.d tDesc) 3 (.t 3), some (32, false), [], []⟩,
    ⟨some 37, .load (.d (.sl (.int .i64))) (.t 36), some (32, false), [], []⟩,
    ⟨some 38, .len (.t 37), some (32, false), [], []⟩,
    ⟨some 39, .bin .neq (.t 35) (.t 38), some (32, false), [], []⟩,
    ⟨some 40, .pick (.t 32) (.c .bool true) (.t 39), none, [], []⟩]) (innkeepref06_Right.c5)) (innkeepref06_Right.c4)) (innkeepref06_Right.c3)
def innkeepref06_Right.c0 : Cd := .seq (.seq (.reg false [⟨some 9, .fieldAddr (.d tWorld) 0 (.t 1), none, [], []⟩,
    ⟨some 10, .load (.d tDesc) (.t 9), none, [], []⟩,
    ⟨some 3, .newbox 1 tDesc [], none, [], []⟩,
    ⟨none, .store (.d tDesc) (.t 3) (.t 10), none, [], []⟩]) (innkeepref06_Right.c2)) (innkeepref06_Right.c1)
def innkeepref06_Right.fn : Fn := ⟨1, [.tmp 2], .seq (.reg false [⟨some 1, .box 0 (.t 0), none, [], []⟩,
    ⟨some 2, .move (.c .bool false), none, [], []⟩]) (innkeepref06_Right.c0)⟩
def innkeeplaw11_fits.c2 : Cd := .tidy [3, 4, 5, 6, 7, 8] [] [] none
def innkeeplaw11_fits.c1 : Cd := .ret
def innkeeplaw11_fits.c0 : Cd := .seq (.seq (.reg false [⟨some 3, .load (.d tWorld) (.t 1), none, [], []⟩,
    ⟨some 4, .call (.f 23) [(.t 3)] [.d .bool] [] false, none, [], []⟩,
    ⟨some 5, .move (.t 4), none, [], []⟩,
    ⟨some 6, .load (.d tWorld) (.t 1), some (5, true), [], []⟩,
    ⟨some 7, .call (.f 17) [(.t 6)] [.d .bool] [] false, some (5, true), [], []⟩,
    ⟨some 8, .pick (.t 5) (.t 7) (.c .bool false), none, [], []⟩,
    ⟨some 2, .move (.t 8), none, [], []⟩]) (innkeeplaw11_fits.c2)) (innkeeplaw11_fits.c1)
def innkeeplaw11_fits.fn : Fn := ⟨1, [.tmp 2], .seq (.reg false [⟨some 1, .box 0 (.t 0), none, [], []⟩,
    ⟨some 2, .move (.c .bool false), none, [], []⟩]) (innkeeplaw11_fits.c0)⟩
def innkeepref03_Few.c2 : Cd := .tidy [3, 4, 5, 6, 7, 8, 9, 10, 11, 12] [] [] none
def innkeepref03_Few.c1 : Cd := .ret
def innkeepref03_Few.c0 : Cd := .seq (.seq (.reg false [⟨some 3, .fieldAddr (.d tCmd) 5 (.t 1), none, [], []⟩,
    ⟨some 4, .load (.d (.sl (.int .i64))) (.t 3), none, [], []⟩,
    ⟨some 5, .len (.t 4), none, [], []⟩,
    ⟨some 6, .bin .leq (.t 5) (.c (.int .i64) (40 : Int)), none, [], []⟩,
    ⟨some 7, .move (.t 6), none, [], []⟩,
    ⟨some 8, .fieldAddr (.d tCmd) 7 (.t 1), some (7, true), [], []⟩,
    ⟨some 9, .load (.d (.sl (.int .i64))) (.t 8), some (7, true), [], []⟩,
    ⟨some 10, .len (.t 9), some (7, true), [], []⟩,
    ⟨some 11, .bin .leq (.t 10) (.c (.int .i64) (40 : Int)), some (7, true), [], []⟩,
    ⟨some 12, .pick (.t 7) (.t 11) (.c .bool false), none, [], []⟩,
    ⟨some 2, .move (.t 12), none, [], []⟩]) (innkeepref03_Few.c2)) (innkeepref03_Few.c1)
def innkeepref03_Few.fn : Fn := ⟨1, [.tmp 2], .seq (.reg false [⟨some 1, .box 0 (.t 0), none, [], []⟩,
    ⟨some 2, .move (.c .bool false), none, [], []⟩]) (innkeepref03_Few.c0)⟩
def innkeepref03_fit.c3 : Cd := .tidy [5] [] [] none
def innkeepref03_fit.c6 : Cd := .tidy [7, 8] [] [] none
def innkeepref03_fit.c5 : Cd := .ret
def innkeepref03_fit.c4 : Cd := .seq (.seq (.reg false [⟨some 7, .move (.t 0), none, [], []⟩,
    ⟨some 8, .bin .eql (.t 7) (.c (.int .i64) (0 : Int)), none, [], []⟩,
    ⟨some 4, .move (.t 8), none, [], []⟩]) (innkeepref03_fit.c6)) (innkeepref03_fit.c5)
def innkeepref03_fit.c7 : Cd := .skip
def innkeepref03_fit.c2 : Cd := .cond (.t 6) (.seq (.tidy [6] [] [] none) (innkeepref03_fit.c4)) (.seq (.tidy [6] [] [] none) (innkeepref03_fit.c7))
def innkeepref03_fit.c9 : Cd := .tidy [9, 10, 11, 12, 13, 14] [] [] none
def innkeepref03_fit.c8 : Cd := .ret
def innkeepref03_fit.c1 : Cd := .seq (.seq (.reg false [⟨some 9, .move (.t 0), none, [], []⟩,
    ⟨some 10, .bin .geq (.t 9) (.c (.int .i64) (0 : Int)), none, [], []⟩,
    ⟨some 11, .move (.t 10), none, [], []⟩,
    ⟨some 12, .move (.t 0), some (11, true), [], []⟩,
    ⟨some 13, .bin .leq (.t 12) (.c (.int .i64) (1073741824 : Int)), some (11, true), [], []⟩,
    ⟨some 14, .pick (.t 11) (.t 13) (.c .bool false), none, [], []⟩,
    ⟨some 4, .move (.t 14), none, [], []⟩]) (innkeepref03_fit.c9)) (innkeepref03_fit.c8)
def innkeepref03_fit.c0 : Cd := .seq (.seq (.seq (.reg false [⟨some 5, .move (.t 1), none, [], []⟩,
    ⟨some 6, .not (.t 5), none, [], []⟩]) (innkeepref03_fit.c3)) (innkeepref03_fit.c2)) (innkeepref03_fit.c1)
def innkeepref03_fit.fn : Fn := ⟨2, [.tmp 4], .seq (.reg false [⟨some 4, .move (.c .bool false), none, [], []⟩]) (innkeepref03_fit.c0)⟩
def innkeepref03_row.c3 : Cd := .tidy [6] [] [] none
def innkeepref03_row.c6 : Cd := .tidy [8, 9, 10] [] [] none
def innkeepref03_row.c5 : Cd := .ret
def innkeepref03_row.c4 : Cd := .seq (.seq (.reg false [⟨some 8, .move (.t 0), none, [], []⟩,
    ⟨some 9, .len (.t 8), none, [], []⟩,
    ⟨some 10, .bin .eql (.t 9) (.c (.int .i64) (0 : Int)), none, [], []⟩,
    ⟨some 4, .move (.t 10), none, [], []⟩]) (innkeepref03_row.c6)) (innkeepref03_row.c5)
def innkeepref03_row.c7 : Cd := .skip
def innkeepref03_row.c2 : Cd := .cond (.t 7) (.seq (.tidy [7] [] [] none) (innkeepref03_row.c4)) (.seq (.tidy [7] [] [] none) (innkeepref03_row.c7))
def innkeepref03_row.c14 : Cd := .tidy [11, 12, 13] [] [] none
def innkeepref03_row.c15 : Cd := .skip
def innkeepref03_row.c23 : Cd := .exit 0
def innkeepref03_row.c13 : Cd := .cond (.t 14) (.seq (.tidy [14] [] [] none) (innkeepref03_row.c15)) (.seq (.tidy [14] [] [] none) (innkeepref03_row.c23))
def innkeepref03_row.c18 : Cd := .tidy [17, 18, 19, 20, 21] [] [] none
def innkeepref03_row.c20 : Cd := .ret
def innkeepref03_row.c19 : Cd := .seq (.reg false [⟨some 4, .move (.c .bool false), none, [], []⟩]) (innkeepref03_row.c20)
def innkeepref03_row.c21 : Cd := .skip
def innkeepref03_row.c17 : Cd := .cond (.t 22) (.seq (.tidy [22] [] [] none) (innkeepref03_row.c19)) (.seq (.tidy [22] [] [] none) (innkeepref03_row.c21))
def innkeepref03_row.c22 : Cd := .tidy [15, 16] [] [] none
def innkeepref03_row.c16 : Cd := .seq (.reg false [⟨some 15, .move (.t 5), none, [], []⟩,
    ⟨some 16, .bin .add (.t 15) (.c (.int .i64) (1 : Int)), none, [], []⟩,
    ⟨some 5, .move (.t 16), none, [], []⟩]) (innkeepref03_row.c22)
def innkeepref03_row.c12 : Cd := .seq (.block 1 (.seq (.seq (.reg false [⟨some 17, .move (.t 0), none, [], []⟩,
    ⟨some 18, .move (.t 5), none, [], []⟩,
    ⟨some 19, .index (.sl (.int .i64)) (.t 17) (.t 18), none, [], []⟩,
    ⟨some 20, .load (.d (.int .i64)) (.t 19), none, [], []⟩,
    ⟨some 21, .call (.f 24) [(.t 20), (.c .bool true)] [.d .bool] [] false, none, [], []⟩,
    ⟨some 22, .not (.t 21), none, [], []⟩]) (innkeepref03_row.c18)) (innkeepref03_row.c17))) (innkeepref03_row.c16)
def innkeepref03_row.c11 : Cd := .tidy [] [] [] (some 0)
def innkeepref03_row.c10 : Cd := .seq (.seq (.seq (.seq (.reg false [⟨some 11, .move (.t 5), none, [], []⟩,
    ⟨some 12, .move (.t 0), none, [], []⟩,
    ⟨some 13, .len (.t 12), none, [], []⟩,
    ⟨some 14, .bin .lss (.t 11) (.t 13), none, [], []⟩]) (innkeepref03_row.c14)) (innkeepref03_row.c13)) (innkeepref03_row.c12)) (innkeepref03_row.c11)
def innkeepref03_row.c9 : Cd := .block 0 (.loop (innkeepref03_row.c10))
def innkeepref03_row.c25 : Cd := .tidy [23, 24, 25] [] [] none
def innkeepref03_row.c24 : Cd := .ret
def innkeepref03_row.c8 : Cd := .seq (.seq (.reg false [⟨some 23, .move (.t 0), none, [], []⟩,
    ⟨some 24, .len (.t 23), none, [], []⟩,
    ⟨some 25, .bin .leq (.t 24) (.c (.int .i64) (16 : Int)), none, [], []⟩,
    ⟨some 4, .move (.t 25), none, [], []⟩]) (innkeepref03_row.c25)) (innkeepref03_row.c24)
def innkeepref03_row.c1 : Cd := .seq (.seq (.reg false [⟨some 5, .move (.c (.int .i64) (0 : Int)), none, [], []⟩]) (innkeepref03_row.c9)) (innkeepref03_row.c8)
def innkeepref03_row.c0 : Cd := .seq (.seq (.seq (.reg false [⟨some 6, .move (.t 1), none, [], []⟩,
    ⟨some 7, .not (.t 6), none, [], []⟩]) (innkeepref03_row.c3)) (innkeepref03_row.c2)) (innkeepref03_row.c1)
def innkeepref03_row.fn : Fn := ⟨2, [.tmp 4], .seq (.reg false [⟨some 4, .move (.c .bool false), none, [], []⟩]) (innkeepref03_row.c0)⟩
def innkeepref03_May.c2 : Cd := .tidy [4, 5] [] [] none
def innkeepref03_May.c5 : Cd := .tidy [6, 7, 8, 9, 10, 11, 12, 13, 14, 15, 16, 17, 18, 19, 20, 21, 22, 23, 24, 25, 26, 27, 28, 29] [] [] none
def innkeepref03_May.c7 : Cd := .ret
def innkeepref03_May.c6 : Cd := .seq (.reg false [⟨some 2, .move (.c .bool false), none, [], []⟩]) (innkeepref03_May.c7)
def innkeepref03_May.c8 : Cd := .skip
def innkeepref03_May.c4 : Cd := .cond (.t 30) (.seq (.tidy [30] [] [] none) (innkeepref03_May.c6)) (.seq (.tidy [30] [] [] none) (innkeepref03_May.c8))
def innkeepref03_May.c10 : Cd := .tidy [31, 32, 33, 34, 35, 36, 37, 38, 39, 40, 41, 42, 43, 44, 45, 46, 47, 48, 49, 50, 51, 52, 53, 54, 55, 56, 57, 58, 59, 60, 61, 62, 63, 64, 65, 66, 67, 68, 69, 70, 71, 72, 73, 74, 75, 76, 77, 78, 79, 80, 81, 82, 83, 84, 85, 86, 87, 88, 89, 90, 91, 92, 93] [] [] none
def innkeepref03_May.c9 : Cd := .ret
def innkeepref03_May.c3 : Cd := .seq (.seq (.reg false [⟨some 31, .fieldAddr (.d tCmd) 2 (.t 1), none, [], []⟩,
    ⟨some 32, .load (.d (.int .i64)) (.t 31), none, [], []⟩,
    ⟨some 33, .move (.t 3), none, [], []⟩,
    ⟨some 34, .bin .geq (.t 33) (.c (.int .i64) (3 : Int)), none, [], []⟩,
    ⟨some 35, .move (.t 34), none, [], []⟩,
    ⟨some 36, .move (.t 3), some (35, true), [], []⟩,
    ⟨some 37, .bin .leq (.t 36) (.c (.int .i64) (7 : Int)), some (35, true), [], []⟩,
    ⟨some 38, .pick (.t 35) (.t 37) (.c .bool false), none, [], []⟩,
    ⟨some 39, .call (.f 24) [(.t 32), (.t 38)] [.d .bool] [] false, none, [], []⟩,
    ⟨some 40, .move (.t 39), none, [], []⟩,
    ⟨some 41, .fieldAddr (.d tCmd) 3 (.t 1), some (40, true), [], []⟩,
    ⟨some 42, .load (.d (.int .i64)) (.t 41), some (40, true), [], []⟩,
    ⟨some 43, .move (.t 3), some (40, true), [], []⟩,
    ⟨some 44, .bin .eql (.t 43) (.c (.int .i64) (5 : Int)), some (40, true), [], []⟩,
    ⟨some 45, .move (.t 44), some (40, true), [], []⟩,
    ⟨some 46, .move (.t 3), some (45, false), [], []⟩,
    ⟨some 47, .bin .eql (.t 46) (.c (.int .i64) (6 : Int)), some (45, false), [], []⟩,
    ⟨some 48, .pick (.t 45) (.c .bool true) (.t 47), some (40, true), [], []⟩,
    ⟨some 49, .call (.f 24) [(.t 42), (.t 48)] [.d .bool] [] false, some (40, true), [], []⟩,
    ⟨some 50, .pick (.t 40) (.t 49) (.c .bool false), none, [], []⟩,
    ⟨some 51, .move (.t 50), none, [], []⟩,
    ⟨some 52, .fieldAddr (.d tCmd) 4 (.t 1), some (51, true), [], []⟩,
    ⟨some 53, .load (.d (.int .i64)) (.t 52), some (51, true), [], []⟩,
    ⟨some 54, .move (.t 3), some (51, true), [], []⟩,
    ⟨some 55, .bin .eql (.t 54) (.c (.int .i64) (2 : Int)), some (51, true), [], []⟩,
    ⟨some 56, .move (.t 55), some (51, true), [], []⟩,
    ⟨some 57, .move (.t 3), some (56, false), [], []⟩,
    ⟨some 58, .bin .eql (.t 57) (.c (.int .i64) (7 : Int)), some (56, false), [], []⟩,
    ⟨some 59, .pick (.t 56) (.c .bool true) (.t 58), some (51, true), [], []⟩,
    ⟨some 60, .move (.t 59), some (51, true), [], []⟩,
    ⟨some 61, .move (.t 3), some (60, false), [], []⟩,
    ⟨some 62, .bin .eql (.t 61) (.c (.int .i64) (8 : Int)), some (60, false), [], []⟩,
    ⟨some 63, .pick (.t 60) (.c .bool true) (.t 62), some (51, true), [], []⟩,
    ⟨some 64, .call (.f 24) [(.t 53), (.t 63)] [.d .bool] [] false, some (51, true), [], []⟩,
    ⟨some 65, .pick (.t 51) (.t 64) (.c .bool false), none, [], []⟩,
    ⟨some 66, .move (.t 65), none, [], []⟩,
    ⟨some 67, .fieldAddr (.d tCmd) 6 (.t 1), some (66, true), [], []⟩,
    ⟨some 68, .load (.d (.int .i64)) (.t 67), some (66, true), [], []⟩,
    ⟨some 69, .move (.t 3), some (66, true), [], []⟩,
    ⟨some 70, .bin .eql (.t 69) (.c (.int .i64) (8 : Int)), some (66, true), [], []⟩,
    ⟨some 71, .call (.f 24) [(.t 68), (.t 70)] [.d .bool] [] false, some (66, true), [], []⟩,
    ⟨some 72, .pick (.t 66) (.t 71) (.c .bool false), none, [], []⟩,
    ⟨some 73, .move (.t 72), none, [], []⟩,
    ⟨some 74, .fieldAddr (.d tCmd) 8 (.t 1), some (73, true), [], []⟩,
    ⟨some 75, .load (.d (.int .i64)) (.t 74), some (73, true), [], []⟩,
    ⟨some 76, .move (.t 3), some (73, true), [], []⟩,
    ⟨some 77, .bin .eql (.t 76) (.c (.int .i64) (8 : Int)), some (73, true), [], []⟩,
    ⟨some 78, .call (.f 24) [(.t 75), (.t 77)] [.d .bool] [] false, some (73, true), [], []⟩,
    ⟨some 79, .pick (.t 73) (.t 78) (.c .bool false), none, [], []⟩,
    ⟨some 80, .move (.t 79), none, [], []⟩,
    ⟨some 81, .fieldAddr (.d tCmd) 5 (.t 1), some (80, true), [], []⟩,
    ⟨some 82, .load (.d (.sl (.int .i64))) (.t 81), some (80, true), [], []⟩,
    ⟨some 83, .move (.t 3), some (80, true), [], []⟩,
    ⟨some 84, .bin .eql (.t 83) (.c (.int .i64) (8 : Int)), some (80, true), [], []⟩,
    ⟨some 85, .call (.f 25) [(.t 82), (.t 84)] [.d .bool] [] false, some (80, true), [], []⟩,
    ⟨some 86, .pick (.t 80) (.t 85) (.c .bool false), none, [], []⟩,
    ⟨some 87, .move (.t 86), none, [], []⟩,
    ⟨some 88, .fieldAddr (.d tCmd) 7 (.t 1), some (87, true), [], []⟩,
    ⟨some 89, .load (.d (.sl (.int .i64))) (.t 88), some (87, true), [], []⟩,
    ⟨some 90, .move (.t 3), some (87, true), [], []⟩,
    ⟨some 91, .bin .eql (.t 90) (.c (.int .i64) (8 : Int)), some (87, true), [], []⟩,
    ⟨some 92, .call (.f 25) [(.t 89), (.t 91)] [.d .bool] [] false, some (87, true), [], []⟩,
    ⟨some 93, .pick (.t 87) (.t 92) (.c .bool false), none, [], []⟩,
    ⟨some 2, .move (.t 93), none, [], []⟩]) (innkeepref03_May.c10)) (innkeepref03_May.c9)
def innkeepref03_May.c1 : Cd := .seq (.seq (.seq (.reg false [⟨some 6, .move (.t 3), none, [], []⟩,
    ⟨some 7, .bin .lss (.t 6) (.c (.int .i64) (1 : Int)), none, [], []⟩,
    ⟨some 8, .move (.t 7), none, [], []⟩,
    ⟨some 9, .move (.t 3), some (8, false), [], []⟩,
    ⟨some 10, .bin .gtr (.t 9) (.c (.int .i64) (10 : Int)), some (8, false), [], []⟩,
    ⟨some 11, .pick (.t 8) (.c .bool true) (.t 10), none, [], []⟩,
    ⟨some 12, .move (.t 11), none, [], []⟩,
    ⟨some 13, .fieldAddr (.d tCmd) 1 (.t 1), some (12, false), [], []⟩,
    ⟨some 14, .load (.d (.int .i64)) (.t 13), some (12, false), [], []⟩,
    ⟨some 15, .bin .lss (.t 14) (.c (.int .i64) (0 : Int)), some (12, false), [], []⟩,
    ⟨some 16, .pick (.t 12) (.c .bool true) (.t 15), none, [], []⟩,
    ⟨some 17, .move (.t 16), none, [], []⟩,
    ⟨some 18, .fieldAddr (.d tCmd) 1 (.t 1), some (17, false), [], []⟩,
    ⟨some 19, .load (.d (.int .i64)) (.t 18), some (17, false), [], []⟩,
    ⟨some 20, .bin .gtr (.t 19) (.c (.int .i64) (3 : Int)), some (17, false), [], []⟩,
    ⟨some 21, .pick (.t 17) (.c .bool true) (.t 20), none, [], []⟩,
    ⟨some 22, .move (.t 21), none, [], []⟩,
    ⟨some 23, .fieldAddr (.d tCmd) 1 (.t 1), some (22, false), [], []⟩,
    ⟨some 24, .load (.d (.int .i64)) (.t 23), some (22, false), [], []⟩,
    ⟨some 25, .bin .neq (.t 24) (.c (.int .i64) (0 : Int)), some (22, false), [], []⟩,
    ⟨some 26, .move (.t 25), some (22, false), [], []⟩,
    ⟨some 27, .move (.t 3), some (26, true), [], []⟩,
    ⟨some 28, .bin .gtr (.t 27) (.c (.int .i64) (2 : Int)), some (26, true), [], []⟩,
    ⟨some 29, .pick (.t 26) (.t 28) (.c .bool false), some (22, false), [], []⟩,
    ⟨some 30, .pick (.t 22) (.c .bool true) (.t 29), none, [], []⟩]) (innkeepref03_May.c5)) (innkeepref03_May.c4)) (innkeepref03_May.c3)
def innkeepref03_May.c0 : Cd := .seq (.seq (.reg false [⟨some 4, .fieldAddr (.d tCmd) 0 (.t 1), none, [], []⟩,
    ⟨some 5, .load (.d (.int .i64)) (.t 4), none, [], []⟩,
    ⟨some 3, .move (.t 5), none, [], []⟩]) (innkeepref03_May.c2)) (innkeepref03_May.c1)
def innkeepref03_May.fn : Fn := ⟨1, [.tmp 2], .seq (.reg false [⟨some 1, .box 0 (.t 0), none, [], []⟩,
    ⟨some 2, .move (.c .bool false), none, [], []⟩]) (innkeepref03_May.c0)⟩
def innkeepref07_Room.c2 : Cd := .tidy [5, 6, 7, 8, 9, 10, 11] [] [] none
def innkeepref07_Room.c1 : Cd := .ret
def innkeepref07_Room.c0 : Cd := .seq (.seq (.reg true [⟨some 5, .load (.d tWorld) (.t 2), none, [0], []⟩,
    ⟨some 6, .load (.d tPlace) (.t 3), none, [1], []⟩,
    ⟨some 7, .call (.f 47) [(.t 5), (.t 6)] [.d (.int .i64)] [] false, none, [], []⟩,
    ⟨some 8, .load (.d tWorld) (.t 2), none, [0], []⟩,
    ⟨some 9, .load (.d tPlace) (.t 3), none, [1], []⟩,
    ⟨some 10, .call (.f 46) [(.t 8), (.t 9)] [.d (.int .i64)] [] false, none, [], []⟩,
    ⟨some 11, .bin .sub (.t 7) (.t 10), none, [], []⟩,
    ⟨some 4, .move (.t 11), none, [], []⟩]) (innkeepref07_Room.c2)) (innkeepref07_Room.c1)
def innkeepref07_Room.fn : Fn := ⟨2, [.tmp 4], .seq (.reg false [⟨some 2, .box 0 (.t 0), none, [], []⟩,
    ⟨some 3, .box 1 (.t 1), none, [], []⟩,
    ⟨some 4, .move (.c (.int .i64) (0 : Int)), none, [], []⟩]) (innkeepref07_Room.c0)⟩
def innkeepref06_Copied.c2 : Cd := .tidy [3, 4, 5, 6, 7] [] [] none
def innkeepref06_Copied.c4 : Cd := .tidy [8, 9, 10, 11, 12] [] [] none
def innkeepref06_Copied.c6 : Cd := .tidy [13, 14, 15, 16, 17] [] [] none
def innkeepref06_Copied.c8 : Cd := .tidy [18] [] [] none
def innkeepref06_Copied.c7 : Cd := .ret
def innkeepref06_Copied.c5 : Cd := .seq (.seq (.reg false [⟨some 18, .load (.d tWorld) (.t 1), none, [], []⟩,
    ⟨none, .store (.d tWorld) (.t 2) (.t 18), none, [], []⟩]) (innkeepref06_Copied.c8)) (innkeepref06_Copied.c7)
def innkeepref06_Copied.c3 : Cd := .seq (.seq (.reg false [⟨some 13, .slice 6 tPlace [], none, [], []⟩,
    ⟨some 14, .fieldAddr (.d tWorld) 3 (.t 1), none, [], []⟩,
    ⟨some 15, .load (.d (.sl tPlace)) (.t 14), none, [], []⟩,
    ⟨some 16, .append 7 tPlace (.t 13) (.t 15), none, [], []⟩,
    ⟨some 17, .fieldAddr (.d tWorld) 3 (.t 1), none, [], []⟩,
    ⟨none, .store (.d (.sl tPlace)) (.t 17) (.t 16), none, [], []⟩]) (innkeepref06_Copied.c6)) (innkeepref06_Copied.c5)
def innkeepref06_Copied.c1 : Cd := .seq (.seq (.reg false [⟨some 8, .slice 4 (.int .i64) [], none, [], []⟩,
    ⟨some 9, .fieldAddr (.d tWorld) 2 (.t 1), none, [], []⟩,
    ⟨some 10, .load (.d (.sl (.int .i64))) (.t 9), none, [], []⟩,
    ⟨some 11, .append 5 (.int .i64) (.t 8) (.t 10), none, [], []⟩,
    ⟨some 12, .fieldAddr (.d tWorld) 2 (.t 1), none, [], []⟩,
    ⟨none, .store (.d (.sl (.int .i64))) (.t 12) (.t 11), none, [], []⟩]) (innkeepref06_Copied.c4)) (innkeepref06_Copied.c3)
def innkeepref06_Copied.c0 : Cd := .seq (.seq (.reg false [⟨some 3, .slice 2 (.int .i64) [], none, [], []⟩,
    ⟨some 4, .fieldAddr (.d tWorld) 1 (.t 1), none, [], []⟩,
    ⟨some 5, .load (.d (.sl (.int .i64))) (.t 4), none, [], []⟩,
    ⟨some 6, .append 3 (.int .i64) (.t 3) (.t 5), none, [], []⟩,
    ⟨some 7, .fieldAddr (.d tWorld) 1 (.t 1), none, [], []⟩,
    ⟨none, .store (.d (.sl (.int .i64))) (.t 7) (.t 6), none, [], []⟩]) (innkeepref06_Copied.c2)) (innkeepref06_Copied.c1)
def innkeepref06_Copied.fn : Fn := ⟨1, [.cell 2 (.d tWorld)], .seq (.reg false [⟨some 1, .box 0 (.t 0), none, [], []⟩,
    ⟨some 2, .newbox 1 tWorld [], none, [], []⟩]) (innkeepref06_Copied.c0)⟩
def innkeepref09_To.c2 : Cd := .tidy [8, 9] [] [] none
def innkeepref09_To.c4 : Cd := .tidy [10, 11, 12, 13, 14] [] [] none
def innkeepref09_To.c6 : Cd := .tidy [15] [] [] none
def innkeepref09_To.c5 : Cd := .ret
def innkeepref09_To.c3 : Cd := .seq (.seq (.reg false [⟨some 15, .load (.d tWorld) (.t 7), none, [], []⟩,
    ⟨none, .store (.d tWorld) (.t 6) (.t 15), none, [], []⟩]) (innkeepref09_To.c6)) (innkeepref09_To.c5)
def innkeepref09_To.c1 : Cd := .seq (.seq (.reg false [⟨some 10, .fieldAddr (.d tWorld) 3 (.t 7), none, [], []⟩,
    ⟨some 11, .load (.d (.sl tPlace)) (.t 10), none, [], []⟩,
    ⟨some 12, .move (.t 1), none, [], []⟩,
    ⟨some 13, .load (.d tPlace) (.t 5), none, [], []⟩,
    ⟨some 14, .index (.sl tPlace) (.t 11) (.t 12), none, [], []⟩,
    ⟨none, .store (.d tPlace) (.t 14) (.t 13), none, [], []⟩]) (innkeepref09_To.c4)) (innkeepref09_To.c3)
def innkeepref09_To.c0 : Cd := .seq (.seq (.reg false [⟨some 8, .load (.d tWorld) (.t 3), none, [], []⟩,
    ⟨some 9, .call (.f 18) [(.t 8)] [.d tWorld] [((0, [3]), 4)] false, none, [], []⟩,
    ⟨some 7, .newbox 3 tWorld [], none, [], []⟩,
    ⟨none, .store (.d tWorld) (.t 7) (.t 9), none, [], []⟩]) (innkeepref09_To.c2)) (innkeepref09_To.c1)
def innkeepref09_To.fn : Fn := ⟨3, [.cell 6 (.d tWorld)], .seq (.reg false [⟨some 3, .box 0 (.t 0), none, [], []⟩,
    ⟨some 5, .box 1 (.t 2), none, [], []⟩,
    ⟨some 6, .newbox 2 tWorld [], none, [], []⟩]) (innkeepref09_To.c0)⟩
def innkeepref11_Give.c3 : Cd := .tidy [10, 11, 12, 13, 14, 15, 16, 17, 18, 19, 20, 21, 22, 23, 24, 25, 26, 27, 28] [] [] none
def innkeepref11_Give.c6 : Cd := .tidy [30] [] [] none
def innkeepref11_Give.c5 : Cd := .ret
def innkeepref11_Give.c4 : Cd := .seq (.seq (.reg false [⟨some 30, .load (.d tWorld) (.t 4), none, [], []⟩,
    ⟨none, .store (.d tWorld) (.t 8) (.t 30), none, [], []⟩,
    ⟨some 9, .move (.c (.int .i64) (3 : Int)), none, [], []⟩]) (innkeepref11_Give.c6)) (innkeepref11_Give.c5)
def innkeepref11_Give.c7 : Cd := .skip
def innkeepref11_Give.c2 : Cd := .cond (.t 29) (.seq (.tidy [29] [] [] none) (innkeepref11_Give.c4)) (.seq (.tidy [29] [] [] none) (innkeepref11_Give.c7))
def innkeepref11_Give.c10 : Cd := .tidy [31, 32] [] [] none
def innkeepref11_Give.c13 : Cd := .tidy [34] [] [] none
def innkeepref11_Give.c12 : Cd := .ret
def innkeepref11_Give.c11 : Cd := .seq (.seq (.reg false [⟨some 34, .load (.d tWorld) (.t 4), none, [], []⟩,
    ⟨none, .store (.d tWorld) (.t 8) (.t 34), none, [], []⟩,
    ⟨some 9, .move (.c (.int .i64) (12 : Int)), none, [], []⟩]) (innkeepref11_Give.c13)) (innkeepref11_Give.c12)
def innkeepref11_Give.c14 : Cd := .skip
def innkeepref11_Give.c9 : Cd := .cond (.t 33) (.seq (.tidy [33] [] [] none) (innkeepref11_Give.c11)) (.seq (.tidy [33] [] [] none) (innkeepref11_Give.c14))
def innkeepref11_Give.c17 : Cd := .tidy [35, 36, 37, 38, 39, 40, 41, 42, 43, 44, 45, 46, 47, 48, 49, 50, 51, 52, 53, 54] [] [] none
def innkeepref11_Give.c20 : Cd := .tidy [56] [] [] none
def innkeepref11_Give.c19 : Cd := .ret
def innkeepref11_Give.c18 : Cd := .seq (.seq (.reg false [⟨some 56, .load (.d tWorld) (.t 4), none, [], []⟩,
    ⟨none, .store (.d tWorld) (.t 8) (.t 56), none, [], []⟩,
    ⟨some 9, .move (.c (.int .i64) (5 : Int)), none, [], []⟩]) (innkeepref11_Give.c20)) (innkeepref11_Give.c19)
def innkeepref11_Give.c21 : Cd := .skip
def innkeepref11_Give.c16 : Cd := .cond (.t 55) (.seq (.tidy [55] [] [] none) (innkeepref11_Give.c18)) (.seq (.tidy [55] [] [] none) (innkeepref11_Give.c21))
def innkeepref11_Give.c24 : Cd := .tidy [57, 58, 59, 60] [] [] none
def innkeepref11_Give.c27 : Cd := .tidy [62] [] [] none
def innkeepref11_Give.c26 : Cd := .ret
def innkeepref11_Give.c25 : Cd := .seq (.seq (.reg false [⟨some 62, .load (.d tWorld) (.t 4), none, [], []⟩,
    ⟨none, .store (.d tWorld) (.t 8) (.t 62), none, [], []⟩,
    ⟨some 9, .move (.c (.int .i64) (9 : Int)), none, [], []⟩]) (innkeepref11_Give.c27)) (innkeepref11_Give.c26)
def innkeepref11_Give.c28 : Cd := .skip
def innkeepref11_Give.c23 : Cd := .cond (.t 61) (.seq (.tidy [61] [] [] none) (innkeepref11_Give.c25)) (.seq (.tidy [61] [] [] none) (innkeepref11_Give.c28))
def innkeepref11_Give.c30 : Cd := .tidy [63, 64, 65, 66, 67] [] [] none
def innkeepref11_Give.c29 : Cd := .ret
def innkeepref11_Give.c22 : Cd := .seq (.seq (.reg false [⟨some 63, .load (.d tWorld) (.t 4), none, [], []⟩,
    ⟨some 64, .move (.t 2), none, [], []⟩,
    ⟨some 65, .move (.t 3), none, [], []⟩,
    ⟨some 66, .build tPlace [(0, (.c (.int .i64) (1 : Int))), (1, (.t 65))] [], none, [], []⟩,
    ⟨some 67, .call (.f 32) [(.t 63), (.t 64), (.t 66)] [.d tWorld] [] false, none, [], []⟩,
    ⟨none, .store (.d tWorld) (.t 8) (.t 67), none, [], []⟩,
    ⟨some 9, .move (.c (.int .i64) (0 : Int)), none, [], []⟩]) (innkeepref11_Give.c30)) (innkeepref11_Give.c29)
def innkeepref11_Give.c15 : Cd := .seq (.seq (.seq (.reg false [⟨some 57, .load (.d tWorld) (.t 4), none, [], []⟩,
    ⟨some 58, .move (.t 3), none, [], []⟩,
    ⟨some 59, .build tPlace [(0, (.c (.int .i64) (1 : Int))), (1, (.t 58))] [], none, [], []⟩,
    ⟨some 60, .call (.f 31) [(.t 57), (.t 59)] [.d (.int .i64)] [] false, none, [], []⟩,
    ⟨some 61, .bin .eql (.t 60) (.c (.int .i64) (0 : Int)), none, [], []⟩]) (innkeepref11_Give.c24)) (innkeepref11_Give.c23)) (innkeepref11_Give.c22)
def innkeepref11_Give.c8 : Cd := .seq (.seq (.seq (.reg true [⟨some 35, .fieldAddr (.d tWorld) 1 (.t 4), none, [0], []⟩,
    ⟨some 36, .load (.d (.sl (.int .i64))) (.t 35), none, [0], []⟩,
    ⟨some 37, .move (.t 1), none, [], []⟩,
    ⟨some 38, .index (.sl (.int .i64)) (.t 36) (.t 37), none, [], []⟩,
    ⟨some 39, .load (.d (.int .i64)) (.t 38), none, [], []⟩,
    ⟨some 40, .fieldAddr (.d tWorld) 1 (.t 4), none, [0], []⟩,
    ⟨some 41, .load (.d (.sl (.int .i64))) (.t 40), none, [0], []⟩,
    ⟨some 42, .move (.t 3), none, [], []⟩,
    ⟨some 43, .index (.sl (.int .i64)) (.t 41) (.t 42), none, [], []⟩,
    ⟨some 44, .load (.d (.int .i64)) (.t 43), none, [], []⟩,
    ⟨some 45, .bin .neq (.t 39) (.t 44), none, [], []⟩,
    ⟨some 46, .move (.t 45), none, [], []⟩,
    ⟨some 47, .fieldAddr (.d tWorld) 3 (.t 4), some (46, false), [0], []⟩,
    ⟨some 48, .load (.d (.sl tPlace)) (.t 47), some (46, false), [0], []⟩,
    ⟨some 49, .move (.t 2), some (46, false), [], []⟩,
    ⟨some 50, .index (.sl tPlace) (.t 48) (.t 49), some (46, false), [], []⟩,
    ⟨some 51, .load (.d tPlace) (.t 50), some (46, false), [], []⟩,
    ⟨some 52, .move (.t 1), some (46, false), [], []⟩,
    ⟨some 53, .build tPlace [(0, (.c (.int .i64) (1 : Int))), (1, (.t 52))] [], some (46, false), [], []⟩,
    ⟨some 54, .eqs tPlace true (.t 51) (.t 53), some (46, false), [], []⟩,
    ⟨some 55, .pick (.t 46) (.c .bool true) (.t 54), none, [], []⟩]) (innkeepref11_Give.c17)) (innkeepref11_Give.c16)) (innkeepref11_Give.c15)
def innkeepref11_Give.c1 : Cd := .seq (.seq (.seq (.reg false [⟨some 31, .move (.t 1), none, [], []⟩,
    ⟨some 32, .move (.t 3), none, [], []⟩,
    ⟨some 33, .bin .eql (.t 31) (.t 32), none, [], []⟩]) (innkeepref11_Give.c10)) (innkeepref11_Give.c9)) (innkeepref11_Give.c8)
def innkeepref11_Give.c0 : Cd := .seq (.seq (.seq (.reg false [⟨some 10, .move (.t 2), none, [], []⟩,
    ⟨some 11, .bin .lss (.t 10) (.c (.int .i64) (0 : Int)), none, [], []⟩,
    ⟨some 12, .move (.t 11), none, [], []⟩,
    ⟨some 13, .move (.t 2), some (12, false), [], []⟩,
    ⟨some 14, .fieldAddr (.d tWorld) 3 (.t 4), some (12, false), [], []⟩,
    ⟨some 15, .load (.d (.sl tPlace)) (.t 14), some (12, false), [], []⟩,
    ⟨some 16, .len (.t 15), some (12, false), [], []⟩,
    ⟨some 17, .bin .geq (.t 13) (.t 16), some (12, false), [], []⟩,
    ⟨some 18, .pick (.t 12) (.c .bool true) (.t 17), none, [], []⟩,
    ⟨some 19, .move (.t 18), none, [], []⟩,
    ⟨some 20, .move (.t 3), some (19, false), [], []⟩,
    ⟨some 21, .bin .lss (.t 20) (.c (.int .i64) (0 : Int)), some (19, false), [], []⟩,
    ⟨some 22, .pick (.t 19) (.c .bool true) (.t 21), none, [], []⟩,
    ⟨some 23, .move (.t 22), none, [], []⟩,
    ⟨some 24, .move (.t 3), some (23, false), [], []⟩,
    ⟨some 25, .fieldAddr (.d tWorld) 1 (.t 4), some (23, false), [], []⟩,
    ⟨some 26, .load (.d (.sl (.int .i64))) (.t 25), some (23, false), [], []⟩,
    ⟨some 27, .len (.t 26), some (23, false), [], []⟩,
    ⟨some 28, .bin .geq (.t 24) (.t 27), some (23, false), [], []⟩,
    ⟨some 29, .pick (.t 23) (.c .bool true) (.t 28), none, [], []⟩]) (innkeepref11_Give.c3)) (innkeepref11_Give.c2)) (innkeepref11_Give.c1)
def innkeepref11_Give.fn : Fn := ⟨4, [.cell 8 (.d tWorld), .tmp 9], .seq (.reg false [⟨some 4, .box 0 (.t 0), none, [], []⟩,
    ⟨some 8, .newbox 1 tWorld [], none, [], []⟩,
    ⟨some 9, .move (.c (.int .i64) (0 : Int)), none, [], []⟩]) (innkeepref11_Give.c0)⟩
def innkeepref01_Swap.c3 : Cd := .tidy [13, 14, 15, 16, 17] [] [] none
def innkeepref01_Swap.c6 : Cd := .tidy [19, 20] [] [] none
def innkeepref01_Swap.c5 : Cd := .ret
def innkeepref01_Swap.c4 : Cd := .seq (.seq (.reg false [⟨some 19, .move (.t 0), none, [], []⟩,
    ⟨some 20, .move (.t 1), none, [], []⟩,
    ⟨some 8, .move (.t 19), none, [], []⟩,
    ⟨some 9, .move (.t 20), none, [], []⟩,
    ⟨some 10, .move (.c (.int .i64) (1 : Int)), none, [], []⟩]) (innkeepref01_Swap.c6)) (innkeepref01_Swap.c5)
def innkeepref01_Swap.c7 : Cd := .skip
def innkeepref01_Swap.c2 : Cd := .cond (.t 18) (.seq (.tidy [18] [] [] none) (innkeepref01_Swap.c4)) (.seq (.tidy [18] [] [] none) (innkeepref01_Swap.c7))
def innkeepref01_Swap.c10 : Cd := .tidy [21, 22, 23, 24, 25, 26, 27] [] [] none
def innkeepref01_Swap.c13 : Cd := .tidy [29, 30] [] [] none
def innkeepref01_Swap.c12 : Cd := .ret
def innkeepref01_Swap.c11 : Cd := .seq (.seq (.reg false [⟨some 29, .move (.t 0), none, [], []⟩,
    ⟨some 30, .move (.t 1), none, [], []⟩,
    ⟨some 8, .move (.t 29), none, [], []⟩,
    ⟨some 9, .move (.t 30), none, [], []⟩,
    ⟨some 10, .move (.c (.int .i64) (10 : Int)), none, [], []⟩]) (innkeepref01_Swap.c13)) (innkeepref01_Swap.c12)
def innkeepref01_Swap.c14 : Cd := .skip
def innkeepref01_Swap.c9 : Cd := .cond (.t 28) (.seq (.tidy [28] [] [] none) (innkeepref01_Swap.c11)) (.seq (.tidy [28] [] [] none) (innkeepref01_Swap.c14))
def innkeepref01_Swap.c16 : Cd := .tidy [31, 32, 33, 34, 35] [] [] none
def innkeepref01_Swap.c18 : Cd := .tidy [36, 37, 38, 39, 40] [] [] none
def innkeepref01_Swap.c21 : Cd := .tidy [41, 42, 43, 44, 45, 46, 47] [] [] none
def innkeepref01_Swap.c24 : Cd := .tidy [49, 50] [] [] none
def innkeepref01_Swap.c23 : Cd := .ret
def innkeepref01_Swap.c22 : Cd := .seq (.seq (.reg false [⟨some 49, .move (.t 0), none, [], []⟩,
    ⟨some 50, .move (.t 1), none, [], []⟩,
    ⟨some 8, .move (.t 49), none, [], []⟩,
    ⟨some 9, .move (.t 50), none, [], []⟩,
    ⟨some 10, .move (.c (.int .i64) (11 : Int)), none, [], []⟩]) (innkeepref01_Swap.c24)) (innkeepref01_Swap.c23)
def innkeepref01_Swap.c25 : Cd := .skip
def innkeepref01_Swap.c20 : Cd := .cond (.t 48) (.seq (.tidy [48] [] [] none) (innkeepref01_Swap.c22)) (.seq (.tidy [48] [] [] none) (innkeepref01_Swap.c25))
def innkeepref01_Swap.c27 : Cd := .tidy [51, 52] [] [] none
def innkeepref01_Swap.c26 : Cd := .ret
def innkeepref01_Swap.c19 : Cd := .seq (.seq (.reg false [⟨some 51, .move (.t 11), none, [], []⟩,
    ⟨some 52, .move (.t 12), none, [], []⟩,
    ⟨some 8, .move (.t 51), none, [], []⟩,
    ⟨some 9, .move (.t 52), none, [], []⟩,
    ⟨some 10, .move (.c (.int .i64) (0 : Int)), none, [], []⟩]) (innkeepref01_Swap.c27)) (innkeepref01_Swap.c26)
def innkeepref01_Swap.c17 : Cd := .seq (.seq (.seq (.reg false [⟨some 41, .move (.t 11), none, [], []⟩,
    ⟨some 42, .call (.f 44) [(.t 41)] [.d .bool] [] false, none, [], []⟩,
    ⟨some 43, .not (.t 42), none, [], []⟩,
    ⟨some 44, .move (.t 43), none, [], []⟩,
    ⟨some 45, .move (.t 12), some (44, false), [], []⟩,
    ⟨some 46, .call (.f 44) [(.t 45)] [.d .bool] [] false, some (44, false), [], []⟩,
    ⟨some 47, .not (.t 46), some (44, false), [], []⟩,
    ⟨some 48, .pick (.t 44) (.c .bool true) (.t 47), none, [], []⟩]) (innkeepref01_Swap.c21)) (innkeepref01_Swap.c20)) (innkeepref01_Swap.c19)
def innkeepref01_Swap.c15 : Cd := .seq (.seq (.reg false [⟨some 36, .move (.t 1), none, [], []⟩,
    ⟨some 37, .move (.t 2), none, [], []⟩,
    ⟨some 38, .bin .add (.t 36) (.t 37), none, [], []⟩,
    ⟨some 39, .move (.t 3), none, [], []⟩,
    ⟨some 40, .bin .sub (.t 38) (.t 39), none, [], []⟩,
    ⟨some 12, .move (.t 40), none, [], []⟩]) (innkeepref01_Swap.c18)) (innkeepref01_Swap.c17)
def innkeepref01_Swap.c8 : Cd := .seq (.seq (.reg false [⟨some 31, .move (.t 0), none, [], []⟩,
    ⟨some 32, .move (.t 3), none, [], []⟩,
    ⟨some 33, .bin .add (.t 31) (.t 32), none, [], []⟩,
    ⟨some 34, .move (.t 2), none, [], []⟩,
    ⟨some 35, .bin .sub (.t 33) (.t 34), none, [], []⟩,
    ⟨some 11, .move (.t 35), none, [], []⟩]) (innkeepref01_Swap.c16)) (innkeepref01_Swap.c15)
def innkeepref01_Swap.c1 : Cd := .seq (.seq (.seq (.reg false [⟨some 21, .move (.t 0), none, [], []⟩,
    ⟨some 22, .move (.t 2), none, [], []⟩,
    ⟨some 23, .bin .lss (.t 21) (.t 22), none, [], []⟩,
    ⟨some 24, .move (.t 23), none, [], []⟩,
    ⟨some 25, .move (.t 1), some (24, false), [], []⟩,
    ⟨some 26, .move (.t 3), some (24, false), [], []⟩,
    ⟨some 27, .bin .lss (.t 25) (.t 26), some (24, false), [], []⟩,
    ⟨some 28, .pick (.t 24) (.c .bool true) (.t 27), none, [], []⟩]) (innkeepref01_Swap.c10)) (innkeepref01_Swap.c9)) (innkeepref01_Swap.c8)
def innkeepref01_Swap.c0 : Cd := .seq (.seq (.seq (.reg false [⟨some 13, .move (.t 2), none, [], []⟩,
    ⟨some 14, .bin .lss (.t 13) (.c (.int .i64) (0 : Int)), none, [], []⟩,
    ⟨some 15, .move (.t 14), none, [], []⟩,
    ⟨some 16, .move (.t 3), some (15, false), [], []⟩,
    ⟨some 17, .bin .lss (.t 16) (.c (.int .i64) (0 : Int)), some (15, false), [], []⟩,
    ⟨some 18, .pick (.t 15) (.c .bool true) (.t 17), none, [], []⟩]) (innkeepref01_Swap.c3)) (innkeepref01_Swap.c2)) (innkeepref01_Swap.c1)
def innkeepref01_Swap.fn : Fn := ⟨4, [.tmp 8, .tmp 9, .tmp 10], .seq (.reg false [⟨some 8, .move (.c (.int .i64) (0 : Int)), none, [], []⟩,
    ⟨some 9, .move (.c (.int .i64) (0 : Int)), none, [], []⟩,
    ⟨some 10, .move (.c (.int .i64) (0 : Int)), none, [], []⟩]) (innkeepref01_Swap.c0)⟩
def innkeepref11_Trade.c2 : Cd := .tidy [20, 21] [] [] none
def innkeepref11_Trade.c4 : Cd := .tidy [22, 23, 24, 25, 26, 27, 28] [] [] none
def innkeepref11_Trade.c7 : Cd := .tidy [29, 30, 31, 32, 33, 34, 35, 36] [] [] none
def innkeepref11_Trade.c10 : Cd := .tidy [38] [] [] none
def innkeepref11_Trade.c9 : Cd := .ret
def innkeepref11_Trade.c8 : Cd := .seq (.seq (.reg false [⟨some 38, .load (.d tWorld) (.t 3), none, [], []⟩,
    ⟨none, .store (.d tWorld) (.t 6) (.t 38), none, [], []⟩,
    ⟨some 7, .move (.c (.int .i64) (3 : Int)), none, [], []⟩]) (innkeepref11_Trade.c10)) (innkeepref11_Trade.c9)
def innkeepref11_Trade.c11 : Cd := .skip
def innkeepref11_Trade.c6 : Cd := .cond (.t 37) (.seq (.tidy [37] [] [] none) (innkeepref11_Trade.c8)) (.seq (.tidy [37] [] [] none) (innkeepref11_Trade.c11))
def innkeepref11_Trade.c18 : Cd := .tidy [39, 40, 41] [] [] none
def innkeepref11_Trade.c19 : Cd := .skip
def innkeepref11_Trade.c28 : Cd := .exit 0
def innkeepref11_Trade.c17 : Cd := .cond (.t 42) (.seq (.tidy [42] [] [] none) (innkeepref11_Trade.c19)) (.seq (.tidy [42] [] [] none) (innkeepref11_Trade.c28))
def innkeepref11_Trade.c22 : Cd := .tidy [45, 46, 47, 48, 49, 50, 51, 52, 53, 54, 55, 56, 57, 58] [] [] none
def innkeepref11_Trade.c25 : Cd := .tidy [60] [] [] none
def innkeepref11_Trade.c24 : Cd := .ret
def innkeepref11_Trade.c23 : Cd := .seq (.seq (.reg false [⟨some 60, .load (.d tWorld) (.t 3), none, [], []⟩,
    ⟨none, .store (.d tWorld) (.t 6) (.t 60), none, [], []⟩,
    ⟨some 7, .move (.c (.int .i64) (3 : Int)), none, [], []⟩]) (innkeepref11_Trade.c25)) (innkeepref11_Trade.c24)
def innkeepref11_Trade.c26 : Cd := .skip
def innkeepref11_Trade.c21 : Cd := .cond (.t 59) (.seq (.tidy [59] [] [] none) (innkeepref11_Trade.c23)) (.seq (.tidy [59] [] [] none) (innkeepref11_Trade.c26))
def innkeepref11_Trade.c27 : Cd := .tidy [43, 44] [] [] none
def innkeepref11_Trade.c20 : Cd := .seq (.reg false [⟨some 43, .move (.t 10), none, [], []⟩,
    ⟨some 44, .bin .add (.t 43) (.c (.int .i64) (1 : Int)), none, [], []⟩,
    ⟨some 10, .move (.t 44), none, [], []⟩]) (innkeepref11_Trade.c27)
def innkeepref11_Trade.c16 : Cd := .seq (.block 1 (.seq (.seq (.reg true [⟨some 45, .move (.t 9), none, [], []⟩,
    ⟨some 46, .move (.t 10), none, [], []⟩,
    ⟨some 47, .index (.sl (.int .i64)) (.t 45) (.t 46), none, [5], []⟩,
    ⟨some 48, .load (.d (.int .i64)) (.t 47), none, [5], []⟩,
    ⟨some 49, .bin .lss (.t 48) (.c (.int .i64) (0 : Int)), none, [], []⟩,
    ⟨some 50, .move (.t 49), none, [], []⟩,
    ⟨some 51, .move (.t 9), some (50, false), [], []⟩,
    ⟨some 52, .move (.t 10), some (50, false), [], []⟩,
    ⟨some 53, .index (.sl (.int .i64)) (.t 51) (.t 52), some (50, false), [5], []⟩,
    ⟨some 54, .load (.d (.int .i64)) (.t 53), some (50, false), [5], []⟩,
    ⟨some 55, .fieldAddr (.d tWorld) 3 (.t 3), some (50, false), [0], []⟩,
    ⟨some 56, .load (.d (.sl tPlace)) (.t 55), some (50, false), [0], []⟩,
    ⟨some 57, .len (.t 56), some (50, false), [], []⟩,
    ⟨some 58, .bin .geq (.t 54) (.t 57), some (50, false), [], []⟩,
    ⟨some 59, .pick (.t 50) (.c .bool true) (.t 58), none, [], []⟩]) (innkeepref11_Trade.c22)) (innkeepref11_Trade.c21))) (innkeepref11_Trade.c20)
def innkeepref11_Trade.c15 : Cd := .tidy [] [] [] (some 6)
def innkeepref11_Trade.c14 : Cd := .seq (.seq (.seq (.seq (.reg false [⟨some 39, .move (.t 10), none, [], []⟩,
    ⟨some 40, .move (.t 9), none, [], []⟩,
    ⟨some 41, .len (.t 40), none, [], []⟩,
    ⟨some 42, .bin .lss (.t 39) (.t 41), none, [], []⟩]) (innkeepref11_Trade.c18)) (innkeepref11_Trade.c17)) (innkeepref11_Trade.c16)) (innkeepref11_Trade.c15)
def innkeepref11_Trade.c13 : Cd := .block 0 (.loop (innkeepref11_Trade.c14))
def innkeepref11_Trade.c31 : Cd := .tidy [61, 62] [] [] none
def innkeepref11_Trade.c34 : Cd := .tidy [64] [] [] none
def innkeepref11_Trade.c33 : Cd := .ret
def innkeepref11_Trade.c32 : Cd := .seq (.seq (.reg false [⟨some 64, .load (.d tWorld) (.t 3), none, [], []⟩,
    ⟨none, .store (.d tWorld) (.t 6) (.t 64), none, [], []⟩,
    ⟨some 7, .move (.c (.int .i64) (12 : Int)), none, [], []⟩]) (innkeepref11_Trade.c34)) (innkeepref11_Trade.c33)
def innkeepref11_Trade.c35 : Cd := .skip
def innkeepref11_Trade.c30 : Cd := .cond (.t 63) (.seq (.tidy [63] [] [] none) (innkeepref11_Trade.c32)) (.seq (.tidy [63] [] [] none) (innkeepref11_Trade.c35))
def innkeepref11_Trade.c38 : Cd := .tidy [65, 66, 67, 68, 69, 70, 71, 72, 73, 74] [] [] none
def innkeepref11_Trade.c41 : Cd := .tidy [76] [] [] none
def innkeepref11_Trade.c40 : Cd := .ret
def innkeepref11_Trade.c39 : Cd := .seq (.seq (.reg false [⟨some 76, .load (.d tWorld) (.t 3), none, [], []⟩,
    ⟨none, .store (.d tWorld) (.t 6) (.t 76), none, [], []⟩,
    ⟨some 7, .move (.c (.int .i64) (5 : Int)), none, [], []⟩]) (innkeepref11_Trade.c41)) (innkeepref11_Trade.c40)
def innkeepref11_Trade.c42 : Cd := .skip
def innkeepref11_Trade.c37 : Cd := .cond (.t 75) (.seq (.tidy [75] [] [] none) (innkeepref11_Trade.c39)) (.seq (.tidy [75] [] [] none) (innkeepref11_Trade.c42))
def innkeepref11_Trade.c49 : Cd := .tidy [77, 78, 79] [] [] none
def innkeepref11_Trade.c50 : Cd := .skip
def innkeepref11_Trade.c69 : Cd := .exit 2
def innkeepref11_Trade.c48 : Cd := .cond (.t 80) (.seq (.tidy [80] [] [] none) (innkeepref11_Trade.c50)) (.seq (.tidy [80] [] [] none) (innkeepref11_Trade.c69))
def innkeepref11_Trade.c57 : Cd := .tidy [83, 84] [] [] none
def innkeepref11_Trade.c58 : Cd := .skip
def innkeepref11_Trade.c67 : Cd := .exit 4
def innkeepref11_Trade.c56 : Cd := .cond (.t 85) (.seq (.tidy [85] [] [] none) (innkeepref11_Trade.c58)) (.seq (.tidy [85] [] [] none) (innkeepref11_Trade.c67))
def innkeepref11_Trade.c61 : Cd := .tidy [88, 89, 90, 91, 92, 93, 94, 95] [] [] none
def innkeepref11_Trade.c64 : Cd := .tidy [97] [] [] none
def innkeepref11_Trade.c63 : Cd := .ret
def innkeepref11_Trade.c62 : Cd := .seq (.seq (.reg false [⟨some 97, .load (.d tWorld) (.t 3), none, [], []⟩,
    ⟨none, .store (.d tWorld) (.t 6) (.t 97), none, [], []⟩,
    ⟨some 7, .move (.c (.int .i64) (13 : Int)), none, [], []⟩]) (innkeepref11_Trade.c64)) (innkeepref11_Trade.c63)
def innkeepref11_Trade.c65 : Cd := .skip
def innkeepref11_Trade.c60 : Cd := .cond (.t 96) (.seq (.tidy [96] [] [] none) (innkeepref11_Trade.c62)) (.seq (.tidy [96] [] [] none) (innkeepref11_Trade.c65))
def innkeepref11_Trade.c66 : Cd := .tidy [86, 87] [] [] none
def innkeepref11_Trade.c59 : Cd := .seq (.reg false [⟨some 86, .move (.t 12), none, [], []⟩,
    ⟨some 87, .bin .add (.t 86) (.c (.int .i64) (1 : Int)), none, [], []⟩,
    ⟨some 12, .move (.t 87), none, [], []⟩]) (innkeepref11_Trade.c66)
def innkeepref11_Trade.c55 : Cd := .seq (.block 5 (.seq (.seq (.reg true [⟨some 88, .move (.t 9), none, [], []⟩,
    ⟨some 89, .move (.t 11), none, [], []⟩,
    ⟨some 90, .index (.sl (.int .i64)) (.t 88) (.t 89), none, [5], []⟩,
    ⟨some 91, .load (.d (.int .i64)) (.t 90), none, [5], []⟩,
    ⟨some 92, .move (.t 9), none, [], []⟩,
    ⟨some 93, .move (.t 12), none, [], []⟩,
    ⟨some 94, .index (.sl (.int .i64)) (.t 92) (.t 93), none, [5], []⟩,
    ⟨some 95, .load (.d (.int .i64)) (.t 94), none, [5], []⟩,
    ⟨some 96, .bin .eql (.t 91) (.t 95), none, [], []⟩]) (innkeepref11_Trade.c61)) (innkeepref11_Trade.c60))) (innkeepref11_Trade.c59)
def innkeepref11_Trade.c54 : Cd := .tidy [] [] [] (some 6)
def innkeepref11_Trade.c53 : Cd := .seq (.seq (.seq (.seq (.reg false [⟨some 83, .move (.t 12), none, [], []⟩,
    ⟨some 84, .move (.t 11), none, [], []⟩,
    ⟨some 85, .bin .lss (.t 83) (.t 84), none, [], []⟩]) (innkeepref11_Trade.c57)) (innkeepref11_Trade.c56)) (innkeepref11_Trade.c55)) (innkeepref11_Trade.c54)
def innkeepref11_Trade.c52 : Cd := .block 4 (.loop (innkeepref11_Trade.c53))
def innkeepref11_Trade.c68 : Cd := .tidy [81, 82] [] [] none
def innkeepref11_Trade.c51 : Cd := .seq (.reg false [⟨some 81, .move (.t 11), none, [], []⟩,
    ⟨some 82, .bin .add (.t 81) (.c (.int .i64) (1 : Int)), none, [], []⟩,
    ⟨some 11, .move (.t 82), none, [], []⟩]) (innkeepref11_Trade.c68)
def innkeepref11_Trade.c47 : Cd := .seq (.block 3 (.seq (.reg false [⟨some 12, .move (.c (.int .i64) (0 : Int)), none, [], []⟩]) (innkeepref11_Trade.c52))) (innkeepref11_Trade.c51)
def innkeepref11_Trade.c46 : Cd := .tidy [12] [] [] (some 6)
def innkeepref11_Trade.c45 : Cd := .seq (.seq (.seq (.seq (.reg false [⟨some 77, .move (.t 11), none, [], []⟩,
    ⟨some 78, .move (.t 9), none, [], []⟩,
    ⟨some 79, .len (.t 78), none, [], []⟩,
    ⟨some 80, .bin .lss (.t 77) (.t 79), none, [], []⟩]) (innkeepref11_Trade.c49)) (innkeepref11_Trade.c48)) (innkeepref11_Trade.c47)) (innkeepref11_Trade.c46)
def innkeepref11_Trade.c44 : Cd := .block 2 (.loop (innkeepref11_Trade.c45))
def innkeepref11_Trade.c71 : Cd := .tidy [98, 99] [] [] none
def innkeepref11_Trade.c78 : Cd := .tidy [100, 101, 102] [] [] none
def innkeepref11_Trade.c79 : Cd := .skip
def innkeepref11_Trade.c102 : Cd := .exit 6
def innkeepref11_Trade.c77 : Cd := .cond (.t 103) (.seq (.tidy [103] [] [] none) (innkeepref11_Trade.c79)) (.seq (.tidy [103] [] [] none) (innkeepref11_Trade.c102))
def innkeepref11_Trade.c82 : Cd := .tidy [106] [] [] none
def innkeepref11_Trade.c84 : Cd := .tidy [107] [] [] none
def innkeepref11_Trade.c87 : Cd := .tidy [108, 109, 110, 111] [] [] none
def innkeepref11_Trade.c90 : Cd := .tidy [113] [] [] none
def innkeepref11_Trade.c91 : Cd := .tidy [114] [] [] none
def innkeepref11_Trade.c89 : Cd := .seq (.reg false [⟨some 114, .move (.t 1), none, [], []⟩,
    ⟨some 16, .move (.t 114), none, [], []⟩]) (innkeepref11_Trade.c91)
def innkeepref11_Trade.c88 : Cd := .seq (.seq (.reg false [⟨some 113, .move (.t 8), none, [], []⟩,
    ⟨some 15, .move (.t 113), none, [], []⟩]) (innkeepref11_Trade.c90)) (innkeepref11_Trade.c89)
def innkeepref11_Trade.c101 : Cd := .skip
def innkeepref11_Trade.c86 : Cd := .cond (.t 112) (.seq (.tidy [112] [] [] none) (innkeepref11_Trade.c88)) (.seq (.tidy [112] [] [] none) (innkeepref11_Trade.c101))
def innkeepref11_Trade.c94 : Cd := .tidy [115, 116, 117, 118, 119, 120, 121, 122, 123, 124] [] [] none
def innkeepref11_Trade.c97 : Cd := .tidy [126] [] [] none
def innkeepref11_Trade.c96 : Cd := .ret
def innkeepref11_Trade.c95 : Cd := .seq (.seq (.reg false [⟨some 126, .load (.d tWorld) (.t 3), none, [], []⟩,
    ⟨none, .store (.d tWorld) (.t 6) (.t 126), none, [], []⟩,
    ⟨some 7, .move (.c (.int .i64) (5 : Int)), none, [], []⟩]) (innkeepref11_Trade.c97)) (innkeepref11_Trade.c96)
def innkeepref11_Trade.c98 : Cd := .skip
def innkeepref11_Trade.c93 : Cd := .cond (.t 125) (.seq (.tidy [125] [] [] none) (innkeepref11_Trade.c95)) (.seq (.tidy [125] [] [] none) (innkeepref11_Trade.c98))
def innkeepref11_Trade.c99 : Cd := .tidy [127, 128, 129, 130, 131, 132, 133, 134, 135] [] [] none
def innkeepref11_Trade.c92 : Cd := .seq (.reg true [⟨some 127, .fieldAddr (.d tWorld) 3 (.t 13), none, [6], []⟩,
    ⟨some 128, .load (.d (.sl tPlace)) (.t 127), none, [6], []⟩,
    ⟨some 129, .move (.t 9), none, [], []⟩,
    ⟨some 130, .move (.t 14), none, [], []⟩,
    ⟨some 131, .index (.sl (.int .i64)) (.t 129) (.t 130), none, [5], []⟩,
    ⟨some 132, .load (.d (.int .i64)) (.t 131), none, [5], []⟩,
    ⟨some 133, .move (.t 16), none, [], []⟩,
    ⟨some 134, .build tPlace [(0, (.c (.int .i64) (1 : Int))), (1, (.t 133))] [], none, [], []⟩,
    ⟨some 135, .index (.sl tPlace) (.t 128) (.t 132), none, [7], []⟩,
    ⟨none, .store (.d tPlace) (.t 135) (.t 134), none, [], [7]⟩]) (innkeepref11_Trade.c99)
def innkeepref11_Trade.c85 : Cd := .seq (.seq (.seq (.reg true [⟨some 115, .fieldAddr (.d tWorld) 3 (.t 3), none, [0], []⟩,
    ⟨some 116, .load (.d (.sl tPlace)) (.t 115), none, [0], []⟩,
    ⟨some 117, .move (.t 9), none, [], []⟩,
    ⟨some 118, .move (.t 14), none, [], []⟩,
    ⟨some 119, .index (.sl (.int .i64)) (.t 117) (.t 118), none, [5], []⟩,
    ⟨some 120, .load (.d (.int .i64)) (.t 119), none, [5], []⟩,
    ⟨some 121, .index (.sl tPlace) (.t 116) (.t 120), none, [], []⟩,
    ⟨some 122, .load (.d tPlace) (.t 121), none, [], []⟩,
    ⟨some 123, .move (.t 15), none, [], []⟩,
    ⟨some 124, .build tPlace [(0, (.c (.int .i64) (1 : Int))), (1, (.t 123))] [], none, [], []⟩,
    ⟨some 125, .eqs tPlace true (.t 122) (.t 124), none, [], []⟩]) (innkeepref11_Trade.c94)) (innkeepref11_Trade.c93)) (innkeepref11_Trade.c92)
def innkeepref11_Trade.c83 : Cd := .seq (.seq (.seq (.reg false [⟨some 108, .move (.t 14), none, [], []⟩,
    ⟨some 109, .fieldAddr (.d tCmd) 5 (.t 5), none, [], []⟩,
    ⟨some 110, .load (.d (.sl (.int .i64))) (.t 109), none, [], []⟩,
    ⟨some 111, .len (.t 110), none, [], []⟩,
    ⟨some 112, .bin .geq (.t 108) (.t 111), none, [], []⟩]) (innkeepref11_Trade.c87)) (innkeepref11_Trade.c86)) (innkeepref11_Trade.c85)
def innkeepref11_Trade.c81 : Cd := .seq (.seq (.reg false [⟨some 107, .move (.t 8), none, [], []⟩,
    ⟨some 16, .move (.t 107), none, [], []⟩]) (innkeepref11_Trade.c84)) (innkeepref11_Trade.c83)
def innkeepref11_Trade.c100 : Cd := .tidy [104, 105] [] [] none
def innkeepref11_Trade.c80 : Cd := .seq (.reg false [⟨some 104, .move (.t 14), none, [], []⟩,
    ⟨some 105, .bin .add (.t 104) (.c (.int .i64) (1 : Int)), none, [], []⟩,
    ⟨some 14, .move (.t 105), none, [], []⟩]) (innkeepref11_Trade.c100)
def innkeepref11_Trade.c76 : Cd := .seq (.block 7 (.seq (.seq (.reg false [⟨some 106, .move (.t 1), none, [], []⟩,
    ⟨some 15, .move (.t 106), none, [], []⟩]) (innkeepref11_Trade.c82)) (innkeepref11_Trade.c81))) (innkeepref11_Trade.c80)
def innkeepref11_Trade.c75 : Cd := .tidy [15, 16] [] [] (some 9)
def innkeepref11_Trade.c74 : Cd := .seq (.seq (.seq (.seq (.reg false [⟨some 100, .move (.t 14), none, [], []⟩,
    ⟨some 101, .move (.t 9), none, [], []⟩,
    ⟨some 102, .len (.t 101), none, [], []⟩,
    ⟨some 103, .bin .lss (.t 100) (.t 102), none, [], []⟩]) (innkeepref11_Trade.c78)) (innkeepref11_Trade.c77)) (innkeepref11_Trade.c76)) (innkeepref11_Trade.c75)
def innkeepref11_Trade.c73 : Cd := .block 6 (.loop (innkeepref11_Trade.c74))
def innkeepref11_Trade.c105 : Cd := .tidy [136, 137, 138, 139, 140, 141, 142, 143, 144, 145, 146] [] [] none
def innkeepref11_Trade.c108 : Cd := .tidy [148] [] [] none
def innkeepref11_Trade.c107 : Cd := .ret
def innkeepref11_Trade.c106 : Cd := .seq (.seq (.reg false [⟨some 148, .load (.d tWorld) (.t 3), none, [], []⟩,
    ⟨none, .store (.d tWorld) (.t 6) (.t 148), none, [], []⟩,
    ⟨some 7, .move (.c (.int .i64) (9 : Int)), none, [], []⟩]) (innkeepref11_Trade.c108)) (innkeepref11_Trade.c107)
def innkeepref11_Trade.c109 : Cd := .skip
def innkeepref11_Trade.c104 : Cd := .cond (.t 147) (.seq (.tidy [147] [] [] none) (innkeepref11_Trade.c106)) (.seq (.tidy [147] [] [] none) (innkeepref11_Trade.c109))
def innkeepref11_Trade.c111 : Cd := .tidy [149, 150, 151, 152, 153, 154, 155, 156, 157, 158, 159, 160, 161, 162, 163, 164, 165, 166, 167] [] [] none
def innkeepref11_Trade.c114 : Cd := .tidy [168] [] [] none
def innkeepref11_Trade.c117 : Cd := .tidy [170, 171] [] [] none
def innkeepref11_Trade.c116 : Cd := .ret
def innkeepref11_Trade.c115 : Cd := .seq (.seq (.reg false [⟨some 170, .load (.d tWorld) (.t 3), none, [], []⟩,
    ⟨some 171, .move (.t 19), none, [], []⟩,
    ⟨none, .store (.d tWorld) (.t 6) (.t 170), none, [], []⟩,
    ⟨some 7, .move (.t 171), none, [], []⟩]) (innkeepref11_Trade.c117)) (innkeepref11_Trade.c116)
def innkeepref11_Trade.c118 : Cd := .skip
def innkeepref11_Trade.c113 : Cd := .cond (.t 169) (.seq (.tidy [169] [] [] none) (innkeepref11_Trade.c115)) (.seq (.tidy [169] [] [] none) (innkeepref11_Trade.c118))
def innkeepref11_Trade.c120 : Cd := .tidy [172, 173, 174, 175, 176] [] [] none
def innkeepref11_Trade.c122 : Cd := .tidy [177, 178, 179, 180, 181] [] [] none
def innkeepref11_Trade.c124 : Cd := .tidy [182] [] [] none
def innkeepref11_Trade.c123 : Cd := .ret
def innkeepref11_Trade.c121 : Cd := .seq (.seq (.reg false [⟨some 182, .load (.d tWorld) (.t 13), none, [], []⟩,
    ⟨none, .store (.d tWorld) (.t 6) (.t 182), none, [], []⟩,
    ⟨some 7, .move (.c (.int .i64) (0 : Int)), none, [], []⟩]) (innkeepref11_Trade.c124)) (innkeepref11_Trade.c123)
def innkeepref11_Trade.c119 : Cd := .seq (.seq (.reg false [⟨some 177, .fieldAddr (.d tWorld) 2 (.t 13), none, [], []⟩,
    ⟨some 178, .load (.d (.sl (.int .i64))) (.t 177), none, [], []⟩,
    ⟨some 179, .move (.t 8), none, [], []⟩,
    ⟨some 180, .move (.t 18), none, [], []⟩,
    ⟨some 181, .index (.sl (.int .i64)) (.t 178) (.t 179), none, [], []⟩,
    ⟨none, .store (.d (.int .i64)) (.t 181) (.t 180), none, [], []⟩]) (innkeepref11_Trade.c122)) (innkeepref11_Trade.c121)
def innkeepref11_Trade.c112 : Cd := .seq (.seq (.reg false [⟨some 172, .fieldAddr (.d tWorld) 2 (.t 13), none, [], []⟩,
    ⟨some 173, .load (.d (.sl (.int .i64))) (.t 172), none, [], []⟩,
    ⟨some 174, .move (.t 1), none, [], []⟩,
    ⟨some 175, .move (.t 17), none, [], []⟩,
    ⟨some 176, .index (.sl (.int .i64)) (.t 173) (.t 174), none, [], []⟩,
    ⟨none, .store (.d (.int .i64)) (.t 176) (.t 175), none, [], []⟩]) (innkeepref11_Trade.c120)) (innkeepref11_Trade.c119)
def innkeepref11_Trade.c110 : Cd := .seq (.seq (.seq (.reg false [⟨some 168, .move (.t 19), none, [], []⟩,
    ⟨some 169, .bin .neq (.t 168) (.c (.int .i64) (0 : Int)), none, [], []⟩]) (innkeepref11_Trade.c114)) (innkeepref11_Trade.c113)) (innkeepref11_Trade.c112)
def innkeepref11_Trade.c103 : Cd := .seq (.seq (.reg true [⟨some 150, .fieldAddr (.d tWorld) 2 (.t 3), none, [0], []⟩,
    ⟨some 151, .load (.d (.sl (.int .i64))) (.t 150), none, [0], []⟩,
    ⟨some 152, .move (.t 1), none, [], []⟩,
    ⟨some 153, .index (.sl (.int .i64)) (.t 151) (.t 152), none, [], []⟩,
    ⟨some 154, .load (.d (.int .i64)) (.t 153), none, [], []⟩,
    ⟨some 155, .fieldAddr (.d tWorld) 2 (.t 3), none, [0], []⟩,
    ⟨some 156, .load (.d (.sl (.int .i64))) (.t 155), none, [0], []⟩,
    ⟨some 157, .move (.t 8), none, [], []⟩,
    ⟨some 158, .index (.sl (.int .i64)) (.t 156) (.t 157), none, [], []⟩,
    ⟨some 159, .load (.d (.int .i64)) (.t 158), none, [], []⟩,
    ⟨some 160, .fieldAddr (.d tCmd) 6 (.t 5), none, [1], []⟩,
    ⟨some 161, .load (.d (.int .i64)) (.t 160), none, [1], []⟩,
    ⟨some 162, .fieldAddr (.d tCmd) 8 (.t 5), none, [1], []⟩,
    ⟨some 163, .load (.d (.int .i64)) (.t 162), none, [1], []⟩,
    ⟨some 164, .call (.f 41) [(.t 154), (.t 159), (.t 161), (.t 163)] [.d (.int .i64), .d (.int .i64), .d (.int .i64)] [] false, none, [], []⟩,
    ⟨some 149, .move (.t 164), none, [], []⟩,
    ⟨some 165, .extract (.t 149) 0, none, [], []⟩,
    ⟨some 166, .extract (.t 149) 1, none, [], []⟩,
    ⟨some 167, .extract (.t 149) 2, none, [], []⟩,
    ⟨some 17, .move (.t 165), none, [], []⟩,
    ⟨some 18, .move (.t 166), none, [], []⟩,
    ⟨some 19, .move (.t 167), none, [], []⟩]) (innkeepref11_Trade.c111)) (innkeepref11_Trade.c110)
def innkeepref11_Trade.c72 : Cd := .seq (.seq (.seq (.reg false [⟨some 136, .load (.d tWorld) (.t 13), none, [], []⟩,
    ⟨some 137, .move (.t 1), none, [], []⟩,
    ⟨some 138, .build tPlace [(0, (.c (.int .i64) (1 : Int))), (1, (.t 137))] [], none, [], []⟩,
    ⟨some 139, .call (.f 31) [(.t 136), (.t 138)] [.d (.int .i64)] [] false, none, [], []⟩,
    ⟨some 140, .bin .lss (.t 139) (.c (.int .i64) (0 : Int)), none, [], []⟩,
    ⟨some 141, .move (.t 140), none, [], []⟩,
    ⟨some 142, .load (.d tWorld) (.t 13), some (141, false), [], []⟩,
    ⟨some 143, .move (.t 8), some (141, false), [], []⟩,
    ⟨some 144, .build tPlace [(0, (.c (.int .i64) (1 : Int))), (1, (.t 143))] [], some (141, false), [], []⟩,
    ⟨some 145, .call (.f 31) [(.t 142), (.t 144)] [.d (.int .i64)] [] false, some (141, false), [], []⟩,
    ⟨some 146, .bin .lss (.t 145) (.c (.int .i64) (0 : Int)), some (141, false), [], []⟩,
    ⟨some 147, .pick (.t 141) (.c .bool true) (.t 146), none, [], []⟩]) (innkeepref11_Trade.c105)) (innkeepref11_Trade.c104)) (innkeepref11_Trade.c103)
def innkeepref11_Trade.c70 : Cd := .seq (.seq (.reg false [⟨some 14, .move (.c (.int .i64) (0 : Int)), none, [], []⟩]) (innkeepref11_Trade.c73)) (innkeepref11_Trade.c72)
def innkeepref11_Trade.c43 : Cd := .seq (.seq (.reg false [⟨some 98, .load (.d tWorld) (.t 3), none, [], []⟩,
    ⟨some 99, .call (.f 18) [(.t 98)] [.d tWorld] [((0, [3]), 7), ((0, [2]), 8)] false, none, [], []⟩,
    ⟨some 13, .newbox 6 tWorld [], none, [], []⟩,
    ⟨none, .store (.d tWorld) (.t 13) (.t 99), none, [], []⟩]) (innkeepref11_Trade.c71)) (innkeepref11_Trade.c70)
def innkeepref11_Trade.c36 : Cd := .seq (.seq (.reg false [⟨some 11, .move (.c (.int .i64) (0 : Int)), none, [], []⟩]) (innkeepref11_Trade.c44)) (innkeepref11_Trade.c43)
def innkeepref11_Trade.c29 : Cd := .seq (.seq (.seq (.reg true [⟨some 65, .fieldAddr (.d tWorld) 1 (.t 3), none, [0], []⟩,
    ⟨some 66, .load (.d (.sl (.int .i64))) (.t 65), none, [0], []⟩,
    ⟨some 67, .move (.t 1), none, [], []⟩,
    ⟨some 68, .index (.sl (.int .i64)) (.t 66) (.t 67), none, [], []⟩,
    ⟨some 69, .load (.d (.int .i64)) (.t 68), none, [], []⟩,
    ⟨some 70, .fieldAddr (.d tWorld) 1 (.t 3), none, [0], []⟩,
    ⟨some 71, .load (.d (.sl (.int .i64))) (.t 70), none, [0], []⟩,
    ⟨some 72, .move (.t 8), none, [], []⟩,
    ⟨some 73, .index (.sl (.int .i64)) (.t 71) (.t 72), none, [], []⟩,
    ⟨some 74, .load (.d (.int .i64)) (.t 73), none, [], []⟩,
    ⟨some 75, .bin .neq (.t 69) (.t 74), none, [], []⟩]) (innkeepref11_Trade.c38)) (innkeepref11_Trade.c37)) (innkeepref11_Trade.c36)
def innkeepref11_Trade.c12 : Cd := .seq (.seq (.seq (.reg false [⟨some 61, .move (.t 1), none, [], []⟩,
    ⟨some 62, .move (.t 8), none, [], []⟩,
    ⟨some 63, .bin .eql (.t 61) (.t 62), none, [], []⟩]) (innkeepref11_Trade.c31)) (innkeepref11_Trade.c30)) (innkeepref11_Trade.c29)
def innkeepref11_Trade.c5 : Cd := .seq (.seq (.reg false [⟨some 10, .move (.c (.int .i64) (0 : Int)), none, [], []⟩]) (innkeepref11_Trade.c13)) (innkeepref11_Trade.c12)
def innkeepref11_Trade.c3 : Cd := .seq (.seq (.seq (.reg false [⟨some 29, .move (.t 8), none, [], []⟩,
    ⟨some 30, .bin .lss (.t 29) (.c (.int .i64) (0 : Int)), none, [], []⟩,
    ⟨some 31, .move (.t 30), none, [], []⟩,
    ⟨some 32, .move (.t 8), some (31, false), [], []⟩,
    ⟨some 33, .fieldAddr (.d tWorld) 1 (.t 3), some (31, false), [], []⟩,
    ⟨some 34, .load (.d (.sl (.int .i64))) (.t 33), some (31, false), [], []⟩,
    ⟨some 35, .len (.t 34), some (31, false), [], []⟩,
    ⟨some 36, .bin .geq (.t 32) (.t 35), some (31, false), [], []⟩,
    ⟨some 37, .pick (.t 31) (.c .bool true) (.t 36), none, [], []⟩]) (innkeepref11_Trade.c7)) (innkeepref11_Trade.c6)) (innkeepref11_Trade.c5)
def innkeepref11_Trade.c1 : Cd := .seq (.seq (.reg true [⟨some 22, .slice 3 (.int .i64) [], none, [], [3]⟩,
    ⟨some 23, .fieldAddr (.d tCmd) 5 (.t 5), none, [1], []⟩,
    ⟨some 24, .load (.d (.sl (.int .i64))) (.t 23), none, [1], []⟩,
    ⟨some 25, .append 4 (.int .i64) (.t 22) (.t 24), none, [], [3, 4]⟩,
    ⟨some 26, .fieldAddr (.d tCmd) 7 (.t 5), none, [1], []⟩,
    ⟨some 27, .load (.d (.sl (.int .i64))) (.t 26), none, [1], []⟩,
    ⟨some 28, .append 5 (.int .i64) (.t 25) (.t 27), none, [], [4, 5]⟩,
    ⟨some 9, .move (.t 28), none, [], []⟩]) (innkeepref11_Trade.c4)) (innkeepref11_Trade.c3)
def innkeepref11_Trade.c0 : Cd := .seq (.seq (.reg false [⟨some 20, .fieldAddr (.d tCmd) 4 (.t 5), none, [], []⟩,
    ⟨some 21, .load (.d (.int .i64)) (.t 20), none, [], []⟩,
    ⟨some 8, .move (.t 21), none, [], []⟩]) (innkeepref11_Trade.c2)) (innkeepref11_Trade.c1)
def innkeepref11_Trade.fn : Fn := ⟨3, [.cell 6 (.d tWorld), .tmp 7], .seq (.reg false [⟨some 3, .box 0 (.t 0), none, [], []⟩,
    ⟨some 5, .box 1 (.t 2), none, [], []⟩,
    ⟨some 6, .newbox 2 tWorld [], none, [], []⟩,
    ⟨some 7, .move (.c (.int .i64) (0 : Int)), none, [], []⟩]) (innkeepref11_Trade.c0)⟩
def innkeepref06_Places.c3 : Cd := .tidy [6, 7, 8, 9] [] [] none
def innkeepref06_Places.c5 : Cd := .ret
def innkeepref06_Places.c4 : Cd := .seq (.reg false [⟨some 4, .move (.c .bool false), none, [], []⟩]) (innkeepref06_Places.c5)
def innkeepref06_Places.c6 : Cd := .skip
def innkeepref06_Places.c2 : Cd := .cond (.t 10) (.seq (.tidy [10] [] [] none) (innkeepref06_Places.c4)) (.seq (.tidy [10] [] [] none) (innkeepref06_Places.c6))
def innkeepref06_Places.c13 : Cd := .tidy [11, 12, 13] [] [] none
def innkeepref06_Places.c14 : Cd := .skip
def innkeepref06_Places.c22 : Cd := .exit 0
def innkeepref06_Places.c12 : Cd := .cond (.t 14) (.seq (.tidy [14] [] [] none) (innkeepref06_Places.c14)) (.seq (.tidy [14] [] [] none) (innkeepref06_Places.c22))
def innkeepref06_Places.c17 : Cd := .tidy [17, 18, 19, 20, 21, 22, 23, 24] [] [] none
def innkeepref06_Places.c19 : Cd := .ret
def innkeepref06_Places.c18 : Cd := .seq (.reg false [⟨some 4, .move (.c .bool false), none, [], []⟩]) (innkeepref06_Places.c19)
def innkeepref06_Places.c20 : Cd := .skip
def innkeepref06_Places.c16 : Cd := .cond (.t 25) (.seq (.tidy [25] [] [] none) (innkeepref06_Places.c18)) (.seq (.tidy [25] [] [] none) (innkeepref06_Places.c20))
def innkeepref06_Places.c21 : Cd := .tidy [15, 16] [] [] none
def innkeepref06_Places.c15 : Cd := .seq (.reg false [⟨some 15, .move (.t 5), none, [], []⟩,
    ⟨some 16, .bin .add (.t 15) (.c (.int .i64) (1 : Int)), none, [], []⟩,
    ⟨some 5, .move (.t 16), none, [], []⟩]) (innkeepref06_Places.c21)
def innkeepref06_Places.c11 : Cd := .seq (.block 1 (.seq (.seq (.reg true [⟨some 17, .move (.t 0), none, [], []⟩,
    ⟨some 18, .move (.t 5), none, [], []⟩,
    ⟨some 19, .index (.sl tPlace) (.t 17) (.t 18), none, [], []⟩,
    ⟨some 20, .load (.d tPlace) (.t 19), none, [], []⟩,
    ⟨some 21, .move (.t 1), none, [], []⟩,
    ⟨some 22, .move (.t 5), none, [], []⟩,
    ⟨some 23, .index (.sl tPlace) (.t 21) (.t 22), none, [], []⟩,
    ⟨some 24, .load (.d tPlace) (.t 23), none, [], []⟩,
    ⟨some 25, .eqs tPlace true (.t 20) (.t 24), none, [], []⟩]) (innkeepref06_Places.c17)) (innkeepref06_Places.c16))) (innkeepref06_Places.c15)
def innkeepref06_Places.c10 : Cd := .tidy [] [] [] (some 0)
def innkeepref06_Places.c9 : Cd := .seq (.seq (.seq (.seq (.reg false [⟨some 11, .move (.t 5), none, [], []⟩,
    ⟨some 12, .move (.t 0), none, [], []⟩,
    ⟨some 13, .len (.t 12), none, [], []⟩,
    ⟨some 14, .bin .lss (.t 11) (.t 13), none, [], []⟩]) (innkeepref06_Places.c13)) (innkeepref06_Places.c12)) (innkeepref06_Places.c11)) (innkeepref06_Places.c10)
def innkeepref06_Places.c8 : Cd := .block 0 (.loop (innkeepref06_Places.c9))
def innkeepref06_Places.c23 : Cd := .ret
def innkeepref06_Places.c7 : Cd := .seq (.reg false [⟨some 4, .move (.c .bool true), none, [], []⟩]) (innkeepref06_Places.c23)
def innkeepref06_Places.c1 : Cd := .seq (.seq (.reg false [⟨some 5, .move (.c (.int .i64) (0 : Int)), none, [], []⟩]) (innkeepref06_Places.c8)) (innkeepref06_Places.c7)
def innkeepref06_Places.c0 : Cd := .seq (.seq (.seq (.reg false [⟨some 6, .move (.t 0), none, [], []⟩,
    ⟨some 7, .len (.t 6), none, [], []⟩,
    ⟨some 8, .move (.t 1), none, [], []⟩,
    ⟨some 9, .len (.t 8), none, [], []⟩,
    ⟨some 10, .bin .neq (.t 7) (.t 9), none, [], []⟩]) (innkeepref06_Places.c3)) (innkeepref06_Places.c2)) (innkeepref06_Places.c1)
def innkeepref06_Places.fn : Fn := ⟨2, [.tmp 4], .seq (.reg false [⟨some 4, .move (.c .bool false), none, [], []⟩]) (innkeepref06_Places.c0)⟩
def innkeepref06_Same.c2 : Cd := .tidy [9, 10] [] [] none
def innkeepref06_Same.c4 : Cd := .tidy [11, 12] [] [] none
def innkeepref06_Same.c7 : Cd := .tidy [13, 14, 15, 16, 17, 18, 19, 20, 21, 22, 23, 24, 25, 26, 27, 28, 29, 30, 31, 32, 33, 34, 35, 36, 37, 38, 39, 40, 41, 42, 43, 44, 45, 46, 47, 48] [] [] none
def innkeepref06_Same.c9 : Cd := .ret
def innkeepref06_Same.c8 : Cd := .seq (.reg false [⟨some 4, .move (.c .bool false), none, [], []⟩]) (innkeepref06_Same.c9)
def innkeepref06_Same.c10 : Cd := .skip
def innkeepref06_Same.c6 : Cd := .cond (.t 49) (.seq (.tidy [49] [] [] none) (innkeepref06_Same.c8)) (.seq (.tidy [49] [] [] none) (innkeepref06_Same.c10))
def innkeepref06_Same.c17 : Cd := .tidy [50, 51, 52, 53] [] [] none
def innkeepref06_Same.c18 : Cd := .skip
def innkeepref06_Same.c26 : Cd := .exit 0
def innkeepref06_Same.c16 : Cd := .cond (.t 54) (.seq (.tidy [54] [] [] none) (innkeepref06_Same.c18)) (.seq (.tidy [54] [] [] none) (innkeepref06_Same.c26))
def innkeepref06_Same.c21 : Cd := .tidy [57, 58, 59, 60, 61, 62, 63, 64, 65, 66] [] [] none
def innkeepref06_Same.c23 : Cd := .ret
def innkeepref06_Same.c22 : Cd := .seq (.reg false [⟨some 4, .move (.c .bool false), none, [], []⟩]) (innkeepref06_Same.c23)
def innkeepref06_Same.c24 : Cd := .skip
def innkeepref06_Same.c20 : Cd := .cond (.t 67) (.seq (.tidy [67] [] [] none) (innkeepref06_Same.c22)) (.seq (.tidy [67] [] [] none) (innkeepref06_Same.c24))
def innkeepref06_Same.c25 : Cd := .tidy [55, 56] [] [] none
def innkeepref06_Same.c19 : Cd := .seq (.reg false [⟨some 55, .move (.t 7), none, [], []⟩,
    ⟨some 56, .bin .add (.t 55) (.c (.int .i64) (1 : Int)), none, [], []⟩,
    ⟨some 7, .move (.t 56), none, [], []⟩]) (innkeepref06_Same.c25)
def innkeepref06_Same.c15 : Cd := .seq (.block 1 (.seq (.seq (.reg true [⟨some 57, .fieldAddr (.d tDesc) 0 (.t 5), none, [2], []⟩,
    ⟨some 58, .load (.d (.sl (.arr 4 (.int .i64)))) (.t 57), none, [2], []⟩,
    ⟨some 59, .move (.t 7), none, [], []⟩,
    ⟨some 60, .index (.sl (.arr 4 (.int .i64))) (.t 58) (.t 59), none, [], []⟩,
    ⟨some 61, .load (.d (.arr 4 (.int .i64))) (.t 60), none, [], []⟩,
    ⟨some 62, .fieldAddr (.d tDesc) 0 (.t 6), none, [3], []⟩,
    ⟨some 63, .load (.d (.sl (.arr 4 (.int .i64)))) (.t 62), none, [3], []⟩,
    ⟨some 64, .move (.t 7), none, [], []⟩,
    ⟨some 65, .index (.sl (.arr 4 (.int .i64))) (.t 63) (.t 64), none, [], []⟩,
    ⟨some 66, .load (.d (.arr 4 (.int .i64))) (.t 65), none, [], []⟩,
    ⟨some 67, .eqs (.arr 4 (.int .i64)) true (.t 61) (.t 66), none, [], []⟩]) (innkeepref06_Same.c21)) (innkeepref06_Same.c20))) (innkeepref06_Same.c19)
def innkeepref06_Same.c14 : Cd := .tidy [] [] [] (some 4)
def innkeepref06_Same.c13 : Cd := .seq (.seq (.seq (.seq (.reg false [⟨some 50, .move (.t 7), none, [], []⟩,
    ⟨some 51, .fieldAddr (.d tDesc) 0 (.t 5), none, [], []⟩,
    ⟨some 52, .load (.d (.sl (.arr 4 (.int .i64)))) (.t 51), none, [], []⟩,
    ⟨some 53, .len (.t 52), none, [], []⟩,
    ⟨some 54, .bin .lss (.t 50) (.t 53), none, [], []⟩]) (innkeepref06_Same.c17)) (innkeepref06_Same.c16)) (innkeepref06_Same.c15)) (innkeepref06_Same.c14)
def innkeepref06_Same.c12 : Cd := .block 0 (.loop (innkeepref06_Same.c13))
def innkeepref06_Same.c33 : Cd := .tidy [68, 69, 70, 71] [] [] none
def innkeepref06_Same.c34 : Cd := .skip
def innkeepref06_Same.c42 : Cd := .exit 2
def innkeepref06_Same.c32 : Cd := .cond (.t 72) (.seq (.tidy [72] [] [] none) (innkeepref06_Same.c34)) (.seq (.tidy [72] [] [] none) (innkeepref06_Same.c42))
def innkeepref06_Same.c37 : Cd := .tidy [75, 76, 77, 78, 79, 80, 81, 82, 83, 84] [] [] none
def innkeepref06_Same.c39 : Cd := .ret
def innkeepref06_Same.c38 : Cd := .seq (.reg false [⟨some 4, .move (.c .bool false), none, [], []⟩]) (innkeepref06_Same.c39)
def innkeepref06_Same.c40 : Cd := .skip
def innkeepref06_Same.c36 : Cd := .cond (.t 85) (.seq (.tidy [85] [] [] none) (innkeepref06_Same.c38)) (.seq (.tidy [85] [] [] none) (innkeepref06_Same.c40))
def innkeepref06_Same.c41 : Cd := .tidy [73, 74] [] [] none
def innkeepref06_Same.c35 : Cd := .seq (.reg false [⟨some 73, .move (.t 8), none, [], []⟩,
    ⟨some 74, .bin .add (.t 73) (.c (.int .i64) (1 : Int)), none, [], []⟩,
    ⟨some 8, .move (.t 74), none, [], []⟩]) (innkeepref06_Same.c41)
def innkeepref06_Same.c31 : Cd := .seq (.block 3 (.seq (.seq (.reg true [⟨some 75, .fieldAddr (.d tDesc) 4 (.t 5), none, [2], []⟩,
    ⟨some 76, .load (.d (.sl .bool)) (.t 75), none, [2], []⟩,
    ⟨some 77, .move (.t 8), none, [], []⟩,
    ⟨some 78, .index (.sl .bool) (.t 76) (.t 77), none, [], []⟩,
    ⟨some 79, .load (.d .bool) (.t 78), none, [], []⟩,
    ⟨some 80, .fieldAddr (.d tDesc) 4 (.t 6), none, [3], []⟩,
    ⟨some 81, .load (.d (.sl .bool)) (.t 80), none, [3], []⟩,
    ⟨some 82, .move (.t 8), none, [], []⟩,
    ⟨some 83, .index (.sl .bool) (.t 81) (.t 82), none, [], []⟩,
    ⟨some 84, .load (.d .bool) (.t 83), none, [], []⟩,
    ⟨some 85, .eqs .bool true (.t 79) (.t 84), none, [], []⟩]) (innkeepref06_Same.c37)) (innkeepref06_Same.c36))) (innkeepref06_Same.c35)
def innkeepref06_Same.c30 : Cd := .tidy [] [] [] (some 4)
def innkeepref06_Same.c29 : Cd := .seq (.seq (.seq (.seq (.reg false [⟨some 68, .move (.t 8), none, [], []⟩,
    ⟨some 69, .fieldAddr (.d tDesc) 4 (.t 5), none, [], []⟩,
    ⟨some 70, .load (.d (.sl .bool)) (.t 69), none, [], []⟩,
    ⟨some 71, .len (.t 70), none, [], []⟩,
    ⟨some 72, .bin .lss (.t 68) (.t 71), none, [], []⟩]) (innkeepref06_Same.c33)) (innkeepref06_Same.c32)) (innkeepref06_Same.c31)) (innkeepref06_Same.c30)
def innkeepref06_Same.c28 : Cd := .block 2 (.loop (innkeepref06_Same.c29))
def innkeepref06_Same.c44 : Cd := .tidy [86, 87, 88, 89, 90, 91, 92, 93, 94, 95, 96, 97, 98, 99, 100, 101, 102, 103, 104, 105, 106, 107, 108, 109, 110, 111, 112, 113, 114, 115, 116, 117, 118, 119, 120, 121, 122, 123, 124, 125] [] [] none
def innkeepref06_Same.c43 : Cd := .ret
def innkeepref06_Same.c27 : Cd := .seq (.seq (.reg false [⟨some 86, .fieldAddr (.d tDesc) 1 (.t 5), none, [], []⟩,
    ⟨some 87, .load (.d (.sl (.int .i64))) (.t 86), none, [], []⟩,
    ⟨some 88, .fieldAddr (.d tDesc) 1 (.t 6), none, [], []⟩,
    ⟨some 89, .load (.d (.sl (.int .i64))) (.t 88), none, [], []⟩,
    ⟨some 90, .call (.f 22) [(.t 87), (.t 89)] [.d .bool] [] false, none, [], []⟩,
    ⟨some 91, .move (.t 90), none, [], []⟩,
    ⟨some 92, .fieldAddr (.d tDesc) 2 (.t 5), some (91, true), [], []⟩,
    ⟨some 93, .load (.d (.sl (.int .i64))) (.t 92), some (91, true), [], []⟩,
    ⟨some 94, .fieldAddr (.d tDesc) 2 (.t 6), some (91, true), [], []⟩,
    ⟨some 95, .load (.d (.sl (.int .i64))) (.t 94), some (91, true), [], []⟩,
    ⟨some 96, .call (.f 22) [(.t 93), (.t 95)] [.d .bool] [] false, some (91, true), [], []⟩,
    ⟨some 97, .pick (.t 91) (.t 96) (.c .bool false), none, [], []⟩,
    ⟨some 98, .move (.t 97), none, [], []⟩,
    ⟨some 99, .fieldAddr (.d tDesc) 3 (.t 5), some (98, true), [], []⟩,
    ⟨some 100, .load (.d (.sl (.int .i64))) (.t 99), some (98, true), [], []⟩,
    ⟨some 101, .fieldAddr (.d tDesc) 3 (.t 6), some (98, true), [], []⟩,
    ⟨some 102, .load (.d (.sl (.int .i64))) (.t 101), some (98, true), [], []⟩,
    ⟨some 103, .call (.f 22) [(.t 100), (.t 102)] [.d .bool] [] false, some (98, true), [], []⟩,
    ⟨some 104, .pick (.t 98) (.t 103) (.c .bool false), none, [], []⟩,
    ⟨some 105, .move (.t 104), none, [], []⟩,
    ⟨some 106, .fieldAddr (.d tWorld) 1 (.t 2), some (105, true), [], []⟩,
    ⟨some 107, .load (.d (.sl (.int .i64))) (.t 106), some (105, true), [], []⟩,
    ⟨some 108, .fieldAddr (.d tWorld) 1 (.t 3), some (105, true), [], []⟩,
    ⟨some 109, .load (.d (.sl (.int .i64))) (.t 108), some (105, true), [], []⟩,
    ⟨some 110, .call (.f 22) [(.t 107), (.t 109)] [.d .bool] [] false, some (105, true), [], []⟩,
    ⟨some 111, .pick (.t 105) (.t 110) (.c .bool false), none, [], []⟩,
    ⟨some 112, .move (.t 111), none, [], []⟩,
    ⟨some 113, .fieldAddr (.d tWorld) 2 (.t 2), some (112, true), [], []⟩,
    ⟨some 114, .load (.d (.sl (.int .i64))) (.t 113), some (112, true), [], []⟩,
    ⟨some 115, .fieldAddr (.d tWorld) 2 (.t 3), some (112, true), [], []⟩,
    ⟨some 116, .load (.d (.sl (.int .i64))) (.t 115), some (112, true), [], []⟩,
    ⟨some 117, .call (.f 22) [(.t 114), (.t 116)] [.d .bool] [] false, some (112, true), [], []⟩,
    ⟨some 118, .pick (.t 112) (.t 117) (.c .bool false), none, [], []⟩,
    ⟨some 119, .move (.t 118), none, [], []⟩,
    ⟨some 120, .fieldAddr (.d tWorld) 3 (.t 2), some (119, true), [], []⟩,
    ⟨some 121, .load (.d (.sl tPlace)) (.t 120), some (119, true), [], []⟩,
    ⟨some 122, .fieldAddr (.d tWorld) 3 (.t 3), some (119, true), [], []⟩,
    ⟨some 123, .load (.d (.sl tPlace)) (.t 122), some (119, true), [], []⟩,
    ⟨some 124, .call (.f 20) [(.t 121), (.t 123)] [.d .bool] [] false, some (119, true), [], []⟩,
    ⟨some 125, .pick (.t 119) (.t 124) (.c .bool false), none, [], []⟩,
    ⟨some 4, .move (.t 125), none, [], []⟩]) (innkeepref06_Same.c44)) (innkeepref06_Same.c43)
def innkeepref06_Same.c11 : Cd := .seq (.seq (.reg false [⟨some 8, .move (.c (.int .i64) (0 : Int)), none, [], []⟩]) (innkeepref06_Same.c28)) (innkeepref06_Same.c27)
def innkeepref06_Same.c5 : Cd := .seq (.seq (.reg false [⟨some 7, .move (.c (.int .i64) (0 : Int)), none, [], []⟩]) (innkeepref06_Same.c12)) (innkeepref06_Same.c11)
def innkeepref06_Same.c3 : Cd := .seq (.seq (.seq (.reg false [⟨some 13, .fieldAddr (.d tDesc) 5 (.t 5), none, [], []⟩,
    ⟨some 14, .load (.d (.int .i64)) (.t 13), none, [], []⟩,
    ⟨some 15, .fieldAddr (.d tDesc) 5 (.t 6), none, [], []⟩,
    ⟨some 16, .load (.d (.int .i64)) (.t 15), none, [], []⟩,
    ⟨some 17, .bin .neq (.t 14) (.t 16), none, [], []⟩,
    ⟨some 18, .move (.t 17), none, [], []⟩,
    ⟨some 19, .fieldAddr (.d tDesc) 6 (.t 5), some (18, false), [], []⟩,
    ⟨some 20, .load (.d (.int .i64)) (.t 19), some (18, false), [], []⟩,
    ⟨some 21, .fieldAddr (.d tDesc) 6 (.t 6), some (18, false), [], []⟩,
    ⟨some 22, .load (.d (.int .i64)) (.t 21), some (18, false), [], []⟩,
    ⟨some 23, .bin .neq (.t 20) (.t 22), some (18, false), [], []⟩,
    ⟨some 24, .pick (.t 18) (.c .bool true) (.t 23), none, [], []⟩,
    ⟨some 25, .move (.t 24), none, [], []⟩,
    ⟨some 26, .fieldAddr (.d tDesc) 7 (.t 5), some (25, false), [], []⟩,
    ⟨some 27, .load (.d (.int .i64)) (.t 26), some (25, false), [], []⟩,
    ⟨some 28, .fieldAddr (.d tDesc) 7 (.t 6), some (25, false), [], []⟩,
    ⟨some 29, .load (.d (.int .i64)) (.t 28), some (25, false), [], []⟩,
    ⟨some 30, .bin .neq (.t 27) (.t 29), some (25, false), [], []⟩,
    ⟨some 31, .pick (.t 25) (.c .bool true) (.t 30), none, [], []⟩,
    ⟨some 32, .move (.t 31), none, [], []⟩,
    ⟨some 33, .fieldAddr (.d tDesc) 0 (.t 5), some (32, false), [], []⟩,
    ⟨some 34, .load (.d (.sl (.arr 4 (.int .i64)))) (.t 33), some (32, false), [], []⟩,
    ⟨some 35, .len (.t 34), some (32, false), [], []⟩,
    ⟨some 36, .fieldAddr (.d tDesc) 0 (.t 6), some (32, false), [], []⟩,
    ⟨some 37, .load (.d (.sl (.arr 4 (.int .i64)))) (.t 36), some (32, false), [], []⟩,
    ⟨some 38, .len (.t 37), some (32, false), [], []⟩,
    ⟨some 39, .bin .neq (.t 35) (.t 38), some (32, false), [], []⟩,
    ⟨some 40, .pick (.t 32) (.c .bool true) (.t 39), none, [], []⟩,
    ⟨some 41, .move (.t 40), none, [], []⟩,
    ⟨some 42, .fieldAddr (.d tDesc) 4 (.t 5), some (41, false), [], []⟩,
    ⟨some 43, .load (.d (.sl .bool)) (.t 42), some (41, false), [], []⟩,
    ⟨some 44, .len (.t 43), some (41, false), [], []⟩,
    ⟨some 45, .fieldAddr (.d tDesc) 4 (.t 6), some (41, false), [], []⟩,
    ⟨some 46, .load (.d (.sl .bool)) (.t 45), some (41, false), [], []⟩,
    ⟨some 47, .len (.t 46), some (41, false), [], []⟩,
    ⟨some 48, .bin .neq (.t 44) (.t 47), some (41, false), [], []⟩,
    ⟨some 49, .pick (.t 41) (.c .bool true) (.t 48), none, [], []⟩]) (innkeepref06_Same.c7)) (innkeepref06_Same.c6)) (innkeepref06_Same.c5)
def innkeepref06_Same.c1 : Cd := .seq (.seq (.reg false [⟨some 11, .fieldAddr (.d tWorld) 0 (.t 3), none, [], []⟩,
    ⟨some 12, .load (.d tDesc) (.t 11), none, [], []⟩,
    ⟨some 6, .newbox 3 tDesc [], none, [], []⟩,
    ⟨none, .store (.d tDesc) (.t 6) (.t 12), none, [], []⟩]) (innkeepref06_Same.c4)) (innkeepref06_Same.c3)
def innkeepref06_Same.c0 : Cd := .seq (.seq (.reg false [⟨some 9, .fieldAddr (.d tWorld) 0 (.t 2), none, [], []⟩,
    ⟨some 10, .load (.d tDesc) (.t 9), none, [], []⟩,
    ⟨some 5, .newbox 2 tDesc [], none, [], []⟩,
    ⟨none, .store (.d tDesc) (.t 5) (.t 10), none, [], []⟩]) (innkeepref06_Same.c2)) (innkeepref06_Same.c1)
def innkeepref06_Same.fn : Fn := ⟨2, [.tmp 4], .seq (.reg false [⟨some 2, .box 0 (.t 0), none, [], []⟩,
    ⟨some 3, .box 1 (.t 1), none, [], []⟩,
    ⟨some 4, .move (.c .bool false), none, [], []⟩]) (innkeepref06_Same.c0)⟩
def innkeeplaw11_GiftsDo.c3 : Cd := .tidy [20, 21, 22, 23, 24, 25, 26, 27, 28, 29, 30, 31, 32, 33, 34, 35, 36, 37, 38, 39, 40] [] [] none
def innkeeplaw11_GiftsDo.c6 : Cd := .tidy [42] [] [] none
def innkeeplaw11_GiftsDo.c5 : Cd := .ret
def innkeeplaw11_GiftsDo.c4 : Cd := .seq (.seq (.reg false [⟨some 42, .call (.f 7) [] [.d .bool] [] false, none, [], []⟩,
    ⟨some 10, .move (.t 42), none, [], []⟩]) (innkeeplaw11_GiftsDo.c6)) (innkeeplaw11_GiftsDo.c5)
def innkeeplaw11_GiftsDo.c7 : Cd := .skip
def innkeeplaw11_GiftsDo.c2 : Cd := .cond (.t 41) (.seq (.tidy [41] [] [] none) (innkeeplaw11_GiftsDo.c4)) (.seq (.tidy [41] [] [] none) (innkeeplaw11_GiftsDo.c7))
def innkeeplaw11_GiftsDo.c9 : Cd := .tidy [43, 44, 45, 46, 47, 48] [] [] none
def innkeeplaw11_GiftsDo.c11 : Cd := .tidy [49, 50, 51, 52, 53, 54, 55, 56] [] [] none
def innkeeplaw11_GiftsDo.c13 : Cd := .tidy [57, 58, 59, 60, 61, 62, 63, 64] [] [] none
def innkeeplaw11_GiftsDo.c15 : Cd := .tidy [65, 66, 67, 68, 69, 70, 71] [] [] none
def innkeeplaw11_GiftsDo.c17 : Cd := .tidy [72, 73, 74, 75, 76, 77, 78] [] [] none
def innkeeplaw11_GiftsDo.c19 : Cd := .tidy [79, 80, 81, 82, 83, 84, 85, 86, 87, 88, 89, 90, 91, 92, 93, 94, 95, 96] [] [] none
def innkeeplaw11_GiftsDo.c18 : Cd := .ret
def innkeeplaw11_GiftsDo.c16 : Cd := .seq (.seq (.reg false [⟨some 79, .load (.d tWorld) (.t 12), none, [], []⟩,
    ⟨some 80, .load (.d tWorld) (.t 14), none, [], []⟩,
    ⟨some 81, .call (.f 15) [(.t 79), (.t 80)] [.d .bool] [] false, none, [], []⟩,
    ⟨some 82, .move (.t 81), none, [], []⟩,
    ⟨some 83, .move (.t 13), some (82, true), [], []⟩,
    ⟨some 84, .move (.t 15), some (82, true), [], []⟩,
    ⟨some 85, .bin .eql (.t 83) (.t 84), some (82, true), [], []⟩,
    ⟨some 86, .pick (.t 82) (.t 85) (.c .bool false), none, [], []⟩,
    ⟨some 87, .move (.t 86), none, [], []⟩,
    ⟨some 88, .load (.d tWorld) (.t 16), some (87, true), [], []⟩,
    ⟨some 89, .load (.d tWorld) (.t 18), some (87, true), [], []⟩,
    ⟨some 90, .call (.f 15) [(.t 88), (.t 89)] [.d .bool] [] false, some (87, true), [], []⟩,
    ⟨some 91, .pick (.t 87) (.t 90) (.c .bool false), none, [], []⟩,
    ⟨some 92, .move (.t 91), none, [], []⟩,
    ⟨some 93, .move (.t 17), some (92, true), [], []⟩,
    ⟨some 94, .move (.t 19), some (92, true), [], []⟩,
    ⟨some 95, .bin .eql (.t 93) (.t 94), some (92, true), [], []⟩,
    ⟨some 96, .pick (.t 92) (.t 95) (.c .bool false), none, [], []⟩,
    ⟨some 10, .move (.t 96), none, [], []⟩]) (innkeeplaw11_GiftsDo.c19)) (innkeeplaw11_GiftsDo.c18)
def innkeeplaw11_GiftsDo.c14 : Cd := .seq (.seq (.reg false [⟨some 73, .load (.d tWorld) (.t 5), none, [], []⟩,
    ⟨some 74, .move (.t 11), none, [], []⟩,
    ⟨some 75, .load (.d tCmd) (.t 9), none, [], []⟩,
    ⟨some 76, .call (.f 14) [(.t 73), (.t 74), (.t 75)] [.d tWorld, .d (.int .i64)] [] false, none, [], []⟩,
    ⟨some 72, .move (.t 76), none, [], []⟩,
    ⟨some 77, .extract (.t 72) 0, none, [], []⟩,
    ⟨some 78, .extract (.t 72) 1, none, [], []⟩,
    ⟨some 18, .newbox 5 tWorld [], none, [], []⟩,
    ⟨none, .store (.d tWorld) (.t 18) (.t 77), none, [], []⟩,
    ⟨some 19, .move (.t 78), none, [], []⟩]) (innkeeplaw11_GiftsDo.c17)) (innkeeplaw11_GiftsDo.c16)
def innkeeplaw11_GiftsDo.c12 : Cd := .seq (.seq (.reg false [⟨some 66, .load (.d tWorld) (.t 5), none, [], []⟩,
    ⟨some 67, .move (.t 11), none, [], []⟩,
    ⟨some 68, .load (.d tCmd) (.t 9), none, [], []⟩,
    ⟨some 69, .call (.f 13) [(.t 66), (.t 67), (.t 68)] [.d tWorld, .d (.int .i64)] [] false, none, [], []⟩,
    ⟨some 65, .move (.t 69), none, [], []⟩,
    ⟨some 70, .extract (.t 65) 0, none, [], []⟩,
    ⟨some 71, .extract (.t 65) 1, none, [], []⟩,
    ⟨some 16, .newbox 4 tWorld [], none, [], []⟩,
    ⟨none, .store (.d tWorld) (.t 16) (.t 70), none, [], []⟩,
    ⟨some 17, .move (.t 71), none, [], []⟩]) (innkeeplaw11_GiftsDo.c15)) (innkeeplaw11_GiftsDo.c14)
def innkeeplaw11_GiftsDo.c10 : Cd := .seq (.seq (.reg false [⟨some 58, .load (.d tWorld) (.t 5), none, [], []⟩,
    ⟨some 59, .move (.t 11), none, [], []⟩,
    ⟨some 60, .move (.t 2), none, [], []⟩,
    ⟨some 61, .move (.t 3), none, [], []⟩,
    ⟨some 62, .call (.f 12) [(.t 58), (.t 59), (.t 60), (.t 61)] [.d tWorld, .d (.int .i64)] [] false, none, [], []⟩,
    ⟨some 57, .move (.t 62), none, [], []⟩,
    ⟨some 63, .extract (.t 57) 0, none, [], []⟩,
    ⟨some 64, .extract (.t 57) 1, none, [], []⟩,
    ⟨some 14, .newbox 3 tWorld [], none, [], []⟩,
    ⟨none, .store (.d tWorld) (.t 14) (.t 63), none, [], []⟩,
    ⟨some 15, .move (.t 64), none, [], []⟩]) (innkeeplaw11_GiftsDo.c13)) (innkeeplaw11_GiftsDo.c12)
def innkeeplaw11_GiftsDo.c8 : Cd := .seq (.seq (.reg false [⟨some 50, .load (.d tWorld) (.t 5), none, [], []⟩,
    ⟨some 51, .move (.t 11), none, [], []⟩,
    ⟨some 52, .move (.t 2), none, [], []⟩,
    ⟨some 53, .move (.t 3), none, [], []⟩,
    ⟨some 54, .call (.f 11) [(.t 50), (.t 51), (.t 52), (.t 53)] [.d tWorld, .d (.int .i64)] [] false, none, [], []⟩,
    ⟨some 49, .move (.t 54), none, [], []⟩,
    ⟨some 55, .extract (.t 49) 0, none, [], []⟩,
    ⟨some 56, .extract (.t 49) 1, none, [], []⟩,
    ⟨some 12, .newbox 2 tWorld [], none, [], []⟩,
    ⟨none, .store (.d tWorld) (.t 12) (.t 55), none, [], []⟩,
    ⟨some 13, .move (.t 56), none, [], []⟩]) (innkeeplaw11_GiftsDo.c11)) (innkeeplaw11_GiftsDo.c10)
def innkeeplaw11_GiftsDo.c1 : Cd := .seq (.seq (.reg false [⟨some 43, .move (.t 1), none, [], []⟩,
    ⟨some 44, .conv .i64 (.t 43), none, [], []⟩,
    ⟨some 45, .fieldAddr (.d tWorld) 1 (.t 5), none, [], []⟩,
    ⟨some 46, .load (.d (.sl (.int .i64))) (.t 45), none, [], []⟩,
    ⟨some 47, .len (.t 46), none, [], []⟩,
    ⟨some 48, .bin .rem (.t 44) (.t 47), none, [], []⟩,
    ⟨some 11, .move (.t 48), none, [], []⟩]) (innkeeplaw11_GiftsDo.c9)) (innkeeplaw11_GiftsDo.c8)
def innkeeplaw11_GiftsDo.c0 : Cd := .seq (.seq (.seq (.reg false [⟨some 20, .call (.f 7) [] [.d .bool] [] false, none, [], []⟩,
    ⟨some 21, .not (.t 20), none, [], []⟩,
    ⟨some 22, .move (.t 21), none, [], []⟩,
    ⟨some 23, .load (.d tWorld) (.t 5), some (22, false), [], []⟩,
    ⟨some 24, .call (.f 8) [(.t 23)] [.d .bool] [] false, some (22, false), [], []⟩,
    ⟨some 25, .not (.t 24), some (22, false), [], []⟩,
    ⟨some 26, .pick (.t 22) (.c .bool true) (.t 25), none, [], []⟩,
    ⟨some 27, .move (.t 26), none, [], []⟩,
    ⟨some 28, .load (.d tCmd) (.t 9), some (27, false), [], []⟩,
    ⟨some 29, .call (.f 9) [(.t 28)] [.d .bool] [] false, some (27, false), [], []⟩,
    ⟨some 30, .not (.t 29), some (27, false), [], []⟩,
    ⟨some 31, .pick (.t 27) (.c .bool true) (.t 30), none, [], []⟩,
    ⟨some 32, .move (.t 31), none, [], []⟩,
    ⟨some 33, .load (.d tCmd) (.t 9), some (32, false), [], []⟩,
    ⟨some 34, .call (.f 10) [(.t 33)] [.d .bool] [] false, some (32, false), [], []⟩,
    ⟨some 35, .not (.t 34), some (32, false), [], []⟩,
    ⟨some 36, .pick (.t 32) (.c .bool true) (.t 35), none, [], []⟩,
    ⟨some 37, .move (.t 36), none, [], []⟩,
    ⟨some 38, .fieldAddr (.d tCmd) 0 (.t 9), some (37, false), [], []⟩,
    ⟨some 39, .load (.d (.int .i64)) (.t 38), some (37, false), [], []⟩,
    ⟨some 40, .bin .neq (.t 39) (.c (.int .i64) (8 : Int)), some (37, false), [], []⟩,
    ⟨some 41, .pick (.t 37) (.c .bool true) (.t 40), none, [], []⟩]) (innkeeplaw11_GiftsDo.c3)) (innkeeplaw11_GiftsDo.c2)) (innkeeplaw11_GiftsDo.c1)
def innkeeplaw11_GiftsDo.fn : Fn := ⟨5, [.tmp 10], .seq (.reg false [⟨some 5, .box 0 (.t 0), none, [], []⟩,
    ⟨some 9, .box 1 (.t 4), none, [], []⟩,
    ⟨some 10, .move (.c .bool false), none, [], []⟩]) (innkeeplaw11_GiftsDo.c0)⟩
def innkeepref11_Sum.c8 : Cd := .tidy [5, 6, 7, 8] [] [] none
def innkeepref11_Sum.c9 : Cd := .skip
def innkeepref11_Sum.c13 : Cd := .exit 0
def innkeepref11_Sum.c7 : Cd := .cond (.t 9) (.seq (.tidy [9] [] [] none) (innkeepref11_Sum.c9)) (.seq (.tidy [9] [] [] none) (innkeepref11_Sum.c13))
def innkeepref11_Sum.c11 : Cd := .tidy [12, 13, 14, 15, 16, 17, 18] [] [] none
def innkeepref11_Sum.c12 : Cd := .tidy [10, 11] [] [] none
def innkeepref11_Sum.c10 : Cd := .seq (.reg false [⟨some 10, .move (.t 4), none, [], []⟩,
    ⟨some 11, .bin .add (.t 10) (.c (.int .i64) (1 : Int)), none, [], []⟩,
    ⟨some 4, .move (.t 11), none, [], []⟩]) (innkeepref11_Sum.c12)
def innkeepref11_Sum.c6 : Cd := .seq (.block 1 (.seq (.reg false [⟨some 12, .move (.t 3), none, [], []⟩,
    ⟨some 13, .fieldAddr (.d tWorld) 2 (.t 1), none, [], []⟩,
    ⟨some 14, .load (.d (.sl (.int .i64))) (.t 13), none, [], []⟩,
    ⟨some 15, .move (.t 4), none, [], []⟩,
    ⟨some 16, .index (.sl (.int .i64)) (.t 14) (.t 15), none, [], []⟩,
    ⟨some 17, .load (.d (.int .i64)) (.t 16), none, [], []⟩,
    ⟨some 18, .bin .add (.t 12) (.t 17), none, [], []⟩,
    ⟨some 3, .move (.t 18), none, [], []⟩]) (innkeepref11_Sum.c11))) (innkeepref11_Sum.c10)
def innkeepref11_Sum.c5 : Cd := .tidy [] [] [] (some 1)
def innkeepref11_Sum.c4 : Cd := .seq (.seq (.seq (.seq (.reg false [⟨some 5, .move (.t 4), none, [], []⟩,
    ⟨some 6, .fieldAddr (.d tWorld) 2 (.t 1), none, [], []⟩,
    ⟨some 7, .load (.d (.sl (.int .i64))) (.t 6), none, [], []⟩,
    ⟨some 8, .len (.t 7), none, [], []⟩,
    ⟨some 9, .bin .lss (.t 5) (.t 8), none, [], []⟩]) (innkeepref11_Sum.c8)) (innkeepref11_Sum.c7)) (innkeepref11_Sum.c6)) (innkeepref11_Sum.c5)
def innkeepref11_Sum.c3 : Cd := .block 0 (.loop (innkeepref11_Sum.c4))
def innkeepref11_Sum.c15 : Cd := .tidy [19] [] [] none
def innkeepref11_Sum.c14 : Cd := .ret
def innkeepref11_Sum.c2 : Cd := .seq (.seq (.reg false [⟨some 19, .move (.t 3), none, [], []⟩,
    ⟨some 2, .move (.t 19), none, [], []⟩]) (innkeepref11_Sum.c15)) (innkeepref11_Sum.c14)
def innkeepref11_Sum.c1 : Cd := .seq (.seq (.reg false [⟨some 4, .move (.c (.int .i64) (0 : Int)), none, [], []⟩]) (innkeepref11_Sum.c3)) (innkeepref11_Sum.c2)
def innkeepref11_Sum.c0 : Cd := .seq (.reg false [⟨some 3, .move (.c (.int .i64) (0 : Int)), none, [], []⟩]) (innkeepref11_Sum.c1)
def innkeepref11_Sum.fn : Fn := ⟨1, [.tmp 2], .seq (.reg false [⟨some 1, .box 0 (.t 0), none, [], []⟩,
    ⟨some 2, .move (.c (.int .i64) (0 : Int)), none, [], []⟩]) (innkeepref11_Sum.c0)⟩
def innkeepref09_Others.c2 : Cd := .tidy [9, 10] [] [] none
def innkeepref09_Others.c9 : Cd := .tidy [11, 12, 13] [] [] none
def innkeepref09_Others.c10 : Cd := .skip
def innkeepref09_Others.c20 : Cd := .exit 0
def innkeepref09_Others.c8 : Cd := .cond (.t 14) (.seq (.tidy [14] [] [] none) (innkeepref09_Others.c10)) (.seq (.tidy [14] [] [] none) (innkeepref09_Others.c20))
def innkeepref09_Others.c14 : Cd := .tidy [17, 18, 19, 20, 21, 22, 23, 24, 25, 26, 27, 28, 29, 30, 31, 32, 33, 34, 35, 36, 37, 38, 39] [] [] none
def innkeepref09_Others.c16 : Cd := .ret
def innkeepref09_Others.c15 : Cd := .seq (.reg false [⟨some 6, .move (.c .bool false), none, [], []⟩]) (innkeepref09_Others.c16)
def innkeepref09_Others.c17 : Cd := .skip
def innkeepref09_Others.c13 : Cd := .cond (.t 40) (.seq (.tidy [40] [] [] none) (innkeepref09_Others.c15)) (.seq (.tidy [40] [] [] none) (innkeepref09_Others.c17))
def innkeepref09_Others.c18 : Cd := .tidy [41, 42, 43, 44, 45, 46, 47, 48, 49, 50, 51, 52, 53, 54, 55] [] [] none
def innkeepref09_Others.c12 : Cd := .seq (.reg true [⟨some 41, .fieldAddr (.d tWorld) 3 (.t 7), none, [2], []⟩,
    ⟨some 42, .load (.d (.sl tPlace)) (.t 41), none, [2], []⟩,
    ⟨some 43, .move (.t 2), none, [], []⟩,
    ⟨some 44, .move (.t 8), none, [], []⟩,
    ⟨some 45, .index (.sl (.int .i64)) (.t 43) (.t 44), none, [], []⟩,
    ⟨some 46, .load (.d (.int .i64)) (.t 45), none, [], []⟩,
    ⟨some 47, .fieldAddr (.d tWorld) 3 (.t 4), none, [1], []⟩,
    ⟨some 48, .load (.d (.sl tPlace)) (.t 47), none, [1], []⟩,
    ⟨some 49, .move (.t 2), none, [], []⟩,
    ⟨some 50, .move (.t 8), none, [], []⟩,
    ⟨some 51, .index (.sl (.int .i64)) (.t 49) (.t 50), none, [], []⟩,
    ⟨some 52, .load (.d (.int .i64)) (.t 51), none, [], []⟩,
    ⟨some 53, .index (.sl tPlace) (.t 48) (.t 52), none, [], []⟩,
    ⟨some 54, .load (.d tPlace) (.t 53), none, [], []⟩,
    ⟨some 55, .index (.sl tPlace) (.t 42) (.t 46), none, [3], []⟩,
    ⟨none, .store (.d tPlace) (.t 55) (.t 54), none, [], [3]⟩]) (innkeepref09_Others.c18)
def innkeepref09_Others.c19 : Cd := .tidy [15, 16] [] [] none
def innkeepref09_Others.c11 : Cd := .seq (.reg false [⟨some 15, .move (.t 8), none, [], []⟩,
    ⟨some 16, .bin .add (.t 15) (.c (.int .i64) (1 : Int)), none, [], []⟩,
    ⟨some 8, .move (.t 16), none, [], []⟩]) (innkeepref09_Others.c19)
def innkeepref09_Others.c7 : Cd := .seq (.block 1 (.seq (.seq (.seq (.reg true [⟨some 17, .move (.t 2), none, [], []⟩,
    ⟨some 18, .move (.t 8), none, [], []⟩,
    ⟨some 19, .index (.sl (.int .i64)) (.t 17) (.t 18), none, [], []⟩,
    ⟨some 20, .load (.d (.int .i64)) (.t 19), none, [], []⟩,
    ⟨some 21, .bin .lss (.t 20) (.c (.int .i64) (0 : Int)), none, [], []⟩,
    ⟨some 22, .move (.t 21), none, [], []⟩,
    ⟨some 23, .move (.t 2), some (22, false), [], []⟩,
    ⟨some 24, .move (.t 8), some (22, false), [], []⟩,
    ⟨some 25, .index (.sl (.int .i64)) (.t 23) (.t 24), some (22, false), [], []⟩,
    ⟨some 26, .load (.d (.int .i64)) (.t 25), some (22, false), [], []⟩,
    ⟨some 27, .fieldAddr (.d tWorld) 3 (.t 7), some (22, false), [2], []⟩,
    ⟨some 28, .load (.d (.sl tPlace)) (.t 27), some (22, false), [2], []⟩,
    ⟨some 29, .len (.t 28), some (22, false), [3], []⟩,
    ⟨some 30, .bin .geq (.t 26) (.t 29), some (22, false), [], []⟩,
    ⟨some 31, .pick (.t 22) (.c .bool true) (.t 30), none, [], []⟩,
    ⟨some 32, .move (.t 31), none, [], []⟩,
    ⟨some 33, .fieldAddr (.d tWorld) 3 (.t 7), some (32, false), [2], []⟩,
    ⟨some 34, .load (.d (.sl tPlace)) (.t 33), some (32, false), [2], []⟩,
    ⟨some 35, .len (.t 34), some (32, false), [3], []⟩,
    ⟨some 36, .fieldAddr (.d tWorld) 3 (.t 4), some (32, false), [1], []⟩,
    ⟨some 37, .load (.d (.sl tPlace)) (.t 36), some (32, false), [1], []⟩,
    ⟨some 38, .len (.t 37), some (32, false), [], []⟩,
    ⟨some 39, .bin .neq (.t 35) (.t 38), some (32, false), [], []⟩,
    ⟨some 40, .pick (.t 32) (.c .bool true) (.t 39), none, [], []⟩]) (innkeepref09_Others.c14)) (innkeepref09_Others.c13)) (innkeepref09_Others.c12))) (innkeepref09_Others.c11)
def innkeepref09_Others.c6 : Cd := .tidy [] [] [] (some 4)
def innkeepref09_Others.c5 : Cd := .seq (.seq (.seq (.seq (.reg false [⟨some 11, .move (.t 8), none, [], []⟩,
    ⟨some 12, .move (.t 2), none, [], []⟩,
    ⟨some 13, .len (.t 12), none, [], []⟩,
    ⟨some 14, .bin .lss (.t 11) (.t 13), none, [], []⟩]) (innkeepref09_Others.c9)) (innkeepref09_Others.c8)) (innkeepref09_Others.c7)) (innkeepref09_Others.c6)
def innkeepref09_Others.c4 : Cd := .block 0 (.loop (innkeepref09_Others.c5))
def innkeepref09_Others.c22 : Cd := .tidy [56, 57, 58] [] [] none
def innkeepref09_Others.c21 : Cd := .ret
def innkeepref09_Others.c3 : Cd := .seq (.seq (.reg false [⟨some 56, .load (.d tWorld) (.t 7), none, [], []⟩,
    ⟨some 57, .load (.d tWorld) (.t 4), none, [], []⟩,
    ⟨some 58, .call (.f 15) [(.t 56), (.t 57)] [.d .bool] [] false, none, [], []⟩,
    ⟨some 6, .move (.t 58), none, [], []⟩]) (innkeepref09_Others.c22)) (innkeepref09_Others.c21)
def innkeepref09_Others.c1 : Cd := .seq (.seq (.reg false [⟨some 8, .move (.c (.int .i64) (0 : Int)), none, [], []⟩]) (innkeepref09_Others.c4)) (innkeepref09_Others.c3)
def innkeepref09_Others.c0 : Cd := .seq (.seq (.reg false [⟨some 9, .load (.d tWorld) (.t 3), none, [], []⟩,
    ⟨some 10, .call (.f 18) [(.t 9)] [.d tWorld] [((0, [3]), 3)] false, none, [], []⟩,
    ⟨some 7, .newbox 2 tWorld [], none, [], []⟩,
    ⟨none, .store (.d tWorld) (.t 7) (.t 10), none, [], []⟩]) (innkeepref09_Others.c2)) (innkeepref09_Others.c1)
def innkeepref09_Others.fn : Fn := ⟨3, [.tmp 6], .seq (.reg false [⟨some 3, .box 0 (.t 0), none, [], []⟩,
    ⟨some 4, .box 1 (.t 1), none, [], []⟩,
    ⟨some 6, .move (.c .bool false), none, [], []⟩]) (innkeepref09_Others.c0)⟩
def innkeeplaw11_GiftsKeep.c3 : Cd := .tidy [16, 17, 18, 19, 20, 21, 22, 23, 24, 25, 26, 27, 28, 29, 30, 31, 32, 33, 34, 35, 36] [] [] none
def innkeeplaw11_GiftsKeep.c6 : Cd := .tidy [38] [] [] none
def innkeeplaw11_GiftsKeep.c5 : Cd := .ret
def innkeeplaw11_GiftsKeep.c4 : Cd := .seq (.seq (.reg false [⟨some 38, .call (.f 7) [] [.d .bool] [] false, none, [], []⟩,
    ⟨some 6, .move (.t 38), none, [], []⟩]) (innkeeplaw11_GiftsKeep.c6)) (innkeeplaw11_GiftsKeep.c5)
def innkeeplaw11_GiftsKeep.c7 : Cd := .skip
def innkeeplaw11_GiftsKeep.c2 : Cd := .cond (.t 37) (.seq (.tidy [37] [] [] none) (innkeeplaw11_GiftsKeep.c4)) (.seq (.tidy [37] [] [] none) (innkeeplaw11_GiftsKeep.c7))
def innkeeplaw11_GiftsKeep.c9 : Cd := .tidy [39, 40, 41, 42, 43, 44] [] [] none
def innkeeplaw11_GiftsKeep.c11 : Cd := .tidy [45, 46, 47, 48, 49, 50, 51] [] [] none
def innkeeplaw11_GiftsKeep.c14 : Cd := .tidy [52] [] [] none
def innkeeplaw11_GiftsKeep.c17 : Cd := .tidy [54, 55, 56] [] [] none
def innkeeplaw11_GiftsKeep.c16 : Cd := .ret
def innkeeplaw11_GiftsKeep.c15 : Cd := .seq (.seq (.reg false [⟨some 54, .load (.d tWorld) (.t 8), none, [], []⟩,
    ⟨some 55, .load (.d tWorld) (.t 3), none, [], []⟩,
    ⟨some 56, .call (.f 15) [(.t 54), (.t 55)] [.d .bool] [] false, none, [], []⟩,
    ⟨some 6, .move (.t 56), none, [], []⟩]) (innkeeplaw11_GiftsKeep.c17)) (innkeeplaw11_GiftsKeep.c16)
def innkeeplaw11_GiftsKeep.c18 : Cd := .skip
def innkeeplaw11_GiftsKeep.c13 : Cd := .cond (.t 53) (.seq (.tidy [53] [] [] none) (innkeeplaw11_GiftsKeep.c15)) (.seq (.tidy [53] [] [] none) (innkeeplaw11_GiftsKeep.c18))
def innkeeplaw11_GiftsKeep.c21 : Cd := .tidy [57, 58, 59, 60, 61, 62, 63, 64, 65, 66, 67, 68, 69, 70, 71, 72, 73, 74, 75, 76, 77, 78] [] [] none
def innkeeplaw11_GiftsKeep.c23 : Cd := .ret
def innkeeplaw11_GiftsKeep.c22 : Cd := .seq (.reg false [⟨some 6, .move (.c .bool false), none, [], []⟩]) (innkeeplaw11_GiftsKeep.c23)
def innkeeplaw11_GiftsKeep.c24 : Cd := .skip
def innkeeplaw11_GiftsKeep.c20 : Cd := .cond (.t 79) (.seq (.tidy [79] [] [] none) (innkeeplaw11_GiftsKeep.c22)) (.seq (.tidy [79] [] [] none) (innkeeplaw11_GiftsKeep.c24))
def innkeeplaw11_GiftsKeep.c26 : Cd := .tidy [80, 81, 82, 83, 84, 85, 86] [] [] none
def innkeeplaw11_GiftsKeep.c28 : Cd := .tidy [87, 88] [] [] none
def innkeeplaw11_GiftsKeep.c30 : Cd := .tidy [89, 90, 91, 92, 93] [] [] none
def innkeeplaw11_GiftsKeep.c33 : Cd := .tidy [94, 95, 96, 97] [] [] none
def innkeeplaw11_GiftsKeep.c35 : Cd := .ret
def innkeeplaw11_GiftsKeep.c34 : Cd := .seq (.reg false [⟨some 6, .move (.c .bool false), none, [], []⟩]) (innkeeplaw11_GiftsKeep.c35)
def innkeeplaw11_GiftsKeep.c36 : Cd := .skip
def innkeeplaw11_GiftsKeep.c32 : Cd := .cond (.t 98) (.seq (.tidy [98] [] [] none) (innkeeplaw11_GiftsKeep.c34)) (.seq (.tidy [98] [] [] none) (innkeeplaw11_GiftsKeep.c36))
def innkeeplaw11_GiftsKeep.c43 : Cd := .tidy [99, 100, 101, 102] [] [] none
def innkeeplaw11_GiftsKeep.c44 : Cd := .skip
def innkeeplaw11_GiftsKeep.c52 : Cd := .exit 0
def innkeeplaw11_GiftsKeep.c42 : Cd := .cond (.t 103) (.seq (.tidy [103] [] [] none) (innkeeplaw11_GiftsKeep.c44)) (.seq (.tidy [103] [] [] none) (innkeeplaw11_GiftsKeep.c52))
def innkeeplaw11_GiftsKeep.c47 : Cd := .tidy [106, 107, 108, 109, 110, 111, 112, 113, 114, 115, 116, 117, 118, 119, 120, 121, 122, 123, 124, 125, 126] [] [] none
def innkeeplaw11_GiftsKeep.c49 : Cd := .ret
def innkeeplaw11_GiftsKeep.c48 : Cd := .seq (.reg false [⟨some 6, .move (.c .bool false), none, [], []⟩]) (innkeeplaw11_GiftsKeep.c49)
def innkeeplaw11_GiftsKeep.c50 : Cd := .skip
def innkeeplaw11_GiftsKeep.c46 : Cd := .cond (.t 127) (.seq (.tidy [127] [] [] none) (innkeeplaw11_GiftsKeep.c48)) (.seq (.tidy [127] [] [] none) (innkeeplaw11_GiftsKeep.c50))
def innkeeplaw11_GiftsKeep.c51 : Cd := .tidy [104, 105] [] [] none
def innkeeplaw11_GiftsKeep.c45 : Cd := .seq (.reg false [⟨some 104, .move (.t 12), none, [], []⟩,
    ⟨some 105, .bin .add (.t 104) (.c (.int .i64) (1 : Int)), none, [], []⟩,
    ⟨some 12, .move (.t 105), none, [], []⟩]) (innkeeplaw11_GiftsKeep.c51)
def innkeeplaw11_GiftsKeep.c41 : Cd := .seq (.block 1 (.seq (.seq (.reg true [⟨some 106, .move (.t 12), none, [], []⟩,
    ⟨some 107, .move (.t 7), none, [], []⟩,
    ⟨some 108, .bin .neq (.t 106) (.t 107), none, [], []⟩,
    ⟨some 109, .move (.t 108), none, [], []⟩,
    ⟨some 110, .move (.t 12), some (109, true), [], []⟩,
    ⟨some 111, .fieldAddr (.d tCmd) 4 (.t 5), some (109, true), [1], []⟩,
    ⟨some 112, .load (.d (.int .i64)) (.t 111), some (109, true), [1], []⟩,
    ⟨some 113, .bin .neq (.t 110) (.t 112), some (109, true), [], []⟩,
    ⟨some 114, .pick (.t 109) (.t 113) (.c .bool false), none, [], []⟩,
    ⟨some 115, .move (.t 114), none, [], []⟩,
    ⟨some 116, .fieldAddr (.d tWorld) 2 (.t 8), some (115, true), [2], []⟩,
    ⟨some 117, .load (.d (.sl (.int .i64))) (.t 116), some (115, true), [2], []⟩,
    ⟨some 118, .move (.t 12), some (115, true), [], []⟩,
    ⟨some 119, .index (.sl (.int .i64)) (.t 117) (.t 118), some (115, true), [], []⟩,
    ⟨some 120, .load (.d (.int .i64)) (.t 119), some (115, true), [], []⟩,
    ⟨some 121, .fieldAddr (.d tWorld) 2 (.t 3), some (115, true), [0], []⟩,
    ⟨some 122, .load (.d (.sl (.int .i64))) (.t 121), some (115, true), [0], []⟩,
    ⟨some 123, .move (.t 12), some (115, true), [], []⟩,
    ⟨some 124, .index (.sl (.int .i64)) (.t 122) (.t 123), some (115, true), [], []⟩,
    ⟨some 125, .load (.d (.int .i64)) (.t 124), some (115, true), [], []⟩,
    ⟨some 126, .bin .neq (.t 120) (.t 125), some (115, true), [], []⟩,
    ⟨some 127, .pick (.t 115) (.t 126) (.c .bool false), none, [], []⟩]) (innkeeplaw11_GiftsKeep.c47)) (innkeeplaw11_GiftsKeep.c46))) (innkeeplaw11_GiftsKeep.c45)
def innkeeplaw11_GiftsKeep.c40 : Cd := .tidy [] [] [] (some 9)
def innkeeplaw11_GiftsKeep.c39 : Cd := .seq (.seq (.seq (.seq (.reg false [⟨some 99, .move (.t 12), none, [], []⟩,
    ⟨some 100, .fieldAddr (.d tWorld) 2 (.t 3), none, [], []⟩,
    ⟨some 101, .load (.d (.sl (.int .i64))) (.t 100), none, [], []⟩,
    ⟨some 102, .len (.t 101), none, [], []⟩,
    ⟨some 103, .bin .lss (.t 99) (.t 102), none, [], []⟩]) (innkeeplaw11_GiftsKeep.c43)) (innkeeplaw11_GiftsKeep.c42)) (innkeeplaw11_GiftsKeep.c41)) (innkeeplaw11_GiftsKeep.c40)
def innkeeplaw11_GiftsKeep.c38 : Cd := .block 0 (.loop (innkeeplaw11_GiftsKeep.c39))
def innkeeplaw11_GiftsKeep.c54 : Cd := .tidy [128, 129, 130, 131, 132, 133, 134, 135, 136, 137] [] [] none
def innkeeplaw11_GiftsKeep.c56 : Cd := .tidy [138, 139, 140, 141, 142, 143, 144, 145] [] [] none
def innkeeplaw11_GiftsKeep.c58 : Cd := .tidy [146, 147, 148, 149, 150, 151, 152, 153, 154, 155, 156, 157, 158, 159, 160, 161, 162, 163, 164, 165, 166, 167, 168, 169, 170, 171] [] [] none
def innkeeplaw11_GiftsKeep.c57 : Cd := .ret
def innkeeplaw11_GiftsKeep.c55 : Cd := .seq (.seq (.reg true [⟨some 146, .move (.t 15), none, [], []⟩,
    ⟨some 147, .bin .eql (.t 146) (.c (.int .i64) (0 : Int)), none, [], []⟩,
    ⟨some 148, .move (.t 147), none, [], []⟩,
    ⟨some 149, .load (.d tWorld) (.t 14), some (148, true), [10], []⟩,
    ⟨some 150, .load (.d tWorld) (.t 3), some (148, true), [0], []⟩,
    ⟨some 151, .call (.f 15) [(.t 149), (.t 150)] [.d .bool] [] false, some (148, true), [], []⟩,
    ⟨some 152, .pick (.t 148) (.t 151) (.c .bool false), none, [], []⟩,
    ⟨some 153, .move (.t 152), none, [], []⟩,
    ⟨some 154, .fieldAddr (.d tWorld) 2 (.t 8), some (153, true), [2], []⟩,
    ⟨some 155, .load (.d (.sl (.int .i64))) (.t 154), some (153, true), [2], []⟩,
    ⟨some 156, .move (.t 7), some (153, true), [], []⟩,
    ⟨some 157, .index (.sl (.int .i64)) (.t 155) (.t 156), some (153, true), [], []⟩,
    ⟨some 158, .load (.d (.int .i64)) (.t 157), some (153, true), [], []⟩,
    ⟨some 159, .fieldAddr (.d tWorld) 2 (.t 3), some (153, true), [0], []⟩,
    ⟨some 160, .load (.d (.sl (.int .i64))) (.t 159), some (153, true), [0], []⟩,
    ⟨some 161, .move (.t 7), some (153, true), [], []⟩,
    ⟨some 162, .index (.sl (.int .i64)) (.t 160) (.t 161), some (153, true), [], []⟩,
    ⟨some 163, .load (.d (.int .i64)) (.t 162), some (153, true), [], []⟩,
    ⟨some 164, .fieldAddr (.d tCmd) 6 (.t 5), some (153, true), [1], []⟩,
    ⟨some 165, .load (.d (.int .i64)) (.t 164), some (153, true), [1], []⟩,
    ⟨some 166, .bin .sub (.t 163) (.t 165), some (153, true), [], []⟩,
    ⟨some 167, .fieldAddr (.d tCmd) 8 (.t 5), some (153, true), [1], []⟩,
    ⟨some 168, .load (.d (.int .i64)) (.t 167), some (153, true), [1], []⟩,
    ⟨some 169, .bin .add (.t 166) (.t 168), some (153, true), [], []⟩,
    ⟨some 170, .bin .eql (.t 158) (.t 169), some (153, true), [], []⟩,
    ⟨some 171, .pick (.t 153) (.t 170) (.c .bool false), none, [], []⟩,
    ⟨some 6, .move (.t 171), none, [], []⟩]) (innkeeplaw11_GiftsKeep.c58)) (innkeeplaw11_GiftsKeep.c57)
def innkeeplaw11_GiftsKeep.c53 : Cd := .seq (.seq (.reg false [⟨some 139, .load (.d tWorld) (.t 8), none, [], []⟩,
    ⟨some 140, .fieldAddr (.d tCmd) 4 (.t 5), none, [], []⟩,
    ⟨some 141, .load (.d (.int .i64)) (.t 140), none, [], []⟩,
    ⟨some 142, .load (.d tCmd) (.t 13), none, [], []⟩,
    ⟨some 143, .call (.f 13) [(.t 139), (.t 141), (.t 142)] [.d tWorld, .d (.int .i64)] [] false, none, [], []⟩,
    ⟨some 138, .move (.t 143), none, [], []⟩,
    ⟨some 144, .extract (.t 138) 0, none, [], []⟩,
    ⟨some 145, .extract (.t 138) 1, none, [], []⟩,
    ⟨some 14, .newbox 10 tWorld [], none, [], []⟩,
    ⟨none, .store (.d tWorld) (.t 14) (.t 144), none, [], []⟩,
    ⟨some 15, .move (.t 145), none, [], []⟩]) (innkeeplaw11_GiftsKeep.c56)) (innkeeplaw11_GiftsKeep.c55)
def innkeeplaw11_GiftsKeep.c37 : Cd := .seq (.seq (.reg false [⟨some 128, .move (.t 7), none, [], []⟩,
    ⟨some 129, .fieldAddr (.d tCmd) 5 (.t 5), none, [], []⟩,
    ⟨some 130, .load (.d (.sl (.int .i64))) (.t 129), none, [], []⟩,
    ⟨some 131, .fieldAddr (.d tCmd) 6 (.t 5), none, [], []⟩,
    ⟨some 132, .load (.d (.int .i64)) (.t 131), none, [], []⟩,
    ⟨some 133, .fieldAddr (.d tCmd) 7 (.t 5), none, [], []⟩,
    ⟨some 134, .load (.d (.sl (.int .i64))) (.t 133), none, [], []⟩,
    ⟨some 135, .fieldAddr (.d tCmd) 8 (.t 5), none, [], []⟩,
    ⟨some 136, .load (.d (.int .i64)) (.t 135), none, [], []⟩,
    ⟨some 137, .build tCmd [(0, (.c (.int .i64) (8 : Int))), (4, (.t 128)), (5, (.t 130)), (6, (.t 132)), (7, (.t 134)), (8, (.t 136))] [], none, [], []⟩,
    ⟨some 13, .newbox 9 tCmd [], none, [], []⟩,
    ⟨none, .store (.d tCmd) (.t 13) (.t 137), none, [], []⟩]) (innkeeplaw11_GiftsKeep.c54)) (innkeeplaw11_GiftsKeep.c53)
def innkeeplaw11_GiftsKeep.c31 : Cd := .seq (.seq (.reg false [⟨some 12, .move (.c (.int .i64) (0 : Int)), none, [], []⟩]) (innkeeplaw11_GiftsKeep.c38)) (innkeeplaw11_GiftsKeep.c37)
def innkeeplaw11_GiftsKeep.c29 : Cd := .seq (.seq (.seq (.reg false [⟨some 94, .load (.d tWorld) (.t 3), none, [], []⟩,
    ⟨some 95, .load (.d tWorld) (.t 11), none, [], []⟩,
    ⟨some 96, .move (.t 10), none, [], []⟩,
    ⟨some 97, .call (.f 19) [(.t 94), (.t 95), (.t 96)] [.d .bool] [] false, none, [], []⟩,
    ⟨some 98, .not (.t 97), none, [], []⟩]) (innkeeplaw11_GiftsKeep.c33)) (innkeeplaw11_GiftsKeep.c32)) (innkeeplaw11_GiftsKeep.c31)
def innkeeplaw11_GiftsKeep.c27 : Cd := .seq (.seq (.reg false [⟨some 89, .slice 7 (.int .i64) [], none, [], []⟩,
    ⟨some 90, .fieldAddr (.d tWorld) 2 (.t 3), none, [], []⟩,
    ⟨some 91, .load (.d (.sl (.int .i64))) (.t 90), none, [], []⟩,
    ⟨some 92, .append 8 (.int .i64) (.t 89) (.t 91), none, [], []⟩,
    ⟨some 93, .fieldAddr (.d tWorld) 2 (.t 11), none, [], []⟩,
    ⟨none, .store (.d (.sl (.int .i64))) (.t 93) (.t 92), none, [], []⟩]) (innkeeplaw11_GiftsKeep.c30)) (innkeeplaw11_GiftsKeep.c29)
def innkeeplaw11_GiftsKeep.c25 : Cd := .seq (.seq (.reg false [⟨some 87, .load (.d tWorld) (.t 8), none, [], []⟩,
    ⟨some 88, .call (.f 18) [(.t 87)] [.d tWorld] [] false, none, [], []⟩,
    ⟨some 11, .newbox 6 tWorld [], none, [], []⟩,
    ⟨none, .store (.d tWorld) (.t 11) (.t 88), none, [], []⟩]) (innkeeplaw11_GiftsKeep.c28)) (innkeeplaw11_GiftsKeep.c27)
def innkeeplaw11_GiftsKeep.c19 : Cd := .seq (.seq (.reg true [⟨some 80, .slice 3 (.int .i64) [], none, [], [3]⟩,
    ⟨some 81, .fieldAddr (.d tCmd) 5 (.t 5), none, [1], []⟩,
    ⟨some 82, .load (.d (.sl (.int .i64))) (.t 81), none, [1], []⟩,
    ⟨some 83, .append 4 (.int .i64) (.t 80) (.t 82), none, [], [3, 4]⟩,
    ⟨some 84, .fieldAddr (.d tCmd) 7 (.t 5), none, [1], []⟩,
    ⟨some 85, .load (.d (.sl (.int .i64))) (.t 84), none, [1], []⟩,
    ⟨some 86, .append 5 (.int .i64) (.t 83) (.t 85), none, [], [4, 5]⟩,
    ⟨some 10, .move (.t 86), none, [], []⟩]) (innkeeplaw11_GiftsKeep.c26)) (innkeeplaw11_GiftsKeep.c25)
def innkeeplaw11_GiftsKeep.c12 : Cd := .seq (.seq (.seq (.reg true [⟨some 57, .load (.d tWorld) (.t 8), none, [2], []⟩,
    ⟨some 58, .call (.f 16) [(.t 57)] [.d (.int .i64)] [] false, none, [], []⟩,
    ⟨some 59, .load (.d tWorld) (.t 3), none, [0], []⟩,
    ⟨some 60, .call (.f 16) [(.t 59)] [.d (.int .i64)] [] false, none, [], []⟩,
    ⟨some 61, .bin .neq (.t 58) (.t 60), none, [], []⟩,
    ⟨some 62, .move (.t 61), none, [], []⟩,
    ⟨some 63, .load (.d tWorld) (.t 8), some (62, false), [2], []⟩,
    ⟨some 64, .call (.f 17) [(.t 63)] [.d .bool] [] false, some (62, false), [], []⟩,
    ⟨some 65, .not (.t 64), some (62, false), [], []⟩,
    ⟨some 66, .pick (.t 62) (.c .bool true) (.t 65), none, [], []⟩,
    ⟨some 67, .move (.t 66), none, [], []⟩,
    ⟨some 68, .fieldAddr (.d tCmd) 4 (.t 5), some (67, false), [1], []⟩,
    ⟨some 69, .load (.d (.int .i64)) (.t 68), some (67, false), [1], []⟩,
    ⟨some 70, .bin .lss (.t 69) (.c (.int .i64) (0 : Int)), some (67, false), [], []⟩,
    ⟨some 71, .pick (.t 67) (.c .bool true) (.t 70), none, [], []⟩,
    ⟨some 72, .move (.t 71), none, [], []⟩,
    ⟨some 73, .fieldAddr (.d tCmd) 4 (.t 5), some (72, false), [1], []⟩,
    ⟨some 74, .load (.d (.int .i64)) (.t 73), some (72, false), [1], []⟩,
    ⟨some 75, .fieldAddr (.d tWorld) 1 (.t 3), some (72, false), [0], []⟩,
    ⟨some 76, .load (.d (.sl (.int .i64))) (.t 75), some (72, false), [0], []⟩,
    ⟨some 77, .len (.t 76), some (72, false), [], []⟩,
    ⟨some 78, .bin .geq (.t 74) (.t 77), some (72, false), [], []⟩,
    ⟨some 79, .pick (.t 72) (.c .bool true) (.t 78), none, [], []⟩]) (innkeeplaw11_GiftsKeep.c21)) (innkeeplaw11_GiftsKeep.c20)) (innkeeplaw11_GiftsKeep.c19)
def innkeeplaw11_GiftsKeep.c10 : Cd := .seq (.seq (.seq (.reg false [⟨some 52, .move (.t 9), none, [], []⟩,
    ⟨some 53, .bin .neq (.t 52) (.c (.int .i64) (0 : Int)), none, [], []⟩]) (innkeeplaw11_GiftsKeep.c14)) (innkeeplaw11_GiftsKeep.c13)) (innkeeplaw11_GiftsKeep.c12)
def innkeeplaw11_GiftsKeep.c8 : Cd := .seq (.seq (.reg false [⟨some 46, .load (.d tWorld) (.t 3), none, [], []⟩,
    ⟨some 47, .move (.t 7), none, [], []⟩,
    ⟨some 48, .load (.d tCmd) (.t 5), none, [], []⟩,
    ⟨some 49, .call (.f 13) [(.t 46), (.t 47), (.t 48)] [.d tWorld, .d (.int .i64)] [] false, none, [], []⟩,
    ⟨some 45, .move (.t 49), none, [], []⟩,
    ⟨some 50, .extract (.t 45) 0, none, [], []⟩,
    ⟨some 51, .extract (.t 45) 1, none, [], []⟩,
    ⟨some 8, .newbox 2 tWorld [], none, [], []⟩,
    ⟨none, .store (.d tWorld) (.t 8) (.t 50), none, [], []⟩,
    ⟨some 9, .move (.t 51), none, [], []⟩]) (innkeeplaw11_GiftsKeep.c11)) (innkeeplaw11_GiftsKeep.c10)
def innkeeplaw11_GiftsKeep.c1 : Cd := .seq (.seq (.reg false [⟨some 39, .move (.t 1), none, [], []⟩,
    ⟨some 40, .conv .i64 (.t 39), none, [], []⟩,
    ⟨some 41, .fieldAddr (.d tWorld) 1 (.t 3), none, [], []⟩,
    ⟨some 42, .load (.d (.sl (.int .i64))) (.t 41), none, [], []⟩,
    ⟨some 43, .len (.t 42), none, [], []⟩,
    ⟨some 44, .bin .rem (.t 40) (.t 43), none, [], []⟩,
    ⟨some 7, .move (.t 44), none, [], []⟩]) (innkeeplaw11_GiftsKeep.c9)) (innkeeplaw11_GiftsKeep.c8)
def innkeeplaw11_GiftsKeep.c0 : Cd := .seq (.seq (.seq (.reg false [⟨some 16, .call (.f 7) [] [.d .bool] [] false, none, [], []⟩,
    ⟨some 17, .not (.t 16), none, [], []⟩,
    ⟨some 18, .move (.t 17), none, [], []⟩,
    ⟨some 19, .load (.d tWorld) (.t 3), some (18, false), [], []⟩,
    ⟨some 20, .call (.f 8) [(.t 19)] [.d .bool] [] false, some (18, false), [], []⟩,
    ⟨some 21, .not (.t 20), some (18, false), [], []⟩,
    ⟨some 22, .pick (.t 18) (.c .bool true) (.t 21), none, [], []⟩,
    ⟨some 23, .move (.t 22), none, [], []⟩,
    ⟨some 24, .load (.d tCmd) (.t 5), some (23, false), [], []⟩,
    ⟨some 25, .call (.f 9) [(.t 24)] [.d .bool] [] false, some (23, false), [], []⟩,
    ⟨some 26, .not (.t 25), some (23, false), [], []⟩,
    ⟨some 27, .pick (.t 23) (.c .bool true) (.t 26), none, [], []⟩,
    ⟨some 28, .move (.t 27), none, [], []⟩,
    ⟨some 29, .load (.d tCmd) (.t 5), some (28, false), [], []⟩,
    ⟨some 30, .call (.f 10) [(.t 29)] [.d .bool] [] false, some (28, false), [], []⟩,
    ⟨some 31, .not (.t 30), some (28, false), [], []⟩,
    ⟨some 32, .pick (.t 28) (.c .bool true) (.t 31), none, [], []⟩,
    ⟨some 33, .move (.t 32), none, [], []⟩,
    ⟨some 34, .fieldAddr (.d tCmd) 0 (.t 5), some (33, false), [], []⟩,
    ⟨some 35, .load (.d (.int .i64)) (.t 34), some (33, false), [], []⟩,
    ⟨some 36, .bin .neq (.t 35) (.c (.int .i64) (8 : Int)), some (33, false), [], []⟩,
    ⟨some 37, .pick (.t 33) (.c .bool true) (.t 36), none, [], []⟩]) (innkeeplaw11_GiftsKeep.c3)) (innkeeplaw11_GiftsKeep.c2)) (innkeeplaw11_GiftsKeep.c1)
def innkeeplaw11_GiftsKeep.fn : Fn := ⟨3, [.tmp 6], .seq (.reg false [⟨some 3, .box 0 (.t 0), none, [], []⟩,
    ⟨some 5, .box 1 (.t 2), none, [], []⟩,
    ⟨some 6, .move (.c .bool false), none, [], []⟩]) (innkeeplaw11_GiftsKeep.c0)⟩
def innkeeplaw11_GiftsGive.c3 : Cd := .tidy [16, 17, 18, 19, 20, 21, 22, 23, 24, 25, 26, 27, 28, 29, 30, 31, 32, 33, 34, 35, 36, 37] [] [] none
def innkeeplaw11_GiftsGive.c6 : Cd := .tidy [39] [] [] none
def innkeeplaw11_GiftsGive.c5 : Cd := .ret
def innkeeplaw11_GiftsGive.c4 : Cd := .seq (.seq (.reg false [⟨some 39, .call (.f 7) [] [.d .bool] [] false, none, [], []⟩,
    ⟨some 8, .move (.t 39), none, [], []⟩]) (innkeeplaw11_GiftsGive.c6)) (innkeeplaw11_GiftsGive.c5)
def innkeeplaw11_GiftsGive.c7 : Cd := .skip
def innkeeplaw11_GiftsGive.c2 : Cd := .cond (.t 38) (.seq (.tidy [38] [] [] none) (innkeeplaw11_GiftsGive.c4)) (.seq (.tidy [38] [] [] none) (innkeeplaw11_GiftsGive.c7))
def innkeeplaw11_GiftsGive.c9 : Cd := .tidy [40, 41, 42, 43, 44, 45] [] [] none
def innkeeplaw11_GiftsGive.c11 : Cd := .tidy [46, 47, 48, 49, 50, 51, 52, 53] [] [] none
def innkeeplaw11_GiftsGive.c13 : Cd := .tidy [54, 55, 56, 57, 58, 59, 60, 61, 62, 63] [] [] none
def innkeeplaw11_GiftsGive.c16 : Cd := .tidy [64, 65, 66, 67, 68, 69, 70, 71] [] [] none
def innkeeplaw11_GiftsGive.c18 : Cd := .ret
def innkeeplaw11_GiftsGive.c17 : Cd := .seq (.reg false [⟨some 8, .move (.c .bool false), none, [], []⟩]) (innkeeplaw11_GiftsGive.c18)
def innkeeplaw11_GiftsGive.c19 : Cd := .skip
def innkeeplaw11_GiftsGive.c15 : Cd := .cond (.t 72) (.seq (.tidy [72] [] [] none) (innkeeplaw11_GiftsGive.c17)) (.seq (.tidy [72] [] [] none) (innkeeplaw11_GiftsGive.c19))
def innkeeplaw11_GiftsGive.c22 : Cd := .tidy [73] [] [] none
def innkeeplaw11_GiftsGive.c25 : Cd := .tidy [75, 76, 77] [] [] none
def innkeeplaw11_GiftsGive.c24 : Cd := .ret
def innkeeplaw11_GiftsGive.c23 : Cd := .seq (.seq (.reg false [⟨some 75, .load (.d tWorld) (.t 10), none, [], []⟩,
    ⟨some 76, .load (.d tWorld) (.t 4), none, [], []⟩,
    ⟨some 77, .call (.f 15) [(.t 75), (.t 76)] [.d .bool] [] false, none, [], []⟩,
    ⟨some 8, .move (.t 77), none, [], []⟩]) (innkeeplaw11_GiftsGive.c25)) (innkeeplaw11_GiftsGive.c24)
def innkeeplaw11_GiftsGive.c26 : Cd := .skip
def innkeeplaw11_GiftsGive.c21 : Cd := .cond (.t 74) (.seq (.tidy [74] [] [] none) (innkeeplaw11_GiftsGive.c23)) (.seq (.tidy [74] [] [] none) (innkeeplaw11_GiftsGive.c26))
def innkeeplaw11_GiftsGive.c28 : Cd := .tidy [78, 79, 80, 81, 82, 83, 84, 85] [] [] none
def innkeeplaw11_GiftsGive.c30 : Cd := .tidy [86, 87, 88, 89, 90, 91, 92, 93, 94, 95, 96, 97, 98, 99, 100, 101, 102, 103] [] [] none
def innkeeplaw11_GiftsGive.c29 : Cd := .ret
def innkeeplaw11_GiftsGive.c27 : Cd := .seq (.seq (.reg false [⟨some 86, .move (.t 15), none, [], []⟩,
    ⟨some 87, .bin .eql (.t 86) (.c (.int .i64) (0 : Int)), none, [], []⟩,
    ⟨some 88, .move (.t 87), none, [], []⟩,
    ⟨some 89, .load (.d tWorld) (.t 14), some (88, true), [], []⟩,
    ⟨some 90, .load (.d tWorld) (.t 4), some (88, true), [], []⟩,
    ⟨some 91, .call (.f 15) [(.t 89), (.t 90)] [.d .bool] [] false, some (88, true), [], []⟩,
    ⟨some 92, .pick (.t 88) (.t 91) (.c .bool false), none, [], []⟩,
    ⟨some 93, .move (.t 92), none, [], []⟩,
    ⟨some 94, .load (.d tWorld) (.t 10), some (93, true), [], []⟩,
    ⟨some 95, .call (.f 17) [(.t 94)] [.d .bool] [] false, some (93, true), [], []⟩,
    ⟨some 96, .pick (.t 93) (.t 95) (.c .bool false), none, [], []⟩,
    ⟨some 97, .move (.t 96), none, [], []⟩,
    ⟨some 98, .load (.d tWorld) (.t 4), some (97, true), [], []⟩,
    ⟨some 99, .load (.d tWorld) (.t 10), some (97, true), [], []⟩,
    ⟨some 100, .move (.t 2), some (97, true), [], []⟩,
    ⟨some 101, .slice 5 (.int .i64) [(.t 100)], some (97, true), [], []⟩,
    ⟨some 102, .call (.f 19) [(.t 98), (.t 99), (.t 101)] [.d .bool] [] false, some (97, true), [], []⟩,
    ⟨some 103, .pick (.t 97) (.t 102) (.c .bool false), none, [], []⟩,
    ⟨some 8, .move (.t 103), none, [], []⟩]) (innkeeplaw11_GiftsGive.c30)) (innkeeplaw11_GiftsGive.c29)
def innkeeplaw11_GiftsGive.c20 : Cd := .seq (.seq (.reg false [⟨some 79, .load (.d tWorld) (.t 10), none, [], []⟩,
    ⟨some 80, .move (.t 3), none, [], []⟩,
    ⟨some 81, .move (.t 2), none, [], []⟩,
    ⟨some 82, .move (.t 9), none, [], []⟩,
    ⟨some 83, .call (.f 11) [(.t 79), (.t 80), (.t 81), (.t 82)] [.d tWorld, .d (.int .i64)] [] false, none, [], []⟩,
    ⟨some 78, .move (.t 83), none, [], []⟩,
    ⟨some 84, .extract (.t 78) 0, none, [], []⟩,
    ⟨some 85, .extract (.t 78) 1, none, [], []⟩,
    ⟨some 14, .newbox 4 tWorld [], none, [], []⟩,
    ⟨none, .store (.d tWorld) (.t 14) (.t 84), none, [], []⟩,
    ⟨some 15, .move (.t 85), none, [], []⟩]) (innkeeplaw11_GiftsGive.c28)) (innkeeplaw11_GiftsGive.c27)
def innkeeplaw11_GiftsGive.c14 : Cd := .seq (.seq (.seq (.reg false [⟨some 73, .move (.t 11), none, [], []⟩,
    ⟨some 74, .bin .neq (.t 73) (.c (.int .i64) (0 : Int)), none, [], []⟩]) (innkeeplaw11_GiftsGive.c22)) (innkeeplaw11_GiftsGive.c21)) (innkeeplaw11_GiftsGive.c20)
def innkeeplaw11_GiftsGive.c12 : Cd := .seq (.seq (.seq (.reg false [⟨some 64, .move (.t 11), none, [], []⟩,
    ⟨some 65, .move (.t 13), none, [], []⟩,
    ⟨some 66, .bin .neq (.t 64) (.t 65), none, [], []⟩,
    ⟨some 67, .move (.t 66), none, [], []⟩,
    ⟨some 68, .load (.d tWorld) (.t 10), some (67, false), [], []⟩,
    ⟨some 69, .load (.d tWorld) (.t 12), some (67, false), [], []⟩,
    ⟨some 70, .call (.f 15) [(.t 68), (.t 69)] [.d .bool] [] false, some (67, false), [], []⟩,
    ⟨some 71, .not (.t 70), some (67, false), [], []⟩,
    ⟨some 72, .pick (.t 67) (.c .bool true) (.t 71), none, [], []⟩]) (innkeeplaw11_GiftsGive.c16)) (innkeeplaw11_GiftsGive.c15)) (innkeeplaw11_GiftsGive.c14)
def innkeeplaw11_GiftsGive.c10 : Cd := .seq (.seq (.reg false [⟨some 55, .load (.d tWorld) (.t 4), none, [], []⟩,
    ⟨some 56, .move (.t 9), none, [], []⟩,
    ⟨some 57, .move (.t 3), none, [], []⟩,
    ⟨some 58, .move (.t 2), none, [], []⟩,
    ⟨some 59, .slice 2 (.int .i64) [(.t 58)], none, [], []⟩,
    ⟨some 60, .build tCmd [(0, (.c (.int .i64) (8 : Int))), (4, (.t 57)), (5, (.t 59))] [], none, [], []⟩,
    ⟨some 61, .call (.f 13) [(.t 55), (.t 56), (.t 60)] [.d tWorld, .d (.int .i64)] [] false, none, [], []⟩,
    ⟨some 54, .move (.t 61), none, [], []⟩,
    ⟨some 62, .extract (.t 54) 0, none, [], []⟩,
    ⟨some 63, .extract (.t 54) 1, none, [], []⟩,
    ⟨some 12, .newbox 3 tWorld [], none, [], []⟩,
    ⟨none, .store (.d tWorld) (.t 12) (.t 62), none, [], []⟩,
    ⟨some 13, .move (.t 63), none, [], []⟩]) (innkeeplaw11_GiftsGive.c13)) (innkeeplaw11_GiftsGive.c12)
def innkeeplaw11_GiftsGive.c8 : Cd := .seq (.seq (.reg false [⟨some 47, .load (.d tWorld) (.t 4), none, [], []⟩,
    ⟨some 48, .move (.t 9), none, [], []⟩,
    ⟨some 49, .move (.t 2), none, [], []⟩,
    ⟨some 50, .move (.t 3), none, [], []⟩,
    ⟨some 51, .call (.f 11) [(.t 47), (.t 48), (.t 49), (.t 50)] [.d tWorld, .d (.int .i64)] [] false, none, [], []⟩,
    ⟨some 46, .move (.t 51), none, [], []⟩,
    ⟨some 52, .extract (.t 46) 0, none, [], []⟩,
    ⟨some 53, .extract (.t 46) 1, none, [], []⟩,
    ⟨some 10, .newbox 1 tWorld [], none, [], []⟩,
    ⟨none, .store (.d tWorld) (.t 10) (.t 52), none, [], []⟩,
    ⟨some 11, .move (.t 53), none, [], []⟩]) (innkeeplaw11_GiftsGive.c11)) (innkeeplaw11_GiftsGive.c10)
def innkeeplaw11_GiftsGive.c1 : Cd := .seq (.seq (.reg false [⟨some 40, .move (.t 1), none, [], []⟩,
    ⟨some 41, .conv .i64 (.t 40), none, [], []⟩,
    ⟨some 42, .fieldAddr (.d tWorld) 1 (.t 4), none, [], []⟩,
    ⟨some 43, .load (.d (.sl (.int .i64))) (.t 42), none, [], []⟩,
    ⟨some 44, .len (.t 43), none, [], []⟩,
    ⟨some 45, .bin .rem (.t 41) (.t 44), none, [], []⟩,
    ⟨some 9, .move (.t 45), none, [], []⟩]) (innkeeplaw11_GiftsGive.c9)) (innkeeplaw11_GiftsGive.c8)
def innkeeplaw11_GiftsGive.c0 : Cd := .seq (.seq (.seq (.reg false [⟨some 16, .call (.f 7) [] [.d .bool] [] false, none, [], []⟩,
    ⟨some 17, .not (.t 16), none, [], []⟩,
    ⟨some 18, .move (.t 17), none, [], []⟩,
    ⟨some 19, .load (.d tWorld) (.t 4), some (18, false), [], []⟩,
    ⟨some 20, .call (.f 8) [(.t 19)] [.d .bool] [] false, some (18, false), [], []⟩,
    ⟨some 21, .not (.t 20), some (18, false), [], []⟩,
    ⟨some 22, .pick (.t 18) (.c .bool true) (.t 21), none, [], []⟩,
    ⟨some 23, .move (.t 22), none, [], []⟩,
    ⟨some 24, .move (.t 2), some (23, false), [], []⟩,
    ⟨some 25, .bin .lss (.t 24) (.c (.int .i64) (0 : Int)), some (23, false), [], []⟩,
    ⟨some 26, .pick (.t 23) (.c .bool true) (.t 25), none, [], []⟩,
    ⟨some 27, .move (.t 26), none, [], []⟩,
    ⟨some 28, .move (.t 2), some (27, false), [], []⟩,
    ⟨some 29, .bin .gtr (.t 28) (.c (.int .i64) (1073741824 : Int)), some (27, false), [], []⟩,
    ⟨some 30, .pick (.t 27) (.c .bool true) (.t 29), none, [], []⟩,
    ⟨some 31, .move (.t 30), none, [], []⟩,
    ⟨some 32, .move (.t 3), some (31, false), [], []⟩,
    ⟨some 33, .bin .lss (.t 32) (.c (.int .i64) (0 : Int)), some (31, false), [], []⟩,
    ⟨some 34, .pick (.t 31) (.c .bool true) (.t 33), none, [], []⟩,
    ⟨some 35, .move (.t 34), none, [], []⟩,
    ⟨some 36, .move (.t 3), some (35, false), [], []⟩,
    ⟨some 37, .bin .gtr (.t 36) (.c (.int .i64) (1073741824 : Int)), some (35, false), [], []⟩,
    ⟨some 38, .pick (.t 35) (.c .bool true) (.t 37), none, [], []⟩]) (innkeeplaw11_GiftsGive.c3)) (innkeeplaw11_GiftsGive.c2)) (innkeeplaw11_GiftsGive.c1)
def innkeeplaw11_GiftsGive.fn : Fn := ⟨4, [.tmp 8], .seq (.reg false [⟨some 4, .box 0 (.t 0), none, [], []⟩,
    ⟨some 8, .move (.c .bool false), none, [], []⟩]) (innkeeplaw11_GiftsGive.c0)⟩
def innkeeplaw11_GiftsNone.c3 : Cd := .tidy [16, 17, 18, 19, 20, 21, 22, 23, 24, 25] [] [] none
def innkeeplaw11_GiftsNone.c6 : Cd := .tidy [27] [] [] none
def innkeeplaw11_GiftsNone.c5 : Cd := .ret
def innkeeplaw11_GiftsNone.c4 : Cd := .seq (.seq (.reg false [⟨some 27, .call (.f 7) [] [.d .bool] [] false, none, [], []⟩,
    ⟨some 8, .move (.t 27), none, [], []⟩]) (innkeeplaw11_GiftsNone.c6)) (innkeeplaw11_GiftsNone.c5)
def innkeeplaw11_GiftsNone.c7 : Cd := .skip
def innkeeplaw11_GiftsNone.c2 : Cd := .cond (.t 26) (.seq (.tidy [26] [] [] none) (innkeeplaw11_GiftsNone.c4)) (.seq (.tidy [26] [] [] none) (innkeeplaw11_GiftsNone.c7))
def innkeeplaw11_GiftsNone.c9 : Cd := .tidy [28, 29, 30, 31, 32, 33] [] [] none
def innkeeplaw11_GiftsNone.c11 : Cd := .tidy [34, 35, 36, 37, 38, 39] [] [] none
def innkeeplaw11_GiftsNone.c13 : Cd := .tidy [40, 41, 42, 43, 44, 45, 46, 47] [] [] none
def innkeeplaw11_GiftsNone.c15 : Cd := .tidy [48, 49, 50, 51, 52, 53, 54, 55, 56, 57, 58, 59, 60, 61, 62, 63] [] [] none
def innkeeplaw11_GiftsNone.c18 : Cd := .tidy [64, 65, 66, 67, 68, 69, 70, 71, 72] [] [] none
def innkeeplaw11_GiftsNone.c20 : Cd := .ret
def innkeeplaw11_GiftsNone.c19 : Cd := .seq (.reg false [⟨some 8, .move (.c .bool false), none, [], []⟩]) (innkeeplaw11_GiftsNone.c20)
def innkeeplaw11_GiftsNone.c21 : Cd := .skip
def innkeeplaw11_GiftsNone.c17 : Cd := .cond (.t 73) (.seq (.tidy [73] [] [] none) (innkeeplaw11_GiftsNone.c19)) (.seq (.tidy [73] [] [] none) (innkeeplaw11_GiftsNone.c21))
def innkeeplaw11_GiftsNone.c24 : Cd := .tidy [74] [] [] none
def innkeeplaw11_GiftsNone.c26 : Cd := .ret
def innkeeplaw11_GiftsNone.c25 : Cd := .seq (.reg false [⟨some 8, .move (.c .bool true), none, [], []⟩]) (innkeeplaw11_GiftsNone.c26)
def innkeeplaw11_GiftsNone.c27 : Cd := .skip
def innkeeplaw11_GiftsNone.c23 : Cd := .cond (.t 75) (.seq (.tidy [75] [] [] none) (innkeeplaw11_GiftsNone.c25)) (.seq (.tidy [75] [] [] none) (innkeeplaw11_GiftsNone.c27))
def innkeeplaw11_GiftsNone.c29 : Cd := .tidy [76, 77, 78, 79, 80, 81, 82, 83, 84, 85] [] [] none
def innkeeplaw11_GiftsNone.c32 : Cd := .tidy [86, 87, 88, 89, 90, 91, 92, 93, 94, 95, 96, 97, 98, 99, 100, 101, 102, 103, 104, 105, 106, 107, 108, 109, 110, 111, 112, 113, 114, 115, 116, 117, 118, 119, 120, 121, 122, 123, 124, 125, 126] [] [] none
def innkeeplaw11_GiftsNone.c34 : Cd := .ret
def innkeeplaw11_GiftsNone.c33 : Cd := .seq (.reg false [⟨some 8, .move (.c .bool false), none, [], []⟩]) (innkeeplaw11_GiftsNone.c34)
def innkeeplaw11_GiftsNone.c35 : Cd := .skip
def innkeeplaw11_GiftsNone.c31 : Cd := .cond (.t 127) (.seq (.tidy [127] [] [] none) (innkeeplaw11_GiftsNone.c33)) (.seq (.tidy [127] [] [] none) (innkeeplaw11_GiftsNone.c35))
def innkeeplaw11_GiftsNone.c37 : Cd := .tidy [128, 129, 130, 131, 132, 133, 134, 135, 136, 137, 138, 139, 140, 141, 142, 143, 144, 145, 146, 147, 148, 149, 150, 151, 152, 153, 154, 155, 156, 157, 158] [] [] none
def innkeeplaw11_GiftsNone.c36 : Cd := .ret
def innkeeplaw11_GiftsNone.c30 : Cd := .seq (.seq (.reg false [⟨some 128, .move (.t 15), none, [], []⟩,
    ⟨some 129, .bin .eql (.t 128) (.c (.int .i64) (0 : Int)), none, [], []⟩,
    ⟨some 130, .move (.t 129), none, [], []⟩,
    ⟨some 131, .move (.t 15), some (130, false), [], []⟩,
    ⟨some 132, .bin .eql (.t 131) (.c (.int .i64) (10 : Int)), some (130, false), [], []⟩,
    ⟨some 133, .move (.t 132), some (130, false), [], []⟩,
    ⟨some 134, .fieldAddr (.d tWorld) 2 (.t 4), some (133, true), [], []⟩,
    ⟨some 135, .load (.d (.sl (.int .i64))) (.t 134), some (133, true), [], []⟩,
    ⟨some 136, .move (.t 9), some (133, true), [], []⟩,
    ⟨some 137, .index (.sl (.int .i64)) (.t 135) (.t 136), some (133, true), [], []⟩,
    ⟨some 138, .load (.d (.int .i64)) (.t 137), some (133, true), [], []⟩,
    ⟨some 139, .move (.t 3), some (133, true), [], []⟩,
    ⟨some 140, .conv .i64 (.t 139), some (133, true), [], []⟩,
    ⟨some 141, .bin .lss (.t 138) (.t 140), some (133, true), [], []⟩,
    ⟨some 142, .pick (.t 133) (.t 141) (.c .bool false), some (130, false), [], []⟩,
    ⟨some 143, .pick (.t 130) (.c .bool true) (.t 142), none, [], []⟩,
    ⟨some 144, .move (.t 143), none, [], []⟩,
    ⟨some 145, .move (.t 15), some (144, false), [], []⟩,
    ⟨some 146, .bin .eql (.t 145) (.c (.int .i64) (11 : Int)), some (144, false), [], []⟩,
    ⟨some 147, .move (.t 146), some (144, false), [], []⟩,
    ⟨some 148, .fieldAddr (.d tWorld) 2 (.t 4), some (147, true), [], []⟩,
    ⟨some 149, .load (.d (.sl (.int .i64))) (.t 148), some (147, true), [], []⟩,
    ⟨some 150, .move (.t 10), some (147, true), [], []⟩,
    ⟨some 151, .index (.sl (.int .i64)) (.t 149) (.t 150), some (147, true), [], []⟩,
    ⟨some 152, .load (.d (.int .i64)) (.t 151), some (147, true), [], []⟩,
    ⟨some 153, .move (.t 3), some (147, true), [], []⟩,
    ⟨some 154, .conv .i64 (.t 153), some (147, true), [], []⟩,
    ⟨some 155, .bin .add (.t 152) (.t 154), some (147, true), [], []⟩,
    ⟨some 156, .bin .gtr (.t 155) (.c (.int .i64) (1073741824 : Int)), some (147, true), [], []⟩,
    ⟨some 157, .pick (.t 147) (.t 156) (.c .bool false), some (144, false), [], []⟩,
    ⟨some 158, .pick (.t 144) (.c .bool true) (.t 157), none, [], []⟩,
    ⟨some 8, .move (.t 158), none, [], []⟩]) (innkeeplaw11_GiftsNone.c37)) (innkeeplaw11_GiftsNone.c36)
def innkeeplaw11_GiftsNone.c28 : Cd := .seq (.seq (.seq (.reg true [⟨some 86, .move (.t 15), none, [], []⟩,
    ⟨some 87, .bin .eql (.t 86) (.c (.int .i64) (0 : Int)), none, [], []⟩,
    ⟨some 88, .move (.t 87), none, [], []⟩,
    ⟨some 89, .fieldAddr (.d tWorld) 2 (.t 14), some (88, true), [2], []⟩,
    ⟨some 90, .load (.d (.sl (.int .i64))) (.t 89), some (88, true), [2], []⟩,
    ⟨some 91, .move (.t 9), some (88, true), [], []⟩,
    ⟨some 92, .index (.sl (.int .i64)) (.t 90) (.t 91), some (88, true), [], []⟩,
    ⟨some 93, .load (.d (.int .i64)) (.t 92), some (88, true), [], []⟩,
    ⟨some 94, .fieldAddr (.d tWorld) 2 (.t 4), some (88, true), [0], []⟩,
    ⟨some 95, .load (.d (.sl (.int .i64))) (.t 94), some (88, true), [0], []⟩,
    ⟨some 96, .move (.t 9), some (88, true), [], []⟩,
    ⟨some 97, .index (.sl (.int .i64)) (.t 95) (.t 96), some (88, true), [], []⟩,
    ⟨some 98, .load (.d (.int .i64)) (.t 97), some (88, true), [], []⟩,
    ⟨some 99, .move (.t 3), some (88, true), [], []⟩,
    ⟨some 100, .conv .i64 (.t 99), some (88, true), [], []⟩,
    ⟨some 101, .bin .sub (.t 98) (.t 100), some (88, true), [], []⟩,
    ⟨some 102, .bin .neq (.t 93) (.t 101), some (88, true), [], []⟩,
    ⟨some 103, .move (.t 102), some (88, true), [], []⟩,
    ⟨some 104, .fieldAddr (.d tWorld) 2 (.t 14), some (103, false), [2], []⟩,
    ⟨some 105, .load (.d (.sl (.int .i64))) (.t 104), some (103, false), [2], []⟩,
    ⟨some 106, .move (.t 10), some (103, false), [], []⟩,
    ⟨some 107, .index (.sl (.int .i64)) (.t 105) (.t 106), some (103, false), [], []⟩,
    ⟨some 108, .load (.d (.int .i64)) (.t 107), some (103, false), [], []⟩,
    ⟨some 109, .fieldAddr (.d tWorld) 2 (.t 4), some (103, false), [0], []⟩,
    ⟨some 110, .load (.d (.sl (.int .i64))) (.t 109), some (103, false), [0], []⟩,
    ⟨some 111, .move (.t 10), some (103, false), [], []⟩,
    ⟨some 112, .index (.sl (.int .i64)) (.t 110) (.t 111), some (103, false), [], []⟩,
    ⟨some 113, .load (.d (.int .i64)) (.t 112), some (103, false), [], []⟩,
    ⟨some 114, .move (.t 3), some (103, false), [], []⟩,
    ⟨some 115, .conv .i64 (.t 114), some (103, false), [], []⟩,
    ⟨some 116, .bin .add (.t 113) (.t 115), some (103, false), [], []⟩,
    ⟨some 117, .bin .neq (.t 108) (.t 116), some (103, false), [], []⟩,
    ⟨some 118, .pick (.t 103) (.c .bool true) (.t 117), some (88, true), [], []⟩,
    ⟨some 119, .move (.t 118), some (88, true), [], []⟩,
    ⟨some 120, .fieldAddr (.d tWorld) 3 (.t 14), some (119, false), [2], []⟩,
    ⟨some 121, .load (.d (.sl tPlace)) (.t 120), some (119, false), [2], []⟩,
    ⟨some 122, .fieldAddr (.d tWorld) 3 (.t 4), some (119, false), [0], []⟩,
    ⟨some 123, .load (.d (.sl tPlace)) (.t 122), some (119, false), [0], []⟩,
    ⟨some 124, .call (.f 20) [(.t 121), (.t 123)] [.d .bool] [] false, some (119, false), [], []⟩,
    ⟨some 125, .not (.t 124), some (119, false), [], []⟩,
    ⟨some 126, .pick (.t 119) (.c .bool true) (.t 125), some (88, true), [], []⟩,
    ⟨some 127, .pick (.t 88) (.t 126) (.c .bool false), none, [], []⟩]) (innkeeplaw11_GiftsNone.c32)) (innkeeplaw11_GiftsNone.c31)) (innkeeplaw11_GiftsNone.c30)
def innkeeplaw11_GiftsNone.c22 : Cd := .seq (.seq (.reg false [⟨some 77, .load (.d tWorld) (.t 4), none, [], []⟩,
    ⟨some 78, .move (.t 9), none, [], []⟩,
    ⟨some 79, .move (.t 10), none, [], []⟩,
    ⟨some 80, .move (.t 3), none, [], []⟩,
    ⟨some 81, .conv .i64 (.t 80), none, [], []⟩,
    ⟨some 82, .build tCmd [(0, (.c (.int .i64) (8 : Int))), (4, (.t 79)), (6, (.t 81))] [], none, [], []⟩,
    ⟨some 83, .call (.f 13) [(.t 77), (.t 78), (.t 82)] [.d tWorld, .d (.int .i64)] [] false, none, [], []⟩,
    ⟨some 76, .move (.t 83), none, [], []⟩,
    ⟨some 84, .extract (.t 76) 0, none, [], []⟩,
    ⟨some 85, .extract (.t 76) 1, none, [], []⟩,
    ⟨some 14, .newbox 2 tWorld [], none, [], []⟩,
    ⟨none, .store (.d tWorld) (.t 14) (.t 84), none, [], []⟩,
    ⟨some 15, .move (.t 85), none, [], []⟩]) (innkeeplaw11_GiftsNone.c29)) (innkeeplaw11_GiftsNone.c28)
def innkeeplaw11_GiftsNone.c16 : Cd := .seq (.seq (.seq (.reg false [⟨some 74, .move (.t 13), none, [], []⟩,
    ⟨some 75, .not (.t 74), none, [], []⟩]) (innkeeplaw11_GiftsNone.c24)) (innkeeplaw11_GiftsNone.c23)) (innkeeplaw11_GiftsNone.c22)
def innkeeplaw11_GiftsNone.c14 : Cd := .seq (.seq (.seq (.reg false [⟨some 64, .move (.t 12), none, [], []⟩,
    ⟨some 65, .bin .eql (.t 64) (.c (.int .i64) (0 : Int)), none, [], []⟩,
    ⟨some 66, .move (.t 13), none, [], []⟩,
    ⟨some 67, .eqs .bool true (.t 65) (.t 66), none, [], []⟩,
    ⟨some 68, .move (.t 67), none, [], []⟩,
    ⟨some 69, .load (.d tWorld) (.t 11), some (68, false), [], []⟩,
    ⟨some 70, .load (.d tWorld) (.t 4), some (68, false), [], []⟩,
    ⟨some 71, .call (.f 15) [(.t 69), (.t 70)] [.d .bool] [] false, some (68, false), [], []⟩,
    ⟨some 72, .not (.t 71), some (68, false), [], []⟩,
    ⟨some 73, .pick (.t 68) (.c .bool true) (.t 72), none, [], []⟩]) (innkeeplaw11_GiftsNone.c18)) (innkeeplaw11_GiftsNone.c17)) (innkeeplaw11_GiftsNone.c16)
def innkeeplaw11_GiftsNone.c12 : Cd := .seq (.seq (.reg true [⟨some 48, .move (.t 9), none, [], []⟩,
    ⟨some 49, .move (.t 10), none, [], []⟩,
    ⟨some 50, .bin .neq (.t 48) (.t 49), none, [], []⟩,
    ⟨some 51, .move (.t 50), none, [], []⟩,
    ⟨some 52, .fieldAddr (.d tWorld) 1 (.t 4), some (51, true), [0], []⟩,
    ⟨some 53, .load (.d (.sl (.int .i64))) (.t 52), some (51, true), [0], []⟩,
    ⟨some 54, .move (.t 9), some (51, true), [], []⟩,
    ⟨some 55, .index (.sl (.int .i64)) (.t 53) (.t 54), some (51, true), [], []⟩,
    ⟨some 56, .load (.d (.int .i64)) (.t 55), some (51, true), [], []⟩,
    ⟨some 57, .fieldAddr (.d tWorld) 1 (.t 4), some (51, true), [0], []⟩,
    ⟨some 58, .load (.d (.sl (.int .i64))) (.t 57), some (51, true), [0], []⟩,
    ⟨some 59, .move (.t 10), some (51, true), [], []⟩,
    ⟨some 60, .index (.sl (.int .i64)) (.t 58) (.t 59), some (51, true), [], []⟩,
    ⟨some 61, .load (.d (.int .i64)) (.t 60), some (51, true), [], []⟩,
    ⟨some 62, .bin .eql (.t 56) (.t 61), some (51, true), [], []⟩,
    ⟨some 63, .pick (.t 51) (.t 62) (.c .bool false), none, [], []⟩,
    ⟨some 13, .move (.t 63), none, [], []⟩]) (innkeeplaw11_GiftsNone.c15)) (innkeeplaw11_GiftsNone.c14)
def innkeeplaw11_GiftsNone.c10 : Cd := .seq (.seq (.reg false [⟨some 41, .load (.d tWorld) (.t 4), none, [], []⟩,
    ⟨some 42, .move (.t 9), none, [], []⟩,
    ⟨some 43, .move (.t 10), none, [], []⟩,
    ⟨some 44, .build tCmd [(0, (.c (.int .i64) (8 : Int))), (4, (.t 43))] [], none, [], []⟩,
    ⟨some 45, .call (.f 13) [(.t 41), (.t 42), (.t 44)] [.d tWorld, .d (.int .i64)] [] false, none, [], []⟩,
    ⟨some 40, .move (.t 45), none, [], []⟩,
    ⟨some 46, .extract (.t 40) 0, none, [], []⟩,
    ⟨some 47, .extract (.t 40) 1, none, [], []⟩,
    ⟨some 11, .newbox 1 tWorld [], none, [], []⟩,
    ⟨none, .store (.d tWorld) (.t 11) (.t 46), none, [], []⟩,
    ⟨some 12, .move (.t 47), none, [], []⟩]) (innkeeplaw11_GiftsNone.c13)) (innkeeplaw11_GiftsNone.c12)
def innkeeplaw11_GiftsNone.c8 : Cd := .seq (.seq (.reg false [⟨some 34, .move (.t 2), none, [], []⟩,
    ⟨some 35, .conv .i64 (.t 34), none, [], []⟩,
    ⟨some 36, .fieldAddr (.d tWorld) 1 (.t 4), none, [], []⟩,
    ⟨some 37, .load (.d (.sl (.int .i64))) (.t 36), none, [], []⟩,
    ⟨some 38, .len (.t 37), none, [], []⟩,
    ⟨some 39, .bin .rem (.t 35) (.t 38), none, [], []⟩,
    ⟨some 10, .move (.t 39), none, [], []⟩]) (innkeeplaw11_GiftsNone.c11)) (innkeeplaw11_GiftsNone.c10)
def innkeeplaw11_GiftsNone.c1 : Cd := .seq (.seq (.reg false [⟨some 28, .move (.t 1), none, [], []⟩,
    ⟨some 29, .conv .i64 (.t 28), none, [], []⟩,
    ⟨some 30, .fieldAddr (.d tWorld) 1 (.t 4), none, [], []⟩,
    ⟨some 31, .load (.d (.sl (.int .i64))) (.t 30), none, [], []⟩,
    ⟨some 32, .len (.t 31), none, [], []⟩,
    ⟨some 33, .bin .rem (.t 29) (.t 32), none, [], []⟩,
    ⟨some 9, .move (.t 33), none, [], []⟩]) (innkeeplaw11_GiftsNone.c9)) (innkeeplaw11_GiftsNone.c8)
def innkeeplaw11_GiftsNone.c0 : Cd := .seq (.seq (.seq (.reg false [⟨some 16, .call (.f 7) [] [.d .bool] [] false, none, [], []⟩,
    ⟨some 17, .not (.t 16), none, [], []⟩,
    ⟨some 18, .move (.t 17), none, [], []⟩,
    ⟨some 19, .load (.d tWorld) (.t 4), some (18, false), [], []⟩,
    ⟨some 20, .call (.f 8) [(.t 19)] [.d .bool] [] false, some (18, false), [], []⟩,
    ⟨some 21, .not (.t 20), some (18, false), [], []⟩,
    ⟨some 22, .pick (.t 18) (.c .bool true) (.t 21), none, [], []⟩,
    ⟨some 23, .move (.t 22), none, [], []⟩,
    ⟨some 24, .move (.t 3), some (23, false), [], []⟩,
    ⟨some 25, .bin .gtr (.t 24) (.c (.int .u32) (1073741824 : Int)), some (23, false), [], []⟩,
    ⟨some 26, .pick (.t 23) (.c .bool true) (.t 25), none, [], []⟩]) (innkeeplaw11_GiftsNone.c3)) (innkeeplaw11_GiftsNone.c2)) (innkeeplaw11_GiftsNone.c1)
def innkeeplaw11_GiftsNone.fn : Fn := ⟨4, [.tmp 8], .seq (.reg false [⟨some 4, .box 0 (.t 0), none, [], []⟩,
    ⟨some 8, .move (.c .bool false), none, [], []⟩]) (innkeeplaw11_GiftsNone.c0)⟩
def prog : FuncId → Option Fn
  | 3 => some innkeeplaw11_GiftsDo.fn
  | 4 => some innkeeplaw11_GiftsKeep.fn
  | 5 => some innkeeplaw11_GiftsGive.fn
  | 6 => some innkeeplaw11_GiftsNone.fn
  | 7 => some innkeeplaw11_awake.fn
  | 8 => some innkeeplaw11_fits.fn
  | 9 => some innkeepref03_Few.fn
  | 10 => some innkeepref03_May.fn
  | 11 => some gifts_Give.fn
  | 12 => some innkeepref11_Give.fn
  | 13 => some gifts_Trade.fn
  | 14 => some innkeepref11_Trade.fn
  | 15 => some innkeepref06_Same.fn
  | 16 => some innkeepref11_Sum.fn
  | 17 => some innkeepref06_Right.fn
  | 18 => some innkeepref06_Copied.fn
  | 19 => some innkeepref09_Others.fn
  | 20 => some innkeepref06_Places.fn
  | 21 => some innkeepref06_New.fn
  | 22 => some innkeepref03_Ints.fn
  | 23 => some innkeepref06_Few.fn
  | 24 => some innkeepref03_fit.fn
  | 25 => some innkeepref03_row.fn
  | 26 => some gifts_is.fn
  | 27 => some gifts_player.fn
  | 28 => some gifts_with.fn
  | 29 => some tree_Room.fn
  | 30 => some hold_To.fn
  | 31 => some innkeepref07_Room.fn
  | 32 => some innkeepref09_To.fn
  | 34 => some gifts_Trade_1.fn
  | 35 => some slices_ContainsFunc_sint_int.fn
  | 36 => some gifts_Trade_1_1.fn
  | 37 => some gifts_Trade_2.fn
  | 38 => some gifts_twice.fn
  | 39 => some coin_Swap.fn
  | 40 => some desc_Copy.fn
  | 41 => some innkeepref01_Swap.fn
  | 42 => some innkeepref06_May.fn
  | 43 => some innkeepref06_in.fn
  | 44 => some innkeepref01_Is.fn
  | 45 => some innkeepref06_Depth.fn
  | 46 => some innkeepref06_Many.fn
  | 47 => some innkeepref06_Cap.fn
  | 48 => some tree_In.fn
  | 50 => some slices_IndexFunc_sint_int.fn
  | 51 => some coin_Is.fn
  | _ => none
end Go.Proofs.Ytdbogcinhmfmpaa.Ghost
