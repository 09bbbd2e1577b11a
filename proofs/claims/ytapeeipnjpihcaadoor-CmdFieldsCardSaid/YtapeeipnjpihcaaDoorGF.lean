/- The functions as ghost code. Conditions: none; no statement is proved here. -/
import Derived.Test.YtapeeipnjpihcaaDoorA1
set_option linter.unusedVariables false
set_option linter.unusedSimpArgs false
set_option linter.unusedSectionVars false
set_option linter.unnecessarySimpa false
namespace Go.Proofs.YtapeeipnjpihcaaDoor.Ghost
open Go
abbrev tboundsError : Ty := .st [(.int .i64), (.int .i64), .bool, (.int .u8)]
abbrev terrorAddressString : Ty := .st [.str, (.int .u64)]
abbrev tCmd : Ty := .st [(.int .i64), (.int .i64), (.int .i64), (.int .i64), (.int .i64), (.sl (.int .i64)), (.int .i64), (.sl (.int .i64)), (.int .i64)]
abbrev tplain : Ty := .st [(.int .i64), (.int .i64), (.int .i64), (.int .i64), (.int .i64), (.int .i64), (.int .i64)]
def slices_Index_sstring_string.c3 : Cd := .tidy [6] [] [] none
def slices_Index_sstring_string.c8 : Cd := .skip
def slices_Index_sstring_string.c19 : Cd := .exit 0
def slices_Index_sstring_string.c11 : Cd := .tidy [10] [] [] none
def slices_Index_sstring_string.c13 : Cd := .tidy [11, 12, 13, 14, 15] [] [] none
def slices_Index_sstring_string.c16 : Cd := .tidy [17] [] [] none
def slices_Index_sstring_string.c15 : Cd := .ret
def slices_Index_sstring_string.c14 : Cd := .seq (.seq (.reg false [⟨some 17, .move (.t 5), none, [], []⟩,
    ⟨some 4, .move (.t 17), none, [], []⟩]) (slices_Index_sstring_string.c16)) (slices_Index_sstring_string.c15)
def slices_Index_sstring_string.c17 : Cd := .skip
def slices_Index_sstring_string.c12 : Cd := .cond (.t 16) (.seq (.tidy [16] [] [] none) (slices_Index_sstring_string.c14)) (.seq (.tidy [16] [] [] none) (slices_Index_sstring_string.c17))
def slices_Index_sstring_string.c10 : Cd := .seq (.seq (.reg false [⟨some 11, .move (.t 1), none, [], []⟩,
    ⟨some 12, .move (.t 0), none, [], []⟩,
    ⟨some 13, .move (.t 5), none, [], []⟩,
    ⟨some 14, .index (.sl .str) (.t 12) (.t 13), none, [], []⟩,
    ⟨some 15, .load (.d .str) (.t 14), none, [], []⟩,
    ⟨some 16, .eqs .str false (.t 11) (.t 15), none, [], []⟩]) (slices_Index_sstring_string.c13)) (slices_Index_sstring_string.c12)
def slices_Index_sstring_string.c18 : Cd := .tidy [18] [] [] none
def slices_Index_sstring_string.c9 : Cd := .seq (.reg false [⟨some 18, .bin .add (.t 8) (.c (.int .i64) (1 : Int)), none, [], []⟩,
    ⟨some 8, .move (.t 18), none, [], []⟩]) (slices_Index_sstring_string.c18)
def slices_Index_sstring_string.c7 : Cd := .seq (.block 1 (.seq (.seq (.reg false [⟨some 10, .move (.t 8), none, [], []⟩,
    ⟨some 5, .move (.t 10), none, [], []⟩]) (slices_Index_sstring_string.c11)) (slices_Index_sstring_string.c10))) (slices_Index_sstring_string.c9)
def slices_Index_sstring_string.c6 : Cd := .seq (.cond (.t 9) (.seq (.tidy [9] [] [] none) (slices_Index_sstring_string.c8)) (.seq (.tidy [9] [] [] none) (slices_Index_sstring_string.c19))) (slices_Index_sstring_string.c7)
def slices_Index_sstring_string.c5 : Cd := .tidy [5] [] [] (some 0)
def slices_Index_sstring_string.c4 : Cd := .seq (.seq (.reg false [⟨some 9, .bin .lss (.t 8) (.t 7), none, [], []⟩]) (slices_Index_sstring_string.c6)) (slices_Index_sstring_string.c5)
def slices_Index_sstring_string.c2 : Cd := .block 0 (.loop (slices_Index_sstring_string.c4))
def slices_Index_sstring_string.c20 : Cd := .ret
def slices_Index_sstring_string.c1 : Cd := .seq (.reg false [⟨some 4, .move (.c (.int .i64) ((-1) : Int)), none, [], []⟩]) (slices_Index_sstring_string.c20)
def slices_Index_sstring_string.c0 : Cd := .seq (.seq (.seq (.reg false [⟨some 6, .move (.t 0), none, [], []⟩,
    ⟨some 7, .len (.t 6), none, [], []⟩,
    ⟨some 8, .move (.c (.int .i64) (0 : Int)), none, [], []⟩]) (slices_Index_sstring_string.c3)) (slices_Index_sstring_string.c2)) (slices_Index_sstring_string.c1)
def slices_Index_sstring_string.fn : Fn := ⟨2, [.tmp 4], .seq (.reg false [⟨some 4, .move (.c (.int .i64) (0 : Int)), none, [], []⟩]) (slices_Index_sstring_string.c0)⟩
def cmd_number.c2 : Cd := .tidy [7, 8, 9] [] [] none
def cmd_number.c5 : Cd := .tidy [10, 11, 12, 13, 14] [] [] none
def cmd_number.c7 : Cd := .ret
def cmd_number.c6 : Cd := .seq (.reg false [⟨some 4, .move (.c (.int .i64) (0 : Int)), none, [], []⟩,
    ⟨some 5, .move (.c .bool false), none, [], []⟩]) (cmd_number.c7)
def cmd_number.c8 : Cd := .skip
def cmd_number.c4 : Cd := .cond (.t 15) (.seq (.tidy [15] [] [] none) (cmd_number.c6)) (.seq (.tidy [15] [] [] none) (cmd_number.c8))
def cmd_number.c10 : Cd := .tidy [16] [] [] none
def cmd_number.c9 : Cd := .ret
def cmd_number.c3 : Cd := .seq (.seq (.reg false [⟨some 16, .move (.t 6), none, [], []⟩,
    ⟨some 4, .move (.t 16), none, [], []⟩,
    ⟨some 5, .move (.c .bool true), none, [], []⟩]) (cmd_number.c10)) (cmd_number.c9)
def cmd_number.c1 : Cd := .seq (.seq (.seq (.reg false [⟨some 10, .move (.t 1), none, [], []⟩,
    ⟨some 11, .eqs .str false (.t 10) (.c .str (⟨#[]⟩ : ByteArray)), none, [], []⟩,
    ⟨some 12, .move (.t 11), none, [], []⟩,
    ⟨some 13, .move (.t 6), some (12, false), [], []⟩,
    ⟨some 14, .bin .lss (.t 13) (.c (.int .i64) (0 : Int)), some (12, false), [], []⟩,
    ⟨some 15, .pick (.t 12) (.c .bool true) (.t 14), none, [], []⟩]) (cmd_number.c5)) (cmd_number.c4)) (cmd_number.c3)
def cmd_number.c0 : Cd := .seq (.seq (.reg false [⟨some 7, .move (.t 0), none, [], []⟩,
    ⟨some 8, .move (.t 1), none, [], []⟩,
    ⟨some 9, .call (.f 33) [(.t 7), (.t 8)] [.d (.int .i64)] [] false, none, [], []⟩,
    ⟨some 6, .move (.t 9), none, [], []⟩]) (cmd_number.c2)) (cmd_number.c1)
def cmd_number.fn : Fn := ⟨2, [.tmp 4, .tmp 5], .seq (.reg false [⟨some 4, .move (.c (.int .i64) (0 : Int)), none, [], []⟩,
    ⟨some 5, .move (.c .bool false), none, [], []⟩]) (cmd_number.c0)⟩
def cmd_Kind.c2 : Cd := .tidy [4, 5, 6, 7, 8] [] [] none
def cmd_Kind.c1 : Cd := .ret
def cmd_Kind.c0 : Cd := .seq (.seq (.reg false [⟨some 4, .slicearr 11 .str (.g 0), none, [], []⟩,
    ⟨some 5, .move (.t 0), none, [], []⟩,
    ⟨some 6, .call (.f 29) [(.t 4), (.t 5)] [.d (.int .i64), .d .bool] [] false, none, [], []⟩,
    ⟨some 7, .extract (.t 6) 0, none, [], []⟩,
    ⟨some 8, .extract (.t 6) 1, none, [], []⟩,
    ⟨some 2, .move (.t 7), none, [], []⟩,
    ⟨some 3, .move (.t 8), none, [], []⟩]) (cmd_Kind.c2)) (cmd_Kind.c1)
def cmd_Kind.fn : Fn := ⟨1, [.tmp 2, .tmp 3], .seq (.reg false [⟨some 2, .move (.c (.int .i64) (0 : Int)), none, [], []⟩,
    ⟨some 3, .move (.c .bool false), none, [], []⟩]) (cmd_Kind.c0)⟩
def cmd_Dir.c2 : Cd := .tidy [4, 5, 6, 7, 8] [] [] none
def cmd_Dir.c1 : Cd := .ret
def cmd_Dir.c0 : Cd := .seq (.seq (.reg false [⟨some 4, .slicearr 4 .str (.g 1), none, [], []⟩,
    ⟨some 5, .move (.t 0), none, [], []⟩,
    ⟨some 6, .call (.f 29) [(.t 4), (.t 5)] [.d (.int .i64), .d .bool] [] false, none, [], []⟩,
    ⟨some 7, .extract (.t 6) 0, none, [], []⟩,
    ⟨some 8, .extract (.t 6) 1, none, [], []⟩,
    ⟨some 2, .move (.t 7), none, [], []⟩,
    ⟨some 3, .move (.t 8), none, [], []⟩]) (cmd_Dir.c2)) (cmd_Dir.c1)
def cmd_Dir.fn : Fn := ⟨1, [.tmp 2, .tmp 3], .seq (.reg false [⟨some 2, .move (.c (.int .i64) (0 : Int)), none, [], []⟩,
    ⟨some 3, .move (.c .bool false), none, [], []⟩]) (cmd_Dir.c0)⟩
def cmd_name.c3 : Cd := .tidy [5, 6, 7, 8, 9, 10, 11] [] [] none
def cmd_name.c5 : Cd := .ret
def cmd_name.c4 : Cd := .seq (.reg false [⟨some 4, .move (.c .str (⟨#[]⟩ : ByteArray)), none, [], []⟩]) (cmd_name.c5)
def cmd_name.c6 : Cd := .skip
def cmd_name.c2 : Cd := .cond (.t 12) (.seq (.tidy [12] [] [] none) (cmd_name.c4)) (.seq (.tidy [12] [] [] none) (cmd_name.c6))
def cmd_name.c8 : Cd := .tidy [13, 14, 15, 16] [] [] none
def cmd_name.c7 : Cd := .ret
def cmd_name.c1 : Cd := .seq (.seq (.reg false [⟨some 13, .move (.t 0), none, [], []⟩,
    ⟨some 14, .move (.t 1), none, [], []⟩,
    ⟨some 15, .index (.sl .str) (.t 13) (.t 14), none, [], []⟩,
    ⟨some 16, .load (.d .str) (.t 15), none, [], []⟩,
    ⟨some 4, .move (.t 16), none, [], []⟩]) (cmd_name.c8)) (cmd_name.c7)
def cmd_name.c0 : Cd := .seq (.seq (.seq (.reg false [⟨some 5, .move (.t 1), none, [], []⟩,
    ⟨some 6, .bin .lss (.t 5) (.c (.int .i64) (0 : Int)), none, [], []⟩,
    ⟨some 7, .move (.t 6), none, [], []⟩,
    ⟨some 8, .move (.t 1), some (7, false), [], []⟩,
    ⟨some 9, .move (.t 0), some (7, false), [], []⟩,
    ⟨some 10, .len (.t 9), some (7, false), [], []⟩,
    ⟨some 11, .bin .geq (.t 8) (.t 10), some (7, false), [], []⟩,
    ⟨some 12, .pick (.t 7) (.c .bool true) (.t 11), none, [], []⟩]) (cmd_name.c3)) (cmd_name.c2)) (cmd_name.c1)
def cmd_name.fn : Fn := ⟨2, [.tmp 4], .seq (.reg false [⟨some 4, .move (.c .str (⟨#[]⟩ : ByteArray)), none, [], []⟩]) (cmd_name.c0)⟩
def cmd_Name.c2 : Cd := .tidy [3, 4, 5] [] [] none
def cmd_Name.c1 : Cd := .ret
def cmd_Name.c0 : Cd := .seq (.seq (.reg false [⟨some 3, .slicearr 11 .str (.g 0), none, [], []⟩,
    ⟨some 4, .move (.t 0), none, [], []⟩,
    ⟨some 5, .call (.f 30) [(.t 3), (.t 4)] [.d .str] [] false, none, [], []⟩,
    ⟨some 2, .move (.t 5), none, [], []⟩]) (cmd_Name.c2)) (cmd_Name.c1)
def cmd_Name.fn : Fn := ⟨1, [.tmp 2], .seq (.reg false [⟨some 2, .move (.c .str (⟨#[]⟩ : ByteArray)), none, [], []⟩]) (cmd_Name.c0)⟩
def cmd_bare.c2 : Cd := .tidy [4, 5, 6] [] [] none
def cmd_bare.c5 : Cd := .tidy [7] [] [] none
def cmd_bare.c7 : Cd := .tidy [10] [] [] none
def cmd_bare.c9 : Cd := .tidy [11, 12, 13] [] [] none
def cmd_bare.c8 : Cd := .seq (.reg false [⟨some 11, .fieldAddr (.d tCmd) 1 (.t 1), none, [], []⟩,
    ⟨some 12, .load (.d (.int .i64)) (.t 11), none, [], []⟩,
    ⟨some 13, .fieldAddr (.d tCmd) 1 (.t 3), none, [], []⟩,
    ⟨none, .store (.d (.int .i64)) (.t 13) (.t 12), none, [], []⟩]) (cmd_bare.c9)
def cmd_bare.c14 : Cd := .tidy [15] [] [] none
def cmd_bare.c16 : Cd := .tidy [16, 17, 18, 19, 20, 21] [] [] none
def cmd_bare.c15 : Cd := .seq (.reg true [⟨some 16, .fieldAddr (.d tCmd) 4 (.t 1), none, [0], []⟩,
    ⟨some 17, .load (.d (.int .i64)) (.t 16), none, [0], []⟩,
    ⟨some 18, .fieldAddr (.d tCmd) 1 (.t 1), none, [0], []⟩,
    ⟨some 19, .load (.d (.int .i64)) (.t 18), none, [0], []⟩,
    ⟨some 20, .fieldAddr (.d tCmd) 4 (.t 3), none, [2], []⟩,
    ⟨none, .store (.d (.int .i64)) (.t 20) (.t 17), none, [], [2]⟩,
    ⟨some 21, .fieldAddr (.d tCmd) 1 (.t 3), none, [2], []⟩,
    ⟨none, .store (.d (.int .i64)) (.t 21) (.t 19), none, [], [2]⟩]) (cmd_bare.c16)
def cmd_bare.c20 : Cd := .tidy [23] [] [] none
def cmd_bare.c37 : Cd := .tidy [24] [] [] none
def cmd_bare.c19 : Cd := .cond (.t 22) (.skip) (.seq (.reg false [⟨some 24, .bin .eql (.t 8) (.c (.int .i64) (4 : Int)), none, [], []⟩,
    ⟨some 22, .move (.t 24), none, [], []⟩]) (cmd_bare.c37))
def cmd_bare.c21 : Cd := .tidy [25, 26, 27] [] [] none
def cmd_bare.c24 : Cd := .tidy [29] [] [] none
def cmd_bare.c36 : Cd := .tidy [30] [] [] none
def cmd_bare.c23 : Cd := .cond (.t 28) (.skip) (.seq (.reg false [⟨some 30, .bin .eql (.t 8) (.c (.int .i64) (6 : Int)), none, [], []⟩,
    ⟨some 28, .move (.t 30), none, [], []⟩]) (cmd_bare.c36))
def cmd_bare.c25 : Cd := .tidy [31, 32, 33, 34, 35, 36] [] [] none
def cmd_bare.c27 : Cd := .tidy [38] [] [] none
def cmd_bare.c29 : Cd := .tidy [39, 40, 41, 42, 43, 44] [] [] none
def cmd_bare.c28 : Cd := .seq (.reg true [⟨some 39, .fieldAddr (.d tCmd) 2 (.t 1), none, [0], []⟩,
    ⟨some 40, .load (.d (.int .i64)) (.t 39), none, [0], []⟩,
    ⟨some 41, .fieldAddr (.d tCmd) 4 (.t 1), none, [0], []⟩,
    ⟨some 42, .load (.d (.int .i64)) (.t 41), none, [0], []⟩,
    ⟨some 43, .fieldAddr (.d tCmd) 2 (.t 3), none, [2], []⟩,
    ⟨none, .store (.d (.int .i64)) (.t 43) (.t 40), none, [], [2]⟩,
    ⟨some 44, .fieldAddr (.d tCmd) 4 (.t 3), none, [2], []⟩,
    ⟨none, .store (.d (.int .i64)) (.t 44) (.t 42), none, [], [2]⟩]) (cmd_bare.c29)
def cmd_bare.c32 : Cd := .tidy [46] [] [] none
def cmd_bare.c34 : Cd := .tidy [47, 48, 49, 50, 51, 52, 53, 54, 55, 56, 57, 58, 59, 60, 61] [] [] none
def cmd_bare.c33 : Cd := .seq (.reg true [⟨some 47, .fieldAddr (.d tCmd) 4 (.t 1), none, [0], []⟩,
    ⟨some 48, .load (.d (.int .i64)) (.t 47), none, [0], []⟩,
    ⟨some 49, .fieldAddr (.d tCmd) 5 (.t 1), none, [0], []⟩,
    ⟨some 50, .load (.d (.sl (.int .i64))) (.t 49), none, [0], []⟩,
    ⟨some 51, .fieldAddr (.d tCmd) 6 (.t 1), none, [0], []⟩,
    ⟨some 52, .load (.d (.int .i64)) (.t 51), none, [0], []⟩,
    ⟨some 53, .fieldAddr (.d tCmd) 7 (.t 1), none, [0], []⟩,
    ⟨some 54, .load (.d (.sl (.int .i64))) (.t 53), none, [0], []⟩,
    ⟨some 55, .fieldAddr (.d tCmd) 8 (.t 1), none, [0], []⟩,
    ⟨some 56, .load (.d (.int .i64)) (.t 55), none, [0], []⟩,
    ⟨some 57, .fieldAddr (.d tCmd) 4 (.t 3), none, [2], []⟩,
    ⟨none, .store (.d (.int .i64)) (.t 57) (.t 48), none, [], [2]⟩,
    ⟨some 58, .fieldAddr (.d tCmd) 5 (.t 3), none, [2], []⟩,
    ⟨none, .store (.d (.sl (.int .i64))) (.t 58) (.t 50), none, [], [2]⟩,
    ⟨some 59, .fieldAddr (.d tCmd) 6 (.t 3), none, [2], []⟩,
    ⟨none, .store (.d (.int .i64)) (.t 59) (.t 52), none, [], [2]⟩,
    ⟨some 60, .fieldAddr (.d tCmd) 7 (.t 3), none, [2], []⟩,
    ⟨none, .store (.d (.sl (.int .i64))) (.t 60) (.t 54), none, [], [2]⟩,
    ⟨some 61, .fieldAddr (.d tCmd) 8 (.t 3), none, [2], []⟩,
    ⟨none, .store (.d (.int .i64)) (.t 61) (.t 56), none, [], [2]⟩]) (cmd_bare.c34)
def cmd_bare.c35 : Cd := .skip
def cmd_bare.c31 : Cd := .cond (.t 45) (.seq (.tidy [45] [] [] none) (cmd_bare.c33)) (.seq (.tidy [45] [] [] none) (cmd_bare.c35))
def cmd_bare.c30 : Cd := .seq (.seq (.reg false [⟨some 46, .bin .eql (.t 8) (.c (.int .i64) (8 : Int)), none, [], []⟩,
    ⟨some 45, .move (.t 46), none, [], []⟩]) (cmd_bare.c32)) (cmd_bare.c31)
def cmd_bare.c26 : Cd := .cond (.t 37) (.seq (.tidy [37] [] [] none) (cmd_bare.c28)) (.seq (.tidy [37] [] [] none) (cmd_bare.c30))
def cmd_bare.c22 : Cd := .cond (.t 28) (.seq (.reg true [⟨some 31, .fieldAddr (.d tCmd) 2 (.t 1), none, [0], []⟩,
    ⟨some 32, .load (.d (.int .i64)) (.t 31), none, [0], []⟩,
    ⟨some 33, .fieldAddr (.d tCmd) 3 (.t 1), none, [0], []⟩,
    ⟨some 34, .load (.d (.int .i64)) (.t 33), none, [0], []⟩,
    ⟨some 35, .fieldAddr (.d tCmd) 2 (.t 3), none, [2], []⟩,
    ⟨none, .store (.d (.int .i64)) (.t 35) (.t 32), none, [], [2]⟩,
    ⟨some 36, .fieldAddr (.d tCmd) 3 (.t 3), none, [2], []⟩,
    ⟨none, .store (.d (.int .i64)) (.t 36) (.t 34), none, [], [2]⟩]) (cmd_bare.c25)) (.seq (.seq (.reg false [⟨some 38, .bin .eql (.t 8) (.c (.int .i64) (7 : Int)), none, [], []⟩,
    ⟨some 37, .move (.t 38), none, [], []⟩]) (cmd_bare.c27)) (cmd_bare.c26))
def cmd_bare.c18 : Cd := .cond (.t 22) (.seq (.reg false [⟨some 25, .fieldAddr (.d tCmd) 2 (.t 1), none, [], []⟩,
    ⟨some 26, .load (.d (.int .i64)) (.t 25), none, [], []⟩,
    ⟨some 27, .fieldAddr (.d tCmd) 2 (.t 3), none, [], []⟩,
    ⟨none, .store (.d (.int .i64)) (.t 27) (.t 26), none, [], []⟩]) (cmd_bare.c21)) (.seq (.seq (.seq (.reg false [⟨some 29, .bin .eql (.t 8) (.c (.int .i64) (5 : Int)), none, [], []⟩,
    ⟨some 28, .move (.t 29), none, [], []⟩]) (cmd_bare.c24)) (cmd_bare.c23)) (cmd_bare.c22))
def cmd_bare.c17 : Cd := .seq (.seq (.seq (.reg false [⟨some 23, .bin .eql (.t 8) (.c (.int .i64) (3 : Int)), none, [], []⟩,
    ⟨some 22, .move (.t 23), none, [], []⟩]) (cmd_bare.c20)) (cmd_bare.c19)) (cmd_bare.c18)
def cmd_bare.c13 : Cd := .cond (.t 14) (.seq (.tidy [14] [] [] none) (cmd_bare.c15)) (.seq (.tidy [14] [] [] none) (cmd_bare.c17))
def cmd_bare.c12 : Cd := .seq (.seq (.reg false [⟨some 15, .bin .eql (.t 8) (.c (.int .i64) (2 : Int)), none, [], []⟩,
    ⟨some 14, .move (.t 15), none, [], []⟩]) (cmd_bare.c14)) (cmd_bare.c13)
def cmd_bare.c6 : Cd := .cond (.t 9) (.seq (.tidy [9] [] [] none) (cmd_bare.c8)) (.seq (.tidy [9] [] [] none) (cmd_bare.c12))
def cmd_bare.c4 : Cd := .block 0 (.seq (.seq (.reg false [⟨some 10, .bin .eql (.t 8) (.c (.int .i64) (1 : Int)), none, [], []⟩,
    ⟨some 9, .move (.t 10), none, [], []⟩]) (cmd_bare.c7)) (cmd_bare.c6))
def cmd_bare.c11 : Cd := .tidy [62] [] [] none
def cmd_bare.c10 : Cd := .ret
def cmd_bare.c3 : Cd := .seq (.seq (.reg false [⟨some 62, .load (.d tCmd) (.t 3), none, [], []⟩,
    ⟨none, .store (.d tCmd) (.t 2) (.t 62), none, [], []⟩]) (cmd_bare.c11)) (cmd_bare.c10)
def cmd_bare.c1 : Cd := .seq (.seq (.seq (.reg false [⟨some 7, .fieldAddr (.d tCmd) 0 (.t 1), none, [], []⟩,
    ⟨some 8, .load (.d (.int .i64)) (.t 7), none, [], []⟩]) (cmd_bare.c5)) (cmd_bare.c4)) (cmd_bare.c3)
def cmd_bare.c0 : Cd := .seq (.seq (.reg false [⟨some 4, .fieldAddr (.d tCmd) 0 (.t 1), none, [], []⟩,
    ⟨some 5, .load (.d (.int .i64)) (.t 4), none, [], []⟩,
    ⟨some 6, .build tCmd [(0, (.t 5))] [], none, [], []⟩,
    ⟨some 3, .newbox 2 tCmd [], none, [], []⟩,
    ⟨none, .store (.d tCmd) (.t 3) (.t 6), none, [], []⟩]) (cmd_bare.c2)) (cmd_bare.c1)
def cmd_bare.fn : Fn := ⟨1, [.cell 2 (.d tCmd)], .seq (.reg false [⟨some 1, .box 0 (.t 0), none, [], []⟩,
    ⟨some 2, .newbox 1 tCmd [], none, [], []⟩]) (cmd_bare.c0)⟩
def cmd_of.c2 : Cd := .tidy [3, 4, 5, 6, 7, 8, 9, 10, 11, 12, 13, 14, 15, 16, 17] [] [] none
def cmd_of.c1 : Cd := .ret
def cmd_of.c0 : Cd := .seq (.seq (.reg false [⟨some 3, .fieldAddr (.d tCmd) 0 (.t 1), none, [], []⟩,
    ⟨some 4, .load (.d (.int .i64)) (.t 3), none, [], []⟩,
    ⟨some 5, .fieldAddr (.d tCmd) 1 (.t 1), none, [], []⟩,
    ⟨some 6, .load (.d (.int .i64)) (.t 5), none, [], []⟩,
    ⟨some 7, .fieldAddr (.d tCmd) 2 (.t 1), none, [], []⟩,
    ⟨some 8, .load (.d (.int .i64)) (.t 7), none, [], []⟩,
    ⟨some 9, .fieldAddr (.d tCmd) 3 (.t 1), none, [], []⟩,
    ⟨some 10, .load (.d (.int .i64)) (.t 9), none, [], []⟩,
    ⟨some 11, .fieldAddr (.d tCmd) 4 (.t 1), none, [], []⟩,
    ⟨some 12, .load (.d (.int .i64)) (.t 11), none, [], []⟩,
    ⟨some 13, .fieldAddr (.d tCmd) 6 (.t 1), none, [], []⟩,
    ⟨some 14, .load (.d (.int .i64)) (.t 13), none, [], []⟩,
    ⟨some 15, .fieldAddr (.d tCmd) 8 (.t 1), none, [], []⟩,
    ⟨some 16, .load (.d (.int .i64)) (.t 15), none, [], []⟩,
    ⟨some 17, .build tplain [(0, (.t 4)), (1, (.t 6)), (2, (.t 8)), (3, (.t 10)), (4, (.t 12)), (5, (.t 14)), (6, (.t 16))] [], none, [], []⟩,
    ⟨none, .store (.d tplain) (.t 2) (.t 17), none, [], []⟩]) (cmd_of.c2)) (cmd_of.c1)
def cmd_of.fn : Fn := ⟨1, [.cell 2 (.d tplain)], .seq (.reg false [⟨some 1, .box 0 (.t 0), none, [], []⟩,
    ⟨some 2, .newbox 1 tplain [], none, [], []⟩]) (cmd_of.c0)⟩
def slices_Equal_sint_int.c3 : Cd := .tidy [6, 7, 8, 9] [] [] none
def slices_Equal_sint_int.c5 : Cd := .ret
def slices_Equal_sint_int.c4 : Cd := .seq (.reg false [⟨some 4, .move (.c .bool false), none, [], []⟩]) (slices_Equal_sint_int.c5)
def slices_Equal_sint_int.c6 : Cd := .skip
def slices_Equal_sint_int.c2 : Cd := .cond (.t 10) (.seq (.tidy [10] [] [] none) (slices_Equal_sint_int.c4)) (.seq (.tidy [10] [] [] none) (slices_Equal_sint_int.c6))
def slices_Equal_sint_int.c9 : Cd := .tidy [11] [] [] none
def slices_Equal_sint_int.c14 : Cd := .skip
def slices_Equal_sint_int.c24 : Cd := .exit 0
def slices_Equal_sint_int.c17 : Cd := .tidy [15] [] [] none
def slices_Equal_sint_int.c19 : Cd := .tidy [16, 17, 18, 19, 20, 21, 22, 23] [] [] none
def slices_Equal_sint_int.c21 : Cd := .ret
def slices_Equal_sint_int.c20 : Cd := .seq (.reg false [⟨some 4, .move (.c .bool false), none, [], []⟩]) (slices_Equal_sint_int.c21)
def slices_Equal_sint_int.c22 : Cd := .skip
def slices_Equal_sint_int.c18 : Cd := .cond (.t 24) (.seq (.tidy [24] [] [] none) (slices_Equal_sint_int.c20)) (.seq (.tidy [24] [] [] none) (slices_Equal_sint_int.c22))
def slices_Equal_sint_int.c16 : Cd := .seq (.seq (.reg true [⟨some 16, .move (.t 0), none, [], []⟩,
    ⟨some 17, .move (.t 5), none, [], []⟩,
    ⟨some 18, .index (.sl (.int .i64)) (.t 16) (.t 17), none, [], []⟩,
    ⟨some 19, .load (.d (.int .i64)) (.t 18), none, [], []⟩,
    ⟨some 20, .move (.t 1), none, [], []⟩,
    ⟨some 21, .move (.t 5), none, [], []⟩,
    ⟨some 22, .index (.sl (.int .i64)) (.t 20) (.t 21), none, [], []⟩,
    ⟨some 23, .load (.d (.int .i64)) (.t 22), none, [], []⟩,
    ⟨some 24, .bin .neq (.t 19) (.t 23), none, [], []⟩]) (slices_Equal_sint_int.c19)) (slices_Equal_sint_int.c18)
def slices_Equal_sint_int.c23 : Cd := .tidy [25] [] [] none
def slices_Equal_sint_int.c15 : Cd := .seq (.reg false [⟨some 25, .bin .add (.t 13) (.c (.int .i64) (1 : Int)), none, [], []⟩,
    ⟨some 13, .move (.t 25), none, [], []⟩]) (slices_Equal_sint_int.c23)
def slices_Equal_sint_int.c13 : Cd := .seq (.block 1 (.seq (.seq (.reg false [⟨some 15, .move (.t 13), none, [], []⟩,
    ⟨some 5, .move (.t 15), none, [], []⟩]) (slices_Equal_sint_int.c17)) (slices_Equal_sint_int.c16))) (slices_Equal_sint_int.c15)
def slices_Equal_sint_int.c12 : Cd := .seq (.cond (.t 14) (.seq (.tidy [14] [] [] none) (slices_Equal_sint_int.c14)) (.seq (.tidy [14] [] [] none) (slices_Equal_sint_int.c24))) (slices_Equal_sint_int.c13)
def slices_Equal_sint_int.c11 : Cd := .tidy [5] [] [] (some 0)
def slices_Equal_sint_int.c10 : Cd := .seq (.seq (.reg false [⟨some 14, .bin .lss (.t 13) (.t 12), none, [], []⟩]) (slices_Equal_sint_int.c12)) (slices_Equal_sint_int.c11)
def slices_Equal_sint_int.c8 : Cd := .block 0 (.loop (slices_Equal_sint_int.c10))
def slices_Equal_sint_int.c25 : Cd := .ret
def slices_Equal_sint_int.c7 : Cd := .seq (.reg false [⟨some 4, .move (.c .bool true), none, [], []⟩]) (slices_Equal_sint_int.c25)
def slices_Equal_sint_int.c1 : Cd := .seq (.seq (.seq (.reg false [⟨some 11, .move (.t 0), none, [], []⟩,
    ⟨some 12, .len (.t 11), none, [], []⟩,
    ⟨some 13, .move (.c (.int .i64) (0 : Int)), none, [], []⟩]) (slices_Equal_sint_int.c9)) (slices_Equal_sint_int.c8)) (slices_Equal_sint_int.c7)
def slices_Equal_sint_int.c0 : Cd := .seq (.seq (.seq (.reg false [⟨some 6, .move (.t 0), none, [], []⟩,
    ⟨some 7, .len (.t 6), none, [], []⟩,
    ⟨some 8, .move (.t 1), none, [], []⟩,
    ⟨some 9, .len (.t 8), none, [], []⟩,
    ⟨some 10, .bin .neq (.t 7) (.t 9), none, [], []⟩]) (slices_Equal_sint_int.c3)) (slices_Equal_sint_int.c2)) (slices_Equal_sint_int.c1)
def slices_Equal_sint_int.fn : Fn := ⟨2, [.tmp 4], .seq (.reg false [⟨some 4, .move (.c .bool false), none, [], []⟩]) (slices_Equal_sint_int.c0)⟩
def cmd_Same.c2 : Cd := .tidy [5, 6, 7, 8, 9, 10, 11, 12, 13, 14, 15, 16, 17, 18, 19, 20, 21, 22, 23] [] [] none
def cmd_Same.c1 : Cd := .ret
def cmd_Same.c0 : Cd := .seq (.seq (.reg true [⟨some 5, .load (.d tCmd) (.t 2), none, [0], []⟩,
    ⟨some 6, .call (.f 26) [(.t 5)] [.d tplain] [] false, none, [], []⟩,
    ⟨some 7, .load (.d tCmd) (.t 3), none, [1], []⟩,
    ⟨some 8, .call (.f 26) [(.t 7)] [.d tplain] [] false, none, [], []⟩,
    ⟨some 9, .eqs tplain false (.t 6) (.t 8), none, [], []⟩,
    ⟨some 10, .move (.t 9), none, [], []⟩,
    ⟨some 11, .fieldAddr (.d tCmd) 5 (.t 2), some (10, true), [0], []⟩,
    ⟨some 12, .load (.d (.sl (.int .i64))) (.t 11), some (10, true), [0], []⟩,
    ⟨some 13, .fieldAddr (.d tCmd) 5 (.t 3), some (10, true), [1], []⟩,
    ⟨some 14, .load (.d (.sl (.int .i64))) (.t 13), some (10, true), [1], []⟩,
    ⟨some 15, .call (.f 27) [(.t 12), (.t 14)] [.d .bool] [] false, some (10, true), [], []⟩,
    ⟨some 16, .pick (.t 10) (.t 15) (.c .bool false), none, [], []⟩,
    ⟨some 17, .move (.t 16), none, [], []⟩,
    ⟨some 18, .fieldAddr (.d tCmd) 7 (.t 2), some (17, true), [0], []⟩,
    ⟨some 19, .load (.d (.sl (.int .i64))) (.t 18), some (17, true), [0], []⟩,
    ⟨some 20, .fieldAddr (.d tCmd) 7 (.t 3), some (17, true), [1], []⟩,
    ⟨some 21, .load (.d (.sl (.int .i64))) (.t 20), some (17, true), [1], []⟩,
    ⟨some 22, .call (.f 27) [(.t 19), (.t 21)] [.d .bool] [] false, some (17, true), [], []⟩,
    ⟨some 23, .pick (.t 17) (.t 22) (.c .bool false), none, [], []⟩,
    ⟨some 4, .move (.t 23), none, [], []⟩]) (cmd_Same.c2)) (cmd_Same.c1)
def cmd_Same.fn : Fn := ⟨2, [.tmp 4], .seq (.reg false [⟨some 2, .box 0 (.t 0), none, [], []⟩,
    ⟨some 3, .box 1 (.t 1), none, [], []⟩,
    ⟨some 4, .move (.c .bool false), none, [], []⟩]) (cmd_Same.c0)⟩
def cmd_Way.c2 : Cd := .tidy [3, 4, 5] [] [] none
def cmd_Way.c1 : Cd := .ret
def cmd_Way.c0 : Cd := .seq (.seq (.reg false [⟨some 3, .slicearr 4 .str (.g 1), none, [], []⟩,
    ⟨some 4, .move (.t 0), none, [], []⟩,
    ⟨some 5, .call (.f 30) [(.t 3), (.t 4)] [.d .str] [] false, none, [], []⟩,
    ⟨some 2, .move (.t 5), none, [], []⟩]) (cmd_Way.c2)) (cmd_Way.c1)
def cmd_Way.fn : Fn := ⟨1, [.tmp 2], .seq (.reg false [⟨some 2, .move (.c .str (⟨#[]⟩ : ByteArray)), none, [], []⟩]) (cmd_Way.c0)⟩
def cmd_fit.c2 : Cd := .tidy [3, 4, 5, 6, 7, 8] [] [] none
def cmd_fit.c1 : Cd := .ret
def cmd_fit.c0 : Cd := .seq (.seq (.reg false [⟨some 3, .move (.t 0), none, [], []⟩,
    ⟨some 4, .bin .geq (.t 3) (.c (.int .i64) (0 : Int)), none, [], []⟩,
    ⟨some 5, .move (.t 4), none, [], []⟩,
    ⟨some 6, .move (.t 0), some (5, true), [], []⟩,
    ⟨some 7, .bin .leq (.t 6) (.c (.int .i64) (1073741824 : Int)), some (5, true), [], []⟩,
    ⟨some 8, .pick (.t 5) (.t 7) (.c .bool false), none, [], []⟩,
    ⟨some 2, .move (.t 8), none, [], []⟩]) (cmd_fit.c2)) (cmd_fit.c1)
def cmd_fit.fn : Fn := ⟨1, [.tmp 2], .seq (.reg false [⟨some 2, .move (.c .bool false), none, [], []⟩]) (cmd_fit.c0)⟩
def cmd_row_1.c2 : Cd := .tidy [3, 4, 5] [] [] none
def cmd_row_1.c1 : Cd := .ret
def cmd_row_1.c0 : Cd := .seq (.seq (.reg false [⟨some 3, .move (.t 0), none, [], []⟩,
    ⟨some 4, .call (.f 22) [(.t 3)] [.d .bool] [] false, none, [], []⟩,
    ⟨some 5, .not (.t 4), none, [], []⟩,
    ⟨some 2, .move (.t 5), none, [], []⟩]) (cmd_row_1.c2)) (cmd_row_1.c1)
def cmd_row_1.fn : Fn := ⟨1, [.tmp 2], .seq (.reg false [⟨some 2, .move (.c .bool false), none, [], []⟩]) (cmd_row_1.c0)⟩
def slices_IndexFunc_sint_int.c3 : Cd := .tidy [6] [] [] none
def slices_IndexFunc_sint_int.c8 : Cd := .skip
def slices_IndexFunc_sint_int.c19 : Cd := .exit 0
def slices_IndexFunc_sint_int.c11 : Cd := .tidy [10] [] [] none
def slices_IndexFunc_sint_int.c13 : Cd := .tidy [11, 12, 13, 14, 15] [] [] none
def slices_IndexFunc_sint_int.c16 : Cd := .tidy [17] [] [] none
def slices_IndexFunc_sint_int.c15 : Cd := .ret
def slices_IndexFunc_sint_int.c14 : Cd := .seq (.seq (.reg false [⟨some 17, .move (.t 5), none, [], []⟩,
    ⟨some 4, .move (.t 17), none, [], []⟩]) (slices_IndexFunc_sint_int.c16)) (slices_IndexFunc_sint_int.c15)
def slices_IndexFunc_sint_int.c17 : Cd := .skip
def slices_IndexFunc_sint_int.c12 : Cd := .cond (.t 16) (.seq (.tidy [16] [] [] none) (slices_IndexFunc_sint_int.c14)) (.seq (.tidy [16] [] [] none) (slices_IndexFunc_sint_int.c17))
def slices_IndexFunc_sint_int.c10 : Cd := .seq (.seq (.reg false [⟨some 11, .move (.t 1), none, [], []⟩,
    ⟨some 12, .move (.t 0), none, [], []⟩,
    ⟨some 13, .move (.t 5), none, [], []⟩,
    ⟨some 14, .index (.sl (.int .i64)) (.t 12) (.t 13), none, [], []⟩,
    ⟨some 15, .load (.d (.int .i64)) (.t 14), none, [], []⟩,
    ⟨some 16, .call (.t 11) [(.t 15)] [.d .bool] [] false, none, [], []⟩]) (slices_IndexFunc_sint_int.c13)) (slices_IndexFunc_sint_int.c12)
def slices_IndexFunc_sint_int.c18 : Cd := .tidy [18] [] [] none
def slices_IndexFunc_sint_int.c9 : Cd := .seq (.reg false [⟨some 18, .bin .add (.t 8) (.c (.int .i64) (1 : Int)), none, [], []⟩,
    ⟨some 8, .move (.t 18), none, [], []⟩]) (slices_IndexFunc_sint_int.c18)
def slices_IndexFunc_sint_int.c7 : Cd := .seq (.block 1 (.seq (.seq (.reg false [⟨some 10, .move (.t 8), none, [], []⟩,
    ⟨some 5, .move (.t 10), none, [], []⟩]) (slices_IndexFunc_sint_int.c11)) (slices_IndexFunc_sint_int.c10))) (slices_IndexFunc_sint_int.c9)
def slices_IndexFunc_sint_int.c6 : Cd := .seq (.cond (.t 9) (.seq (.tidy [9] [] [] none) (slices_IndexFunc_sint_int.c8)) (.seq (.tidy [9] [] [] none) (slices_IndexFunc_sint_int.c19))) (slices_IndexFunc_sint_int.c7)
def slices_IndexFunc_sint_int.c5 : Cd := .tidy [5] [] [] (some 0)
def slices_IndexFunc_sint_int.c4 : Cd := .seq (.seq (.reg false [⟨some 9, .bin .lss (.t 8) (.t 7), none, [], []⟩]) (slices_IndexFunc_sint_int.c6)) (slices_IndexFunc_sint_int.c5)
def slices_IndexFunc_sint_int.c2 : Cd := .block 0 (.loop (slices_IndexFunc_sint_int.c4))
def slices_IndexFunc_sint_int.c20 : Cd := .ret
def slices_IndexFunc_sint_int.c1 : Cd := .seq (.reg false [⟨some 4, .move (.c (.int .i64) ((-1) : Int)), none, [], []⟩]) (slices_IndexFunc_sint_int.c20)
def slices_IndexFunc_sint_int.c0 : Cd := .seq (.seq (.seq (.reg false [⟨some 6, .move (.t 0), none, [], []⟩,
    ⟨some 7, .len (.t 6), none, [], []⟩,
    ⟨some 8, .move (.c (.int .i64) (0 : Int)), none, [], []⟩]) (slices_IndexFunc_sint_int.c3)) (slices_IndexFunc_sint_int.c2)) (slices_IndexFunc_sint_int.c1)
def slices_IndexFunc_sint_int.fn : Fn := ⟨2, [.tmp 4], .seq (.reg false [⟨some 4, .move (.c (.int .i64) (0 : Int)), none, [], []⟩]) (slices_IndexFunc_sint_int.c0)⟩
def slices_ContainsFunc_sint_int.c2 : Cd := .tidy [5, 6, 7, 8] [] [] none
def slices_ContainsFunc_sint_int.c1 : Cd := .ret
def slices_ContainsFunc_sint_int.c0 : Cd := .seq (.seq (.reg false [⟨some 5, .move (.t 0), none, [], []⟩,
    ⟨some 6, .move (.t 1), none, [], []⟩,
    ⟨some 7, .call (.f 34) [(.t 5), (.t 6)] [.d (.int .i64)] [] false, none, [], []⟩,
    ⟨some 8, .bin .geq (.t 7) (.c (.int .i64) (0 : Int)), none, [], []⟩,
    ⟨some 4, .move (.t 8), none, [], []⟩]) (slices_ContainsFunc_sint_int.c2)) (slices_ContainsFunc_sint_int.c1)
def slices_ContainsFunc_sint_int.fn : Fn := ⟨2, [.tmp 4], .seq (.reg false [⟨some 4, .move (.c .bool false), none, [], []⟩]) (slices_ContainsFunc_sint_int.c0)⟩
def cmd_row.c2 : Cd := .tidy [3, 4, 5, 6, 7, 8, 9, 10] [] [] none
def cmd_row.c1 : Cd := .ret
def cmd_row.c0 : Cd := .seq (.seq (.reg false [⟨some 3, .move (.t 0), none, [], []⟩,
    ⟨some 4, .len (.t 3), none, [], []⟩,
    ⟨some 5, .bin .leq (.t 4) (.c (.int .i64) (16 : Int)), none, [], []⟩,
    ⟨some 6, .move (.t 5), none, [], []⟩,
    ⟨some 7, .move (.t 0), some (6, true), [], []⟩,
    ⟨some 8, .call (.f 31) [(.t 7), (.f 32)] [.d .bool] [] false, some (6, true), [], []⟩,
    ⟨some 9, .not (.t 8), some (6, true), [], []⟩,
    ⟨some 10, .pick (.t 6) (.t 9) (.c .bool false), none, [], []⟩,
    ⟨some 2, .move (.t 10), none, [], []⟩]) (cmd_row.c2)) (cmd_row.c1)
def cmd_row.fn : Fn := ⟨1, [.tmp 2], .seq (.reg false [⟨some 2, .move (.c .bool false), none, [], []⟩]) (cmd_row.c0)⟩
def cmd_May.c2 : Cd := .tidy [3, 4, 5, 6, 7, 8, 9, 10, 11, 12, 13, 14, 15, 16, 17, 18, 19, 20, 21, 22, 23, 24, 25, 26, 27, 28, 29, 30, 31, 32, 33, 34, 35, 36, 37, 38, 39, 40, 41, 42, 43, 44, 45, 46, 47, 48, 49, 50, 51, 52, 53] [] [] none
def cmd_May.c1 : Cd := .ret
def cmd_May.c0 : Cd := .seq (.seq (.reg true [⟨some 3, .fieldAddr (.d tCmd) 0 (.t 1), none, [0], []⟩,
    ⟨some 4, .load (.d (.int .i64)) (.t 3), none, [0], []⟩,
    ⟨some 5, .call (.f 17) [(.t 4)] [.d .str] [] false, none, [], []⟩,
    ⟨some 6, .eqs .str true (.t 5) (.c .str (⟨#[]⟩ : ByteArray)), none, [], []⟩,
    ⟨some 7, .move (.t 6), none, [], []⟩,
    ⟨some 8, .load (.d tCmd) (.t 1), some (7, true), [0], []⟩,
    ⟨some 9, .load (.d tCmd) (.t 1), some (7, true), [0], []⟩,
    ⟨some 10, .call (.f 21) [(.t 9)] [.d tCmd] [] false, some (7, true), [], []⟩,
    ⟨some 11, .call (.f 11) [(.t 8), (.t 10)] [.d .bool] [] false, some (7, true), [], []⟩,
    ⟨some 12, .pick (.t 7) (.t 11) (.c .bool false), none, [], []⟩,
    ⟨some 13, .move (.t 12), none, [], []⟩,
    ⟨some 14, .fieldAddr (.d tCmd) 1 (.t 1), some (13, true), [0], []⟩,
    ⟨some 15, .load (.d (.int .i64)) (.t 14), some (13, true), [0], []⟩,
    ⟨some 16, .call (.f 19) [(.t 15)] [.d .str] [] false, some (13, true), [], []⟩,
    ⟨some 17, .eqs .str true (.t 16) (.c .str (⟨#[]⟩ : ByteArray)), some (13, true), [], []⟩,
    ⟨some 18, .pick (.t 13) (.t 17) (.c .bool false), none, [], []⟩,
    ⟨some 19, .move (.t 18), none, [], []⟩,
    ⟨some 20, .fieldAddr (.d tCmd) 2 (.t 1), some (19, true), [0], []⟩,
    ⟨some 21, .load (.d (.int .i64)) (.t 20), some (19, true), [0], []⟩,
    ⟨some 22, .call (.f 22) [(.t 21)] [.d .bool] [] false, some (19, true), [], []⟩,
    ⟨some 23, .pick (.t 19) (.t 22) (.c .bool false), none, [], []⟩,
    ⟨some 24, .move (.t 23), none, [], []⟩,
    ⟨some 25, .fieldAddr (.d tCmd) 3 (.t 1), some (24, true), [0], []⟩,
    ⟨some 26, .load (.d (.int .i64)) (.t 25), some (24, true), [0], []⟩,
    ⟨some 27, .call (.f 22) [(.t 26)] [.d .bool] [] false, some (24, true), [], []⟩,
    ⟨some 28, .pick (.t 24) (.t 27) (.c .bool false), none, [], []⟩,
    ⟨some 29, .move (.t 28), none, [], []⟩,
    ⟨some 30, .fieldAddr (.d tCmd) 4 (.t 1), some (29, true), [0], []⟩,
    ⟨some 31, .load (.d (.int .i64)) (.t 30), some (29, true), [0], []⟩,
    ⟨some 32, .call (.f 22) [(.t 31)] [.d .bool] [] false, some (29, true), [], []⟩,
    ⟨some 33, .pick (.t 29) (.t 32) (.c .bool false), none, [], []⟩,
    ⟨some 34, .move (.t 33), none, [], []⟩,
    ⟨some 35, .fieldAddr (.d tCmd) 6 (.t 1), some (34, true), [0], []⟩,
    ⟨some 36, .load (.d (.int .i64)) (.t 35), some (34, true), [0], []⟩,
    ⟨some 37, .call (.f 22) [(.t 36)] [.d .bool] [] false, some (34, true), [], []⟩,
    ⟨some 38, .pick (.t 34) (.t 37) (.c .bool false), none, [], []⟩,
    ⟨some 39, .move (.t 38), none, [], []⟩,
    ⟨some 40, .fieldAddr (.d tCmd) 8 (.t 1), some (39, true), [0], []⟩,
    ⟨some 41, .load (.d (.int .i64)) (.t 40), some (39, true), [0], []⟩,
    ⟨some 42, .call (.f 22) [(.t 41)] [.d .bool] [] false, some (39, true), [], []⟩,
    ⟨some 43, .pick (.t 39) (.t 42) (.c .bool false), none, [], []⟩,
    ⟨some 44, .move (.t 43), none, [], []⟩,
    ⟨some 45, .fieldAddr (.d tCmd) 5 (.t 1), some (44, true), [0], []⟩,
    ⟨some 46, .load (.d (.sl (.int .i64))) (.t 45), some (44, true), [0], []⟩,
    ⟨some 47, .call (.f 23) [(.t 46)] [.d .bool] [] false, some (44, true), [], []⟩,
    ⟨some 48, .pick (.t 44) (.t 47) (.c .bool false), none, [], []⟩,
    ⟨some 49, .move (.t 48), none, [], []⟩,
    ⟨some 50, .fieldAddr (.d tCmd) 7 (.t 1), some (49, true), [0], []⟩,
    ⟨some 51, .load (.d (.sl (.int .i64))) (.t 50), some (49, true), [0], []⟩,
    ⟨some 52, .call (.f 23) [(.t 51)] [.d .bool] [] false, some (49, true), [], []⟩,
    ⟨some 53, .pick (.t 49) (.t 52) (.c .bool false), none, [], []⟩,
    ⟨some 2, .move (.t 53), none, [], []⟩]) (cmd_May.c2)) (cmd_May.c1)
def cmd_May.fn : Fn := ⟨1, [.tmp 2], .seq (.reg false [⟨some 1, .box 0 (.t 0), none, [], []⟩,
    ⟨some 2, .move (.c .bool false), none, [], []⟩]) (cmd_May.c0)⟩
def innkeeplaw03_awake.c2 : Cd := .tidy [9, 10, 11, 12] [] [] none
def innkeeplaw03_awake.c4 : Cd := .tidy [13, 14, 15, 16] [] [] none
def innkeeplaw03_awake.c6 : Cd := .tidy [5, 17, 18, 19, 20] [] [] none
def innkeeplaw03_awake.c8 : Cd := .tidy [7, 21, 22, 23, 24] [] [] none
def innkeeplaw03_awake.c10 : Cd := .tidy [25, 26, 27, 28, 29, 30, 31, 32, 33, 34, 35, 36, 37, 38, 39, 40, 41, 42, 43, 44, 45, 46, 47, 48, 49, 50, 51, 52, 53, 54, 55, 56, 57, 58, 59, 60, 61, 62, 63, 64, 65, 66, 67, 68, 69, 70, 71, 72, 73, 74, 75, 76, 77, 78, 79, 80, 81, 82, 83, 84, 85, 86, 87, 88, 89, 90, 91, 92, 93, 94] [] [] none
def innkeeplaw03_awake.c9 : Cd := .ret
def innkeeplaw03_awake.c7 : Cd := .seq (.seq (.reg false [⟨some 25, .build tCmd [(0, (.c (.int .i64) (9 : Int)))] [], none, [], []⟩,
    ⟨some 26, .call (.f 9) [(.t 25)] [.d .bool] [] false, none, [], []⟩,
    ⟨some 27, .move (.t 26), none, [], []⟩,
    ⟨some 28, .build tCmd [(0, (.c (.int .i64) (9 : Int))), (2, (.c (.int .i64) (1 : Int)))] [], some (27, true), [], []⟩,
    ⟨some 29, .call (.f 9) [(.t 28)] [.d .bool] [] false, some (27, true), [], []⟩,
    ⟨some 30, .not (.t 29), some (27, true), [], []⟩,
    ⟨some 31, .pick (.t 27) (.t 30) (.c .bool false), none, [], []⟩,
    ⟨some 32, .move (.t 31), none, [], []⟩,
    ⟨some 33, .build tCmd [(0, (.c (.int .i64) (1 : Int))), (1, (.c (.int .i64) (3 : Int)))] [], some (32, true), [], []⟩,
    ⟨some 34, .call (.f 9) [(.t 33)] [.d .bool] [] false, some (32, true), [], []⟩,
    ⟨some 35, .pick (.t 32) (.t 34) (.c .bool false), none, [], []⟩,
    ⟨some 36, .move (.t 35), none, [], []⟩,
    ⟨some 37, .build tCmd [(0, (.c (.int .i64) (1 : Int))), (1, (.c (.int .i64) (4 : Int)))] [], some (36, true), [], []⟩,
    ⟨some 38, .call (.f 9) [(.t 37)] [.d .bool] [] false, some (36, true), [], []⟩,
    ⟨some 39, .not (.t 38), some (36, true), [], []⟩,
    ⟨some 40, .pick (.t 36) (.t 39) (.c .bool false), none, [], []⟩,
    ⟨some 41, .move (.t 40), none, [], []⟩,
    ⟨some 42, .build tCmd [] [], some (41, true), [], []⟩,
    ⟨some 43, .call (.f 9) [(.t 42)] [.d .bool] [] false, some (41, true), [], []⟩,
    ⟨some 44, .not (.t 43), some (41, true), [], []⟩,
    ⟨some 45, .pick (.t 41) (.t 44) (.c .bool false), none, [], []⟩,
    ⟨some 46, .move (.t 45), none, [], []⟩,
    ⟨some 47, .move (.t 1), some (46, true), [], []⟩,
    ⟨some 48, .bin .eql (.t 47) (.c (.int .i64) (8 : Int)), some (46, true), [], []⟩,
    ⟨some 49, .pick (.t 46) (.t 48) (.c .bool false), none, [], []⟩,
    ⟨some 50, .move (.t 49), none, [], []⟩,
    ⟨some 51, .move (.t 2), some (50, true), [], []⟩,
    ⟨some 52, .pick (.t 50) (.t 51) (.c .bool false), none, [], []⟩,
    ⟨some 53, .move (.t 52), none, [], []⟩,
    ⟨some 54, .move (.t 3), some (53, true), [], []⟩,
    ⟨some 55, .bin .eql (.t 54) (.c (.int .i64) (3 : Int)), some (53, true), [], []⟩,
    ⟨some 56, .pick (.t 53) (.t 55) (.c .bool false), none, [], []⟩,
    ⟨some 57, .move (.t 56), none, [], []⟩,
    ⟨some 58, .move (.t 4), some (57, true), [], []⟩,
    ⟨some 59, .pick (.t 57) (.t 58) (.c .bool false), none, [], []⟩,
    ⟨some 60, .move (.t 59), none, [], []⟩,
    ⟨some 61, .move (.t 6), some (60, true), [], []⟩,
    ⟨some 62, .not (.t 61), some (60, true), [], []⟩,
    ⟨some 63, .pick (.t 60) (.t 62) (.c .bool false), none, [], []⟩,
    ⟨some 64, .move (.t 63), none, [], []⟩,
    ⟨some 65, .move (.t 8), some (64, true), [], []⟩,
    ⟨some 66, .not (.t 65), some (64, true), [], []⟩,
    ⟨some 67, .pick (.t 64) (.t 66) (.c .bool false), none, [], []⟩,
    ⟨some 68, .move (.t 67), none, [], []⟩,
    ⟨some 69, .call (.f 17) [(.c (.int .i64) (10 : Int))] [.d .str] [] false, some (68, true), [], []⟩,
    ⟨some 70, .eqs .str false (.t 69) (.c .str (⟨#[111, 119, 110]⟩ : ByteArray)), some (68, true), [], []⟩,
    ⟨some 71, .pick (.t 68) (.t 70) (.c .bool false), none, [], []⟩,
    ⟨some 72, .move (.t 71), none, [], []⟩,
    ⟨some 73, .call (.f 19) [(.c (.int .i64) (0 : Int))] [.d .str] [] false, some (72, true), [], []⟩,
    ⟨some 74, .eqs .str false (.t 73) (.c .str (⟨#[110, 111, 114, 116, 104]⟩ : ByteArray)), some (72, true), [], []⟩,
    ⟨some 75, .pick (.t 72) (.t 74) (.c .bool false), none, [], []⟩,
    ⟨some 76, .move (.t 75), none, [], []⟩,
    ⟨some 77, .call (.f 17) [(.c (.int .i64) (0 : Int))] [.d .str] [] false, some (76, true), [], []⟩,
    ⟨some 78, .eqs .str false (.t 77) (.c .str (⟨#[]⟩ : ByteArray)), some (76, true), [], []⟩,
    ⟨some 79, .pick (.t 76) (.t 78) (.c .bool false), none, [], []⟩,
    ⟨some 80, .move (.t 79), none, [], []⟩,
    ⟨some 81, .slice 0 (.int .i64) [(.c (.int .i64) (1 : Int))], some (80, true), [], []⟩,
    ⟨some 82, .build tCmd [(5, (.t 81))] [], some (80, true), [], []⟩,
    ⟨some 83, .slice 1 (.int .i64) [(.c (.int .i64) (1 : Int))], some (80, true), [], []⟩,
    ⟨some 84, .build tCmd [(5, (.t 83))] [], some (80, true), [], []⟩,
    ⟨some 85, .call (.f 11) [(.t 82), (.t 84)] [.d .bool] [] false, some (80, true), [], []⟩,
    ⟨some 86, .pick (.t 80) (.t 85) (.c .bool false), none, [], []⟩,
    ⟨some 87, .move (.t 86), none, [], []⟩,
    ⟨some 88, .slice 2 (.int .i64) [(.c (.int .i64) (1 : Int))], some (87, true), [], []⟩,
    ⟨some 89, .build tCmd [(5, (.t 88))] [], some (87, true), [], []⟩,
    ⟨some 90, .slice 3 (.int .i64) [(.c (.int .i64) (2 : Int))], some (87, true), [], []⟩,
    ⟨some 91, .build tCmd [(5, (.t 90))] [], some (87, true), [], []⟩,
    ⟨some 92, .call (.f 11) [(.t 89), (.t 91)] [.d .bool] [] false, some (87, true), [], []⟩,
    ⟨some 93, .not (.t 92), some (87, true), [], []⟩,
    ⟨some 94, .pick (.t 87) (.t 93) (.c .bool false), none, [], []⟩,
    ⟨some 0, .move (.t 94), none, [], []⟩]) (innkeeplaw03_awake.c10)) (innkeeplaw03_awake.c9)
def innkeeplaw03_awake.c5 : Cd := .seq (.seq (.reg false [⟨some 22, .call (.f 15) [(.c .str (⟨#[117, 112]⟩ : ByteArray))] [.d (.int .i64), .d .bool] [] false, none, [], []⟩,
    ⟨some 21, .move (.t 22), none, [], []⟩,
    ⟨some 23, .extract (.t 21) 0, none, [], []⟩,
    ⟨some 24, .extract (.t 21) 1, none, [], []⟩,
    ⟨some 7, .move (.t 23), none, [], []⟩,
    ⟨some 8, .move (.t 24), none, [], []⟩]) (innkeeplaw03_awake.c8)) (innkeeplaw03_awake.c7)
def innkeeplaw03_awake.c3 : Cd := .seq (.seq (.reg false [⟨some 18, .call (.f 13) [(.c .str (⟨#[]⟩ : ByteArray))] [.d (.int .i64), .d .bool] [] false, none, [], []⟩,
    ⟨some 17, .move (.t 18), none, [], []⟩,
    ⟨some 19, .extract (.t 17) 0, none, [], []⟩,
    ⟨some 20, .extract (.t 17) 1, none, [], []⟩,
    ⟨some 5, .move (.t 19), none, [], []⟩,
    ⟨some 6, .move (.t 20), none, [], []⟩]) (innkeeplaw03_awake.c6)) (innkeeplaw03_awake.c5)
def innkeeplaw03_awake.c1 : Cd := .seq (.seq (.reg false [⟨some 14, .call (.f 15) [(.c .str (⟨#[119, 101, 115, 116]⟩ : ByteArray))] [.d (.int .i64), .d .bool] [] false, none, [], []⟩,
    ⟨some 13, .move (.t 14), none, [], []⟩,
    ⟨some 15, .extract (.t 13) 0, none, [], []⟩,
    ⟨some 16, .extract (.t 13) 1, none, [], []⟩,
    ⟨some 3, .move (.t 15), none, [], []⟩,
    ⟨some 4, .move (.t 16), none, [], []⟩]) (innkeeplaw03_awake.c4)) (innkeeplaw03_awake.c3)
def innkeeplaw03_awake.c0 : Cd := .seq (.seq (.reg false [⟨some 10, .call (.f 13) [(.c .str (⟨#[116, 114, 97, 100, 101]⟩ : ByteArray))] [.d (.int .i64), .d .bool] [] false, none, [], []⟩,
    ⟨some 9, .move (.t 10), none, [], []⟩,
    ⟨some 11, .extract (.t 9) 0, none, [], []⟩,
    ⟨some 12, .extract (.t 9) 1, none, [], []⟩,
    ⟨some 1, .move (.t 11), none, [], []⟩,
    ⟨some 2, .move (.t 12), none, [], []⟩]) (innkeeplaw03_awake.c2)) (innkeeplaw03_awake.c1)
def innkeeplaw03_awake.fn : Fn := ⟨0, [.tmp 0], .seq (.reg false [⟨some 0, .move (.c .bool false), none, [], []⟩]) (innkeeplaw03_awake.c0)⟩
def innkeepref03_Few.c2 : Cd := .tidy [3, 4, 5, 6, 7, 8, 9, 10, 11, 12] [] [] none
def innkeepref03_Few.c1 : Cd := .ret
def innkeepref03_Few.c0 : Cd := .seq (.seq (.reg false [⟨some 3, .fieldAddr (.d tCmd) 5 (.t 1), none, [], []⟩,
    ⟨some 4, .load (.d (.sl (.int .i64))) (.t 3), none, [], []⟩,
    ⟨some 5, .len (.t 4), none, [], []⟩,
    ⟨some 6, .bin .leq (.t 5) (.c (.int .i64) (40 : Int)), none, [], []⟩,
    ⟨some 7, .move (.t 6), none, [], []⟩,
    ⟨some 8, .fieldAddr (.d tCmd) 7 (.t 1), some (7, true), [], []⟩,
    ⟨some 9, .load (.d (.sl (.int .i64))) (.t 8), some (7, true), [], []⟩,
    ⟨some 10, .len (.t 9), some (7, true), [], []⟩,
    ⟨some 11, .bin .leq (.t 10) (.c (.int .i64) (40 : Int)), some (7, true), [], []⟩,
    ⟨some 12, .pick (.t 7) (.t 11) (.c .bool false), none, [], []⟩,
    ⟨some 2, .move (.t 12), none, [], []⟩]) (innkeepref03_Few.c2)) (innkeepref03_Few.c1)
def innkeepref03_Few.fn : Fn := ⟨1, [.tmp 2], .seq (.reg false [⟨some 1, .box 0 (.t 0), none, [], []⟩,
    ⟨some 2, .move (.c .bool false), none, [], []⟩]) (innkeepref03_Few.c0)⟩
def innkeepref03_fit.c3 : Cd := .tidy [5] [] [] none
def innkeepref03_fit.c6 : Cd := .tidy [7, 8] [] [] none
def innkeepref03_fit.c5 : Cd := .ret
def innkeepref03_fit.c4 : Cd := .seq (.seq (.reg false [⟨some 7, .move (.t 0), none, [], []⟩,
    ⟨some 8, .bin .eql (.t 7) (.c (.int .i64) (0 : Int)), none, [], []⟩,
    ⟨some 4, .move (.t 8), none, [], []⟩]) (innkeepref03_fit.c6)) (innkeepref03_fit.c5)
def innkeepref03_fit.c7 : Cd := .skip
def innkeepref03_fit.c2 : Cd := .cond (.t 6) (.seq (.tidy [6] [] [] none) (innkeepref03_fit.c4)) (.seq (.tidy [6] [] [] none) (innkeepref03_fit.c7))
def innkeepref03_fit.c9 : Cd := .tidy [9, 10, 11, 12, 13, 14] [] [] none
def innkeepref03_fit.c8 : Cd := .ret
def innkeepref03_fit.c1 : Cd := .seq (.seq (.reg false [⟨some 9, .move (.t 0), none, [], []⟩,
    ⟨some 10, .bin .geq (.t 9) (.c (.int .i64) (0 : Int)), none, [], []⟩,
    ⟨some 11, .move (.t 10), none, [], []⟩,
    ⟨some 12, .move (.t 0), some (11, true), [], []⟩,
    ⟨some 13, .bin .leq (.t 12) (.c (.int .i64) (1073741824 : Int)), some (11, true), [], []⟩,
    ⟨some 14, .pick (.t 11) (.t 13) (.c .bool false), none, [], []⟩,
    ⟨some 4, .move (.t 14), none, [], []⟩]) (innkeepref03_fit.c9)) (innkeepref03_fit.c8)
def innkeepref03_fit.c0 : Cd := .seq (.seq (.seq (.reg false [⟨some 5, .move (.t 1), none, [], []⟩,
    ⟨some 6, .not (.t 5), none, [], []⟩]) (innkeepref03_fit.c3)) (innkeepref03_fit.c2)) (innkeepref03_fit.c1)
def innkeepref03_fit.fn : Fn := ⟨2, [.tmp 4], .seq (.reg false [⟨some 4, .move (.c .bool false), none, [], []⟩]) (innkeepref03_fit.c0)⟩
def innkeepref03_row.c3 : Cd := .tidy [6] [] [] none
def innkeepref03_row.c6 : Cd := .tidy [8, 9, 10] [] [] none
def innkeepref03_row.c5 : Cd := .ret
def innkeepref03_row.c4 : Cd := .seq (.seq (.reg false [⟨some 8, .move (.t 0), none, [], []⟩,
    ⟨some 9, .len (.t 8), none, [], []⟩,
    ⟨some 10, .bin .eql (.t 9) (.c (.int .i64) (0 : Int)), none, [], []⟩,
    ⟨some 4, .move (.t 10), none, [], []⟩]) (innkeepref03_row.c6)) (innkeepref03_row.c5)
def innkeepref03_row.c7 : Cd := .skip
def innkeepref03_row.c2 : Cd := .cond (.t 7) (.seq (.tidy [7] [] [] none) (innkeepref03_row.c4)) (.seq (.tidy [7] [] [] none) (innkeepref03_row.c7))
def innkeepref03_row.c14 : Cd := .tidy [11, 12, 13] [] [] none
def innkeepref03_row.c15 : Cd := .skip
def innkeepref03_row.c23 : Cd := .exit 0
def innkeepref03_row.c13 : Cd := .cond (.t 14) (.seq (.tidy [14] [] [] none) (innkeepref03_row.c15)) (.seq (.tidy [14] [] [] none) (innkeepref03_row.c23))
def innkeepref03_row.c18 : Cd := .tidy [17, 18, 19, 20, 21] [] [] none
def innkeepref03_row.c20 : Cd := .ret
def innkeepref03_row.c19 : Cd := .seq (.reg false [⟨some 4, .move (.c .bool false), none, [], []⟩]) (innkeepref03_row.c20)
def innkeepref03_row.c21 : Cd := .skip
def innkeepref03_row.c17 : Cd := .cond (.t 22) (.seq (.tidy [22] [] [] none) (innkeepref03_row.c19)) (.seq (.tidy [22] [] [] none) (innkeepref03_row.c21))
def innkeepref03_row.c22 : Cd := .tidy [15, 16] [] [] none
def innkeepref03_row.c16 : Cd := .seq (.reg false [⟨some 15, .move (.t 5), none, [], []⟩,
    ⟨some 16, .bin .add (.t 15) (.c (.int .i64) (1 : Int)), none, [], []⟩,
    ⟨some 5, .move (.t 16), none, [], []⟩]) (innkeepref03_row.c22)
def innkeepref03_row.c12 : Cd := .seq (.block 1 (.seq (.seq (.reg false [⟨some 17, .move (.t 0), none, [], []⟩,
    ⟨some 18, .move (.t 5), none, [], []⟩,
    ⟨some 19, .index (.sl (.int .i64)) (.t 17) (.t 18), none, [], []⟩,
    ⟨some 20, .load (.d (.int .i64)) (.t 19), none, [], []⟩,
    ⟨some 21, .call (.f 24) [(.t 20), (.c .bool true)] [.d .bool] [] false, none, [], []⟩,
    ⟨some 22, .not (.t 21), none, [], []⟩]) (innkeepref03_row.c18)) (innkeepref03_row.c17))) (innkeepref03_row.c16)
def innkeepref03_row.c11 : Cd := .tidy [] [] [] (some 0)
def innkeepref03_row.c10 : Cd := .seq (.seq (.seq (.seq (.reg false [⟨some 11, .move (.t 5), none, [], []⟩,
    ⟨some 12, .move (.t 0), none, [], []⟩,
    ⟨some 13, .len (.t 12), none, [], []⟩,
    ⟨some 14, .bin .lss (.t 11) (.t 13), none, [], []⟩]) (innkeepref03_row.c14)) (innkeepref03_row.c13)) (innkeepref03_row.c12)) (innkeepref03_row.c11)
def innkeepref03_row.c9 : Cd := .block 0 (.loop (innkeepref03_row.c10))
def innkeepref03_row.c25 : Cd := .tidy [23, 24, 25] [] [] none
def innkeepref03_row.c24 : Cd := .ret
def innkeepref03_row.c8 : Cd := .seq (.seq (.reg false [⟨some 23, .move (.t 0), none, [], []⟩,
    ⟨some 24, .len (.t 23), none, [], []⟩,
    ⟨some 25, .bin .leq (.t 24) (.c (.int .i64) (16 : Int)), none, [], []⟩,
    ⟨some 4, .move (.t 25), none, [], []⟩]) (innkeepref03_row.c25)) (innkeepref03_row.c24)
def innkeepref03_row.c1 : Cd := .seq (.seq (.reg false [⟨some 5, .move (.c (.int .i64) (0 : Int)), none, [], []⟩]) (innkeepref03_row.c9)) (innkeepref03_row.c8)
def innkeepref03_row.c0 : Cd := .seq (.seq (.seq (.reg false [⟨some 6, .move (.t 1), none, [], []⟩,
    ⟨some 7, .not (.t 6), none, [], []⟩]) (innkeepref03_row.c3)) (innkeepref03_row.c2)) (innkeepref03_row.c1)
def innkeepref03_row.fn : Fn := ⟨2, [.tmp 4], .seq (.reg false [⟨some 4, .move (.c .bool false), none, [], []⟩]) (innkeepref03_row.c0)⟩
def innkeepref03_May.c2 : Cd := .tidy [4, 5] [] [] none
def innkeepref03_May.c5 : Cd := .tidy [6, 7, 8, 9, 10, 11, 12, 13, 14, 15, 16, 17, 18, 19, 20, 21, 22, 23, 24, 25, 26, 27, 28, 29] [] [] none
def innkeepref03_May.c7 : Cd := .ret
def innkeepref03_May.c6 : Cd := .seq (.reg false [⟨some 2, .move (.c .bool false), none, [], []⟩]) (innkeepref03_May.c7)
def innkeepref03_May.c8 : Cd := .skip
def innkeepref03_May.c4 : Cd := .cond (.t 30) (.seq (.tidy [30] [] [] none) (innkeepref03_May.c6)) (.seq (.tidy [30] [] [] none) (innkeepref03_May.c8))
def innkeepref03_May.c10 : Cd := .tidy [31, 32, 33, 34, 35, 36, 37, 38, 39, 40, 41, 42, 43, 44, 45, 46, 47, 48, 49, 50, 51, 52, 53, 54, 55, 56, 57, 58, 59, 60, 61, 62, 63, 64, 65, 66, 67, 68, 69, 70, 71, 72, 73, 74, 75, 76, 77, 78, 79, 80, 81, 82, 83, 84, 85, 86, 87, 88, 89, 90, 91, 92, 93] [] [] none
def innkeepref03_May.c9 : Cd := .ret
def innkeepref03_May.c3 : Cd := .seq (.seq (.reg false [⟨some 31, .fieldAddr (.d tCmd) 2 (.t 1), none, [], []⟩,
    ⟨some 32, .load (.d (.int .i64)) (.t 31), none, [], []⟩,
    ⟨some 33, .move (.t 3), none, [], []⟩,
    ⟨some 34, .bin .geq (.t 33) (.c (.int .i64) (3 : Int)), none, [], []⟩,
    ⟨some 35, .move (.t 34), none, [], []⟩,
    ⟨some 36, .move (.t 3), some (35, true), [], []⟩,
    ⟨some 37, .bin .leq (.t 36) (.c (.int .i64) (7 : Int)), some (35, true), [], []⟩,
    ⟨some 38, .pick (.t 35) (.t 37) (.c .bool false), none, [], []⟩,
    ⟨some 39, .call (.f 24) [(.t 32), (.t 38)] [.d .bool] [] false, none, [], []⟩,
    ⟨some 40, .move (.t 39), none, [], []⟩,
    ⟨some 41, .fieldAddr (.d tCmd) 3 (.t 1), some (40, true), [], []⟩,
    ⟨some 42, .load (.d (.int .i64)) (.t 41), some (40, true), [], []⟩,
    ⟨some 43, .move (.t 3), some (40, true), [], []⟩,
    ⟨some 44, .bin .eql (.t 43) (.c (.int .i64) (5 : Int)), some (40, true), [], []⟩,
    ⟨some 45, .move (.t 44), some (40, true), [], []⟩,
    ⟨some 46, .move (.t 3), some (45, false), [], []⟩,
    ⟨some 47, .bin .eql (.t 46) (.c (.int .i64) (6 : Int)), some (45, false), [], []⟩,
    ⟨some 48, .pick (.t 45) (.c .bool true) (.t 47), some (40, true), [], []⟩,
    ⟨some 49, .call (.f 24) [(.t 42), (.t 48)] [.d .bool] [] false, some (40, true), [], []⟩,
    ⟨some 50, .pick (.t 40) (.t 49) (.c .bool false), none, [], []⟩,
    ⟨some 51, .move (.t 50), none, [], []⟩,
    ⟨some 52, .fieldAddr (.d tCmd) 4 (.t 1), some (51, true), [], []⟩,
    ⟨some 53, .load (.d (.int .i64)) (.t 52), some (51, true), [], []⟩,
    ⟨some 54, .move (.t 3), some (51, true), [], []⟩,
    ⟨some 55, .bin .eql (.t 54) (.c (.int .i64) (2 : Int)), some (51, true), [], []⟩,
    ⟨some 56, .move (.t 55), some (51, true), [], []⟩,
    ⟨some 57, .move (.t 3), some (56, false), [], []⟩,
    ⟨some 58, .bin .eql (.t 57) (.c (.int .i64) (7 : Int)), some (56, false), [], []⟩,
    ⟨some 59, .pick (.t 56) (.c .bool true) (.t 58), some (51, true), [], []⟩,
    ⟨some 60, .move (.t 59), some (51, true), [], []⟩,
    ⟨some 61, .move (.t 3), some (60, false), [], []⟩,
    ⟨some 62, .bin .eql (.t 61) (.c (.int .i64) (8 : Int)), some (60, false), [], []⟩,
    ⟨some 63, .pick (.t 60) (.c .bool true) (.t 62), some (51, true), [], []⟩,
    ⟨some 64, .call (.f 24) [(.t 53), (.t 63)] [.d .bool] [] false, some (51, true), [], []⟩,
    ⟨some 65, .pick (.t 51) (.t 64) (.c .bool false), none, [], []⟩,
    ⟨some 66, .move (.t 65), none, [], []⟩,
    ⟨some 67, .fieldAddr (.d tCmd) 6 (.t 1), some (66, true), [], []⟩,
    ⟨some 68, .load (.d (.int .i64)) (.t 67), some (66, true), [], []⟩,
    ⟨some 69, .move (.t 3), some (66, true), [], []⟩,
    ⟨some 70, .bin .eql (.t 69) (.c (.int .i64) (8 : Int)), some (66, true), [], []⟩,
    ⟨some 71, .call (.f 24) [(.t 68), (.t 70)] [.d .bool] [] false, some (66, true), [], []⟩,
    ⟨some 72, .pick (.t 66) (.t 71) (.c .bool false), none, [], []⟩,
    ⟨some 73, .move (.t 72), none, [], []⟩,
    ⟨some 74, .fieldAddr (.d tCmd) 8 (.t 1), some (73, true), [], []⟩,
    ⟨some 75, .load (.d (.int .i64)) (.t 74), some (73, true), [], []⟩,
    ⟨some 76, .move (.t 3), some (73, true), [], []⟩,
    ⟨some 77, .bin .eql (.t 76) (.c (.int .i64) (8 : Int)), some (73, true), [], []⟩,
    ⟨some 78, .call (.f 24) [(.t 75), (.t 77)] [.d .bool] [] false, some (73, true), [], []⟩,
    ⟨some 79, .pick (.t 73) (.t 78) (.c .bool false), none, [], []⟩,
    ⟨some 80, .move (.t 79), none, [], []⟩,
    ⟨some 81, .fieldAddr (.d tCmd) 5 (.t 1), some (80, true), [], []⟩,
    ⟨some 82, .load (.d (.sl (.int .i64))) (.t 81), some (80, true), [], []⟩,
    ⟨some 83, .move (.t 3), some (80, true), [], []⟩,
    ⟨some 84, .bin .eql (.t 83) (.c (.int .i64) (8 : Int)), some (80, true), [], []⟩,
    ⟨some 85, .call (.f 25) [(.t 82), (.t 84)] [.d .bool] [] false, some (80, true), [], []⟩,
    ⟨some 86, .pick (.t 80) (.t 85) (.c .bool false), none, [], []⟩,
    ⟨some 87, .move (.t 86), none, [], []⟩,
    ⟨some 88, .fieldAddr (.d tCmd) 7 (.t 1), some (87, true), [], []⟩,
    ⟨some 89, .load (.d (.sl (.int .i64))) (.t 88), some (87, true), [], []⟩,
    ⟨some 90, .move (.t 3), some (87, true), [], []⟩,
    ⟨some 91, .bin .eql (.t 90) (.c (.int .i64) (8 : Int)), some (87, true), [], []⟩,
    ⟨some 92, .call (.f 25) [(.t 89), (.t 91)] [.d .bool] [] false, some (87, true), [], []⟩,
    ⟨some 93, .pick (.t 87) (.t 92) (.c .bool false), none, [], []⟩,
    ⟨some 2, .move (.t 93), none, [], []⟩]) (innkeepref03_May.c10)) (innkeepref03_May.c9)
def innkeepref03_May.c1 : Cd := .seq (.seq (.seq (.reg false [⟨some 6, .move (.t 3), none, [], []⟩,
    ⟨some 7, .bin .lss (.t 6) (.c (.int .i64) (1 : Int)), none, [], []⟩,
    ⟨some 8, .move (.t 7), none, [], []⟩,
    ⟨some 9, .move (.t 3), some (8, false), [], []⟩,
    ⟨some 10, .bin .gtr (.t 9) (.c (.int .i64) (10 : Int)), some (8, false), [], []⟩,
    ⟨some 11, .pick (.t 8) (.c .bool true) (.t 10), none, [], []⟩,
    ⟨some 12, .move (.t 11), none, [], []⟩,
    ⟨some 13, .fieldAddr (.d tCmd) 1 (.t 1), some (12, false), [], []⟩,
    ⟨some 14, .load (.d (.int .i64)) (.t 13), some (12, false), [], []⟩,
    ⟨some 15, .bin .lss (.t 14) (.c (.int .i64) (0 : Int)), some (12, false), [], []⟩,
    ⟨some 16, .pick (.t 12) (.c .bool true) (.t 15), none, [], []⟩,
    ⟨some 17, .move (.t 16), none, [], []⟩,
    ⟨some 18, .fieldAddr (.d tCmd) 1 (.t 1), some (17, false), [], []⟩,
    ⟨some 19, .load (.d (.int .i64)) (.t 18), some (17, false), [], []⟩,
    ⟨some 20, .bin .gtr (.t 19) (.c (.int .i64) (3 : Int)), some (17, false), [], []⟩,
    ⟨some 21, .pick (.t 17) (.c .bool true) (.t 20), none, [], []⟩,
    ⟨some 22, .move (.t 21), none, [], []⟩,
    ⟨some 23, .fieldAddr (.d tCmd) 1 (.t 1), some (22, false), [], []⟩,
    ⟨some 24, .load (.d (.int .i64)) (.t 23), some (22, false), [], []⟩,
    ⟨some 25, .bin .neq (.t 24) (.c (.int .i64) (0 : Int)), some (22, false), [], []⟩,
    ⟨some 26, .move (.t 25), some (22, false), [], []⟩,
    ⟨some 27, .move (.t 3), some (26, true), [], []⟩,
    ⟨some 28, .bin .gtr (.t 27) (.c (.int .i64) (2 : Int)), some (26, true), [], []⟩,
    ⟨some 29, .pick (.t 26) (.t 28) (.c .bool false), some (22, false), [], []⟩,
    ⟨some 30, .pick (.t 22) (.c .bool true) (.t 29), none, [], []⟩]) (innkeepref03_May.c5)) (innkeepref03_May.c4)) (innkeepref03_May.c3)
def innkeepref03_May.c0 : Cd := .seq (.seq (.reg false [⟨some 4, .fieldAddr (.d tCmd) 0 (.t 1), none, [], []⟩,
    ⟨some 5, .load (.d (.int .i64)) (.t 4), none, [], []⟩,
    ⟨some 3, .move (.t 5), none, [], []⟩]) (innkeepref03_May.c2)) (innkeepref03_May.c1)
def innkeepref03_May.fn : Fn := ⟨1, [.tmp 2], .seq (.reg false [⟨some 1, .box 0 (.t 0), none, [], []⟩,
    ⟨some 2, .move (.c .bool false), none, [], []⟩]) (innkeepref03_May.c0)⟩
def innkeepref03_Ints.c3 : Cd := .tidy [6, 7, 8, 9] [] [] none
def innkeepref03_Ints.c5 : Cd := .ret
def innkeepref03_Ints.c4 : Cd := .seq (.reg false [⟨some 4, .move (.c .bool false), none, [], []⟩]) (innkeepref03_Ints.c5)
def innkeepref03_Ints.c6 : Cd := .skip
def innkeepref03_Ints.c2 : Cd := .cond (.t 10) (.seq (.tidy [10] [] [] none) (innkeepref03_Ints.c4)) (.seq (.tidy [10] [] [] none) (innkeepref03_Ints.c6))
def innkeepref03_Ints.c13 : Cd := .tidy [11, 12, 13] [] [] none
def innkeepref03_Ints.c14 : Cd := .skip
def innkeepref03_Ints.c22 : Cd := .exit 0
def innkeepref03_Ints.c12 : Cd := .cond (.t 14) (.seq (.tidy [14] [] [] none) (innkeepref03_Ints.c14)) (.seq (.tidy [14] [] [] none) (innkeepref03_Ints.c22))
def innkeepref03_Ints.c17 : Cd := .tidy [17, 18, 19, 20, 21, 22, 23, 24] [] [] none
def innkeepref03_Ints.c19 : Cd := .ret
def innkeepref03_Ints.c18 : Cd := .seq (.reg false [⟨some 4, .move (.c .bool false), none, [], []⟩]) (innkeepref03_Ints.c19)
def innkeepref03_Ints.c20 : Cd := .skip
def innkeepref03_Ints.c16 : Cd := .cond (.t 25) (.seq (.tidy [25] [] [] none) (innkeepref03_Ints.c18)) (.seq (.tidy [25] [] [] none) (innkeepref03_Ints.c20))
def innkeepref03_Ints.c21 : Cd := .tidy [15, 16] [] [] none
def innkeepref03_Ints.c15 : Cd := .seq (.reg false [⟨some 15, .move (.t 5), none, [], []⟩,
    ⟨some 16, .bin .add (.t 15) (.c (.int .i64) (1 : Int)), none, [], []⟩,
    ⟨some 5, .move (.t 16), none, [], []⟩]) (innkeepref03_Ints.c21)
def innkeepref03_Ints.c11 : Cd := .seq (.block 1 (.seq (.seq (.reg true [⟨some 17, .move (.t 0), none, [], []⟩,
    ⟨some 18, .move (.t 5), none, [], []⟩,
    ⟨some 19, .index (.sl (.int .i64)) (.t 17) (.t 18), none, [], []⟩,
    ⟨some 20, .load (.d (.int .i64)) (.t 19), none, [], []⟩,
    ⟨some 21, .move (.t 1), none, [], []⟩,
    ⟨some 22, .move (.t 5), none, [], []⟩,
    ⟨some 23, .index (.sl (.int .i64)) (.t 21) (.t 22), none, [], []⟩,
    ⟨some 24, .load (.d (.int .i64)) (.t 23), none, [], []⟩,
    ⟨some 25, .bin .neq (.t 20) (.t 24), none, [], []⟩]) (innkeepref03_Ints.c17)) (innkeepref03_Ints.c16))) (innkeepref03_Ints.c15)
def innkeepref03_Ints.c10 : Cd := .tidy [] [] [] (some 0)
def innkeepref03_Ints.c9 : Cd := .seq (.seq (.seq (.seq (.reg false [⟨some 11, .move (.t 5), none, [], []⟩,
    ⟨some 12, .move (.t 0), none, [], []⟩,
    ⟨some 13, .len (.t 12), none, [], []⟩,
    ⟨some 14, .bin .lss (.t 11) (.t 13), none, [], []⟩]) (innkeepref03_Ints.c13)) (innkeepref03_Ints.c12)) (innkeepref03_Ints.c11)) (innkeepref03_Ints.c10)
def innkeepref03_Ints.c8 : Cd := .block 0 (.loop (innkeepref03_Ints.c9))
def innkeepref03_Ints.c23 : Cd := .ret
def innkeepref03_Ints.c7 : Cd := .seq (.reg false [⟨some 4, .move (.c .bool true), none, [], []⟩]) (innkeepref03_Ints.c23)
def innkeepref03_Ints.c1 : Cd := .seq (.seq (.reg false [⟨some 5, .move (.c (.int .i64) (0 : Int)), none, [], []⟩]) (innkeepref03_Ints.c8)) (innkeepref03_Ints.c7)
def innkeepref03_Ints.c0 : Cd := .seq (.seq (.seq (.reg false [⟨some 6, .move (.t 0), none, [], []⟩,
    ⟨some 7, .len (.t 6), none, [], []⟩,
    ⟨some 8, .move (.t 1), none, [], []⟩,
    ⟨some 9, .len (.t 8), none, [], []⟩,
    ⟨some 10, .bin .neq (.t 7) (.t 9), none, [], []⟩]) (innkeepref03_Ints.c3)) (innkeepref03_Ints.c2)) (innkeepref03_Ints.c1)
def innkeepref03_Ints.fn : Fn := ⟨2, [.tmp 4], .seq (.reg false [⟨some 4, .move (.c .bool false), none, [], []⟩]) (innkeepref03_Ints.c0)⟩
def innkeepref03_Same.c2 : Cd := .tidy [5, 6, 7, 8, 9, 10, 11, 12, 13, 14, 15, 16, 17, 18, 19, 20, 21, 22, 23, 24, 25, 26, 27, 28, 29, 30, 31, 32, 33, 34, 35, 36, 37, 38, 39, 40, 41, 42, 43, 44, 45, 46, 47, 48, 49, 50, 51, 52, 53, 54, 55, 56, 57, 58, 59, 60, 61, 62, 63, 64, 65] [] [] none
def innkeepref03_Same.c1 : Cd := .ret
def innkeepref03_Same.c0 : Cd := .seq (.seq (.reg false [⟨some 5, .fieldAddr (.d tCmd) 0 (.t 2), none, [], []⟩,
    ⟨some 6, .load (.d (.int .i64)) (.t 5), none, [], []⟩,
    ⟨some 7, .fieldAddr (.d tCmd) 0 (.t 3), none, [], []⟩,
    ⟨some 8, .load (.d (.int .i64)) (.t 7), none, [], []⟩,
    ⟨some 9, .bin .eql (.t 6) (.t 8), none, [], []⟩,
    ⟨some 10, .move (.t 9), none, [], []⟩,
    ⟨some 11, .fieldAddr (.d tCmd) 1 (.t 2), some (10, true), [], []⟩,
    ⟨some 12, .load (.d (.int .i64)) (.t 11), some (10, true), [], []⟩,
    ⟨some 13, .fieldAddr (.d tCmd) 1 (.t 3), some (10, true), [], []⟩,
    ⟨some 14, .load (.d (.int .i64)) (.t 13), some (10, true), [], []⟩,
    ⟨some 15, .bin .eql (.t 12) (.t 14), some (10, true), [], []⟩,
    ⟨some 16, .pick (.t 10) (.t 15) (.c .bool false), none, [], []⟩,
    ⟨some 17, .move (.t 16), none, [], []⟩,
    ⟨some 18, .fieldAddr (.d tCmd) 2 (.t 2), some (17, true), [], []⟩,
    ⟨some 19, .load (.d (.int .i64)) (.t 18), some (17, true), [], []⟩,
    ⟨some 20, .fieldAddr (.d tCmd) 2 (.t 3), some (17, true), [], []⟩,
    ⟨some 21, .load (.d (.int .i64)) (.t 20), some (17, true), [], []⟩,
    ⟨some 22, .bin .eql (.t 19) (.t 21), some (17, true), [], []⟩,
    ⟨some 23, .pick (.t 17) (.t 22) (.c .bool false), none, [], []⟩,
    ⟨some 24, .move (.t 23), none, [], []⟩,
    ⟨some 25, .fieldAddr (.d tCmd) 3 (.t 2), some (24, true), [], []⟩,
    ⟨some 26, .load (.d (.int .i64)) (.t 25), some (24, true), [], []⟩,
    ⟨some 27, .fieldAddr (.d tCmd) 3 (.t 3), some (24, true), [], []⟩,
    ⟨some 28, .load (.d (.int .i64)) (.t 27), some (24, true), [], []⟩,
    ⟨some 29, .bin .eql (.t 26) (.t 28), some (24, true), [], []⟩,
    ⟨some 30, .pick (.t 24) (.t 29) (.c .bool false), none, [], []⟩,
    ⟨some 31, .move (.t 30), none, [], []⟩,
    ⟨some 32, .fieldAddr (.d tCmd) 4 (.t 2), some (31, true), [], []⟩,
    ⟨some 33, .load (.d (.int .i64)) (.t 32), some (31, true), [], []⟩,
    ⟨some 34, .fieldAddr (.d tCmd) 4 (.t 3), some (31, true), [], []⟩,
    ⟨some 35, .load (.d (.int .i64)) (.t 34), some (31, true), [], []⟩,
    ⟨some 36, .bin .eql (.t 33) (.t 35), some (31, true), [], []⟩,
    ⟨some 37, .pick (.t 31) (.t 36) (.c .bool false), none, [], []⟩,
    ⟨some 38, .move (.t 37), none, [], []⟩,
    ⟨some 39, .fieldAddr (.d tCmd) 6 (.t 2), some (38, true), [], []⟩,
    ⟨some 40, .load (.d (.int .i64)) (.t 39), some (38, true), [], []⟩,
    ⟨some 41, .fieldAddr (.d tCmd) 6 (.t 3), some (38, true), [], []⟩,
    ⟨some 42, .load (.d (.int .i64)) (.t 41), some (38, true), [], []⟩,
    ⟨some 43, .bin .eql (.t 40) (.t 42), some (38, true), [], []⟩,
    ⟨some 44, .pick (.t 38) (.t 43) (.c .bool false), none, [], []⟩,
    ⟨some 45, .move (.t 44), none, [], []⟩,
    ⟨some 46, .fieldAddr (.d tCmd) 8 (.t 2), some (45, true), [], []⟩,
    ⟨some 47, .load (.d (.int .i64)) (.t 46), some (45, true), [], []⟩,
    ⟨some 48, .fieldAddr (.d tCmd) 8 (.t 3), some (45, true), [], []⟩,
    ⟨some 49, .load (.d (.int .i64)) (.t 48), some (45, true), [], []⟩,
    ⟨some 50, .bin .eql (.t 47) (.t 49), some (45, true), [], []⟩,
    ⟨some 51, .pick (.t 45) (.t 50) (.c .bool false), none, [], []⟩,
    ⟨some 52, .move (.t 51), none, [], []⟩,
    ⟨some 53, .fieldAddr (.d tCmd) 5 (.t 2), some (52, true), [], []⟩,
    ⟨some 54, .load (.d (.sl (.int .i64))) (.t 53), some (52, true), [], []⟩,
    ⟨some 55, .fieldAddr (.d tCmd) 5 (.t 3), some (52, true), [], []⟩,
    ⟨some 56, .load (.d (.sl (.int .i64))) (.t 55), some (52, true), [], []⟩,
    ⟨some 57, .call (.f 28) [(.t 54), (.t 56)] [.d .bool] [] false, some (52, true), [], []⟩,
    ⟨some 58, .pick (.t 52) (.t 57) (.c .bool false), none, [], []⟩,
    ⟨some 59, .move (.t 58), none, [], []⟩,
    ⟨some 60, .fieldAddr (.d tCmd) 7 (.t 2), some (59, true), [], []⟩,
    ⟨some 61, .load (.d (.sl (.int .i64))) (.t 60), some (59, true), [], []⟩,
    ⟨some 62, .fieldAddr (.d tCmd) 7 (.t 3), some (59, true), [], []⟩,
    ⟨some 63, .load (.d (.sl (.int .i64))) (.t 62), some (59, true), [], []⟩,
    ⟨some 64, .call (.f 28) [(.t 61), (.t 63)] [.d .bool] [] false, some (59, true), [], []⟩,
    ⟨some 65, .pick (.t 59) (.t 64) (.c .bool false), none, [], []⟩,
    ⟨some 4, .move (.t 65), none, [], []⟩]) (innkeepref03_Same.c2)) (innkeepref03_Same.c1)
def innkeepref03_Same.fn : Fn := ⟨2, [.tmp 4], .seq (.reg false [⟨some 2, .box 0 (.t 0), none, [], []⟩,
    ⟨some 3, .box 1 (.t 1), none, [], []⟩,
    ⟨some 4, .move (.c .bool false), none, [], []⟩]) (innkeepref03_Same.c0)⟩
def innkeeplaw03_CmdMay.c3 : Cd := .tidy [5, 6, 7, 8, 9, 10, 11, 12, 13, 14, 15] [] [] none
def innkeeplaw03_CmdMay.c6 : Cd := .tidy [17] [] [] none
def innkeeplaw03_CmdMay.c5 : Cd := .ret
def innkeeplaw03_CmdMay.c4 : Cd := .seq (.seq (.reg false [⟨some 17, .call (.f 7) [] [.d .bool] [] false, none, [], []⟩,
    ⟨some 4, .move (.t 17), none, [], []⟩]) (innkeeplaw03_CmdMay.c6)) (innkeeplaw03_CmdMay.c5)
def innkeeplaw03_CmdMay.c7 : Cd := .skip
def innkeeplaw03_CmdMay.c2 : Cd := .cond (.t 16) (.seq (.tidy [16] [] [] none) (innkeeplaw03_CmdMay.c4)) (.seq (.tidy [16] [] [] none) (innkeeplaw03_CmdMay.c7))
def innkeeplaw03_CmdMay.c9 : Cd := .tidy [18, 19, 20, 21, 22, 23, 24, 25, 26, 27, 28, 29, 30, 31, 32, 33, 34, 35, 36] [] [] none
def innkeeplaw03_CmdMay.c8 : Cd := .ret
def innkeeplaw03_CmdMay.c1 : Cd := .seq (.seq (.reg true [⟨some 18, .load (.d tCmd) (.t 2), none, [0], []⟩,
    ⟨some 19, .call (.f 9) [(.t 18)] [.d .bool] [] false, none, [], []⟩,
    ⟨some 20, .load (.d tCmd) (.t 2), none, [0], []⟩,
    ⟨some 21, .call (.f 10) [(.t 20)] [.d .bool] [] false, none, [], []⟩,
    ⟨some 22, .eqs .bool false (.t 19) (.t 21), none, [], []⟩,
    ⟨some 23, .move (.t 22), none, [], []⟩,
    ⟨some 24, .load (.d tCmd) (.t 2), some (23, true), [0], []⟩,
    ⟨some 25, .load (.d tCmd) (.t 3), some (23, true), [1], []⟩,
    ⟨some 26, .call (.f 11) [(.t 24), (.t 25)] [.d .bool] [] false, some (23, true), [], []⟩,
    ⟨some 27, .load (.d tCmd) (.t 2), some (23, true), [0], []⟩,
    ⟨some 28, .load (.d tCmd) (.t 3), some (23, true), [1], []⟩,
    ⟨some 29, .call (.f 12) [(.t 27), (.t 28)] [.d .bool] [] false, some (23, true), [], []⟩,
    ⟨some 30, .eqs .bool false (.t 26) (.t 29), some (23, true), [], []⟩,
    ⟨some 31, .pick (.t 23) (.t 30) (.c .bool false), none, [], []⟩,
    ⟨some 32, .move (.t 31), none, [], []⟩,
    ⟨some 33, .load (.d tCmd) (.t 2), some (32, true), [0], []⟩,
    ⟨some 34, .load (.d tCmd) (.t 2), some (32, true), [0], []⟩,
    ⟨some 35, .call (.f 11) [(.t 33), (.t 34)] [.d .bool] [] false, some (32, true), [], []⟩,
    ⟨some 36, .pick (.t 32) (.t 35) (.c .bool false), none, [], []⟩,
    ⟨some 4, .move (.t 36), none, [], []⟩]) (innkeeplaw03_CmdMay.c9)) (innkeeplaw03_CmdMay.c8)
def innkeeplaw03_CmdMay.c0 : Cd := .seq (.seq (.seq (.reg false [⟨some 5, .call (.f 7) [] [.d .bool] [] false, none, [], []⟩,
    ⟨some 6, .not (.t 5), none, [], []⟩,
    ⟨some 7, .move (.t 6), none, [], []⟩,
    ⟨some 8, .load (.d tCmd) (.t 2), some (7, false), [], []⟩,
    ⟨some 9, .call (.f 8) [(.t 8)] [.d .bool] [] false, some (7, false), [], []⟩,
    ⟨some 10, .not (.t 9), some (7, false), [], []⟩,
    ⟨some 11, .pick (.t 7) (.c .bool true) (.t 10), none, [], []⟩,
    ⟨some 12, .move (.t 11), none, [], []⟩,
    ⟨some 13, .load (.d tCmd) (.t 3), some (12, false), [], []⟩,
    ⟨some 14, .call (.f 8) [(.t 13)] [.d .bool] [] false, some (12, false), [], []⟩,
    ⟨some 15, .not (.t 14), some (12, false), [], []⟩,
    ⟨some 16, .pick (.t 12) (.c .bool true) (.t 15), none, [], []⟩]) (innkeeplaw03_CmdMay.c3)) (innkeeplaw03_CmdMay.c2)) (innkeeplaw03_CmdMay.c1)
def innkeeplaw03_CmdMay.fn : Fn := ⟨2, [.tmp 4], .seq (.reg false [⟨some 2, .box 0 (.t 0), none, [], []⟩,
    ⟨some 3, .box 1 (.t 1), none, [], []⟩,
    ⟨some 4, .move (.c .bool false), none, [], []⟩]) (innkeeplaw03_CmdMay.c0)⟩
def innkeepref03_Name.c2 : Cd := .tidy [4] [] [] none
def innkeepref03_Name.c5 : Cd := .tidy [5, 6, 7, 8, 9] [] [] none
def innkeepref03_Name.c7 : Cd := .ret
def innkeepref03_Name.c6 : Cd := .seq (.reg false [⟨some 2, .move (.c .str (⟨#[]⟩ : ByteArray)), none, [], []⟩]) (innkeepref03_Name.c7)
def innkeepref03_Name.c8 : Cd := .skip
def innkeepref03_Name.c4 : Cd := .cond (.t 10) (.seq (.tidy [10] [] [] none) (innkeepref03_Name.c6)) (.seq (.tidy [10] [] [] none) (innkeepref03_Name.c8))
def innkeepref03_Name.c10 : Cd := .tidy [11, 12, 13, 14] [] [] none
def innkeepref03_Name.c9 : Cd := .ret
def innkeepref03_Name.c3 : Cd := .seq (.seq (.reg false [⟨some 11, .move (.t 3), none, [], []⟩,
    ⟨some 12, .move (.t 0), none, [], []⟩,
    ⟨some 13, .index (.sl .str) (.t 11) (.t 12), none, [], []⟩,
    ⟨some 14, .load (.d .str) (.t 13), none, [], []⟩,
    ⟨some 2, .move (.t 14), none, [], []⟩]) (innkeepref03_Name.c10)) (innkeepref03_Name.c9)
def innkeepref03_Name.c1 : Cd := .seq (.seq (.seq (.reg false [⟨some 5, .move (.t 0), none, [], []⟩,
    ⟨some 6, .bin .lss (.t 5) (.c (.int .i64) (1 : Int)), none, [], []⟩,
    ⟨some 7, .move (.t 6), none, [], []⟩,
    ⟨some 8, .move (.t 0), some (7, false), [], []⟩,
    ⟨some 9, .bin .gtr (.t 8) (.c (.int .i64) (10 : Int)), some (7, false), [], []⟩,
    ⟨some 10, .pick (.t 7) (.c .bool true) (.t 9), none, [], []⟩]) (innkeepref03_Name.c5)) (innkeepref03_Name.c4)) (innkeepref03_Name.c3)
def innkeepref03_Name.c0 : Cd := .seq (.seq (.reg false [⟨some 4, .slice 0 .str [(.c .str (⟨#[]⟩ : ByteArray)), (.c .str (⟨#[109, 111, 118, 101]⟩ : ByteArray)), (.c .str (⟨#[112, 117, 115, 104]⟩ : ByteArray)), (.c .str (⟨#[103, 101, 116]⟩ : ByteArray)), (.c .str (⟨#[100, 114, 111, 112]⟩ : ByteArray)), (.c .str (⟨#[112, 117, 116]⟩ : ByteArray)), (.c .str (⟨#[116, 97, 107, 101]⟩ : ByteArray)), (.c .str (⟨#[103, 105, 118, 101]⟩ : ByteArray)), (.c .str (⟨#[116, 114, 97, 100, 101]⟩ : ByteArray)), (.c .str (⟨#[108, 111, 111, 107]⟩ : ByteArray)), (.c .str (⟨#[111, 119, 110]⟩ : ByteArray))], none, [], []⟩,
    ⟨some 3, .move (.t 4), none, [], []⟩]) (innkeepref03_Name.c2)) (innkeepref03_Name.c1)
def innkeepref03_Name.fn : Fn := ⟨1, [.tmp 2], .seq (.reg false [⟨some 2, .move (.c .str (⟨#[]⟩ : ByteArray)), none, [], []⟩]) (innkeepref03_Name.c0)⟩
def innkeepref03_Kind.c7 : Cd := .tidy [5] [] [] none
def innkeepref03_Kind.c8 : Cd := .skip
def innkeepref03_Kind.c17 : Cd := .exit 0
def innkeepref03_Kind.c6 : Cd := .cond (.t 6) (.seq (.tidy [6] [] [] none) (innkeepref03_Kind.c8)) (.seq (.tidy [6] [] [] none) (innkeepref03_Kind.c17))
def innkeepref03_Kind.c11 : Cd := .tidy [9, 10, 11] [] [] none
def innkeepref03_Kind.c14 : Cd := .tidy [13] [] [] none
def innkeepref03_Kind.c13 : Cd := .ret
def innkeepref03_Kind.c12 : Cd := .seq (.seq (.reg false [⟨some 13, .move (.t 4), none, [], []⟩,
    ⟨some 2, .move (.t 13), none, [], []⟩,
    ⟨some 3, .move (.c .bool true), none, [], []⟩]) (innkeepref03_Kind.c14)) (innkeepref03_Kind.c13)
def innkeepref03_Kind.c15 : Cd := .skip
def innkeepref03_Kind.c10 : Cd := .cond (.t 12) (.seq (.tidy [12] [] [] none) (innkeepref03_Kind.c12)) (.seq (.tidy [12] [] [] none) (innkeepref03_Kind.c15))
def innkeepref03_Kind.c16 : Cd := .tidy [7, 8] [] [] none
def innkeepref03_Kind.c9 : Cd := .seq (.reg false [⟨some 7, .move (.t 4), none, [], []⟩,
    ⟨some 8, .bin .add (.t 7) (.c (.int .i64) (1 : Int)), none, [], []⟩,
    ⟨some 4, .move (.t 8), none, [], []⟩]) (innkeepref03_Kind.c16)
def innkeepref03_Kind.c5 : Cd := .seq (.block 1 (.seq (.seq (.reg false [⟨some 9, .move (.t 4), none, [], []⟩,
    ⟨some 10, .call (.f 18) [(.t 9)] [.d .str] [] false, none, [], []⟩,
    ⟨some 11, .move (.t 0), none, [], []⟩,
    ⟨some 12, .eqs .str false (.t 10) (.t 11), none, [], []⟩]) (innkeepref03_Kind.c11)) (innkeepref03_Kind.c10))) (innkeepref03_Kind.c9)
def innkeepref03_Kind.c4 : Cd := .tidy [] [] [] (some 0)
def innkeepref03_Kind.c3 : Cd := .seq (.seq (.seq (.seq (.reg false [⟨some 5, .move (.t 4), none, [], []⟩,
    ⟨some 6, .bin .leq (.t 5) (.c (.int .i64) (10 : Int)), none, [], []⟩]) (innkeepref03_Kind.c7)) (innkeepref03_Kind.c6)) (innkeepref03_Kind.c5)) (innkeepref03_Kind.c4)
def innkeepref03_Kind.c2 : Cd := .block 0 (.loop (innkeepref03_Kind.c3))
def innkeepref03_Kind.c18 : Cd := .ret
def innkeepref03_Kind.c1 : Cd := .seq (.reg false [⟨some 2, .move (.c (.int .i64) (0 : Int)), none, [], []⟩,
    ⟨some 3, .move (.c .bool false), none, [], []⟩]) (innkeepref03_Kind.c18)
def innkeepref03_Kind.c0 : Cd := .seq (.seq (.reg false [⟨some 4, .move (.c (.int .i64) (1 : Int)), none, [], []⟩]) (innkeepref03_Kind.c2)) (innkeepref03_Kind.c1)
def innkeepref03_Kind.fn : Fn := ⟨1, [.tmp 2, .tmp 3], .seq (.reg false [⟨some 2, .move (.c (.int .i64) (0 : Int)), none, [], []⟩,
    ⟨some 3, .move (.c .bool false), none, [], []⟩]) (innkeepref03_Kind.c0)⟩
def innkeepref03_Way.c3 : Cd := .tidy [3] [] [] none
def innkeepref03_Way.c5 : Cd := .ret
def innkeepref03_Way.c4 : Cd := .seq (.reg false [⟨some 2, .move (.c .str (⟨#[110, 111, 114, 116, 104]⟩ : ByteArray)), none, [], []⟩]) (innkeepref03_Way.c5)
def innkeepref03_Way.c6 : Cd := .skip
def innkeepref03_Way.c2 : Cd := .cond (.t 4) (.seq (.tidy [4] [] [] none) (innkeepref03_Way.c4)) (.seq (.tidy [4] [] [] none) (innkeepref03_Way.c6))
def innkeepref03_Way.c9 : Cd := .tidy [5] [] [] none
def innkeepref03_Way.c11 : Cd := .ret
def innkeepref03_Way.c10 : Cd := .seq (.reg false [⟨some 2, .move (.c .str (⟨#[101, 97, 115, 116]⟩ : ByteArray)), none, [], []⟩]) (innkeepref03_Way.c11)
def innkeepref03_Way.c12 : Cd := .skip
def innkeepref03_Way.c8 : Cd := .cond (.t 6) (.seq (.tidy [6] [] [] none) (innkeepref03_Way.c10)) (.seq (.tidy [6] [] [] none) (innkeepref03_Way.c12))
def innkeepref03_Way.c15 : Cd := .tidy [7] [] [] none
def innkeepref03_Way.c17 : Cd := .ret
def innkeepref03_Way.c16 : Cd := .seq (.reg false [⟨some 2, .move (.c .str (⟨#[115, 111, 117, 116, 104]⟩ : ByteArray)), none, [], []⟩]) (innkeepref03_Way.c17)
def innkeepref03_Way.c18 : Cd := .skip
def innkeepref03_Way.c14 : Cd := .cond (.t 8) (.seq (.tidy [8] [] [] none) (innkeepref03_Way.c16)) (.seq (.tidy [8] [] [] none) (innkeepref03_Way.c18))
def innkeepref03_Way.c21 : Cd := .tidy [9] [] [] none
def innkeepref03_Way.c23 : Cd := .ret
def innkeepref03_Way.c22 : Cd := .seq (.reg false [⟨some 2, .move (.c .str (⟨#[119, 101, 115, 116]⟩ : ByteArray)), none, [], []⟩]) (innkeepref03_Way.c23)
def innkeepref03_Way.c24 : Cd := .skip
def innkeepref03_Way.c20 : Cd := .cond (.t 10) (.seq (.tidy [10] [] [] none) (innkeepref03_Way.c22)) (.seq (.tidy [10] [] [] none) (innkeepref03_Way.c24))
def innkeepref03_Way.c25 : Cd := .ret
def innkeepref03_Way.c19 : Cd := .seq (.reg false [⟨some 2, .move (.c .str (⟨#[]⟩ : ByteArray)), none, [], []⟩]) (innkeepref03_Way.c25)
def innkeepref03_Way.c13 : Cd := .seq (.seq (.seq (.reg false [⟨some 9, .move (.t 0), none, [], []⟩,
    ⟨some 10, .bin .eql (.t 9) (.c (.int .i64) (3 : Int)), none, [], []⟩]) (innkeepref03_Way.c21)) (innkeepref03_Way.c20)) (innkeepref03_Way.c19)
def innkeepref03_Way.c7 : Cd := .seq (.seq (.seq (.reg false [⟨some 7, .move (.t 0), none, [], []⟩,
    ⟨some 8, .bin .eql (.t 7) (.c (.int .i64) (2 : Int)), none, [], []⟩]) (innkeepref03_Way.c15)) (innkeepref03_Way.c14)) (innkeepref03_Way.c13)
def innkeepref03_Way.c1 : Cd := .seq (.seq (.seq (.reg false [⟨some 5, .move (.t 0), none, [], []⟩,
    ⟨some 6, .bin .eql (.t 5) (.c (.int .i64) (1 : Int)), none, [], []⟩]) (innkeepref03_Way.c9)) (innkeepref03_Way.c8)) (innkeepref03_Way.c7)
def innkeepref03_Way.c0 : Cd := .seq (.seq (.seq (.reg false [⟨some 3, .move (.t 0), none, [], []⟩,
    ⟨some 4, .bin .eql (.t 3) (.c (.int .i64) (0 : Int)), none, [], []⟩]) (innkeepref03_Way.c3)) (innkeepref03_Way.c2)) (innkeepref03_Way.c1)
def innkeepref03_Way.fn : Fn := ⟨1, [.tmp 2], .seq (.reg false [⟨some 2, .move (.c .str (⟨#[]⟩ : ByteArray)), none, [], []⟩]) (innkeepref03_Way.c0)⟩
def innkeepref03_Dir.c7 : Cd := .tidy [5] [] [] none
def innkeepref03_Dir.c8 : Cd := .skip
def innkeepref03_Dir.c17 : Cd := .exit 0
def innkeepref03_Dir.c6 : Cd := .cond (.t 6) (.seq (.tidy [6] [] [] none) (innkeepref03_Dir.c8)) (.seq (.tidy [6] [] [] none) (innkeepref03_Dir.c17))
def innkeepref03_Dir.c11 : Cd := .tidy [9, 10, 11] [] [] none
def innkeepref03_Dir.c14 : Cd := .tidy [13] [] [] none
def innkeepref03_Dir.c13 : Cd := .ret
def innkeepref03_Dir.c12 : Cd := .seq (.seq (.reg false [⟨some 13, .move (.t 4), none, [], []⟩,
    ⟨some 2, .move (.t 13), none, [], []⟩,
    ⟨some 3, .move (.c .bool true), none, [], []⟩]) (innkeepref03_Dir.c14)) (innkeepref03_Dir.c13)
def innkeepref03_Dir.c15 : Cd := .skip
def innkeepref03_Dir.c10 : Cd := .cond (.t 12) (.seq (.tidy [12] [] [] none) (innkeepref03_Dir.c12)) (.seq (.tidy [12] [] [] none) (innkeepref03_Dir.c15))
def innkeepref03_Dir.c16 : Cd := .tidy [7, 8] [] [] none
def innkeepref03_Dir.c9 : Cd := .seq (.reg false [⟨some 7, .move (.t 4), none, [], []⟩,
    ⟨some 8, .bin .add (.t 7) (.c (.int .i64) (1 : Int)), none, [], []⟩,
    ⟨some 4, .move (.t 8), none, [], []⟩]) (innkeepref03_Dir.c16)
def innkeepref03_Dir.c5 : Cd := .seq (.block 1 (.seq (.seq (.reg false [⟨some 9, .move (.t 4), none, [], []⟩,
    ⟨some 10, .call (.f 20) [(.t 9)] [.d .str] [] false, none, [], []⟩,
    ⟨some 11, .move (.t 0), none, [], []⟩,
    ⟨some 12, .eqs .str false (.t 10) (.t 11), none, [], []⟩]) (innkeepref03_Dir.c11)) (innkeepref03_Dir.c10))) (innkeepref03_Dir.c9)
def innkeepref03_Dir.c4 : Cd := .tidy [] [] [] (some 0)
def innkeepref03_Dir.c3 : Cd := .seq (.seq (.seq (.seq (.reg false [⟨some 5, .move (.t 4), none, [], []⟩,
    ⟨some 6, .bin .lss (.t 5) (.c (.int .i64) (4 : Int)), none, [], []⟩]) (innkeepref03_Dir.c7)) (innkeepref03_Dir.c6)) (innkeepref03_Dir.c5)) (innkeepref03_Dir.c4)
def innkeepref03_Dir.c2 : Cd := .block 0 (.loop (innkeepref03_Dir.c3))
def innkeepref03_Dir.c18 : Cd := .ret
def innkeepref03_Dir.c1 : Cd := .seq (.reg false [⟨some 2, .move (.c (.int .i64) (0 : Int)), none, [], []⟩,
    ⟨some 3, .move (.c .bool false), none, [], []⟩]) (innkeepref03_Dir.c18)
def innkeepref03_Dir.c0 : Cd := .seq (.seq (.reg false [⟨some 4, .move (.c (.int .i64) (0 : Int)), none, [], []⟩]) (innkeepref03_Dir.c2)) (innkeepref03_Dir.c1)
def innkeepref03_Dir.fn : Fn := ⟨1, [.tmp 2, .tmp 3], .seq (.reg false [⟨some 2, .move (.c (.int .i64) (0 : Int)), none, [], []⟩,
    ⟨some 3, .move (.c .bool false), none, [], []⟩]) (innkeepref03_Dir.c0)⟩
def innkeeplaw03_CmdNames.c3 : Cd := .tidy [13, 14, 15, 16, 17, 18] [] [] none
def innkeeplaw03_CmdNames.c6 : Cd := .tidy [20] [] [] none
def innkeeplaw03_CmdNames.c5 : Cd := .ret
def innkeeplaw03_CmdNames.c4 : Cd := .seq (.seq (.reg false [⟨some 20, .call (.f 7) [] [.d .bool] [] false, none, [], []⟩,
    ⟨some 4, .move (.t 20), none, [], []⟩]) (innkeeplaw03_CmdNames.c6)) (innkeeplaw03_CmdNames.c5)
def innkeeplaw03_CmdNames.c7 : Cd := .skip
def innkeeplaw03_CmdNames.c2 : Cd := .cond (.t 19) (.seq (.tidy [19] [] [] none) (innkeeplaw03_CmdNames.c4)) (.seq (.tidy [19] [] [] none) (innkeeplaw03_CmdNames.c7))
def innkeeplaw03_CmdNames.c9 : Cd := .tidy [21, 22, 23, 24, 25] [] [] none
def innkeeplaw03_CmdNames.c11 : Cd := .tidy [26, 27, 28, 29, 30] [] [] none
def innkeeplaw03_CmdNames.c13 : Cd := .tidy [31, 32, 33, 34, 35] [] [] none
def innkeeplaw03_CmdNames.c15 : Cd := .tidy [36, 37, 38, 39, 40] [] [] none
def innkeeplaw03_CmdNames.c18 : Cd := .tidy [41, 42, 43, 44, 45, 46, 47, 48, 49, 50, 51, 52, 53, 54, 55, 56, 57, 58, 59, 60, 61, 62, 63, 64, 65, 66, 67, 68, 69, 70, 71] [] [] none
def innkeeplaw03_CmdNames.c20 : Cd := .ret
def innkeeplaw03_CmdNames.c19 : Cd := .seq (.reg false [⟨some 4, .move (.c .bool false), none, [], []⟩]) (innkeeplaw03_CmdNames.c20)
def innkeeplaw03_CmdNames.c21 : Cd := .skip
def innkeeplaw03_CmdNames.c17 : Cd := .cond (.t 72) (.seq (.tidy [72] [] [] none) (innkeeplaw03_CmdNames.c19)) (.seq (.tidy [72] [] [] none) (innkeeplaw03_CmdNames.c21))
def innkeeplaw03_CmdNames.c23 : Cd := .tidy [73, 74, 75, 76, 77, 78, 79, 80, 81, 82, 83, 84, 85, 86, 87, 88, 89, 90] [] [] none
def innkeeplaw03_CmdNames.c22 : Cd := .ret
def innkeeplaw03_CmdNames.c16 : Cd := .seq (.seq (.reg false [⟨some 73, .move (.t 6), none, [], []⟩,
    ⟨some 74, .not (.t 73), none, [], []⟩,
    ⟨some 75, .move (.t 74), none, [], []⟩,
    ⟨some 76, .move (.t 5), some (75, false), [], []⟩,
    ⟨some 77, .call (.f 17) [(.t 76)] [.d .str] [] false, some (75, false), [], []⟩,
    ⟨some 78, .move (.t 1), some (75, false), [], []⟩,
    ⟨some 79, .eqs .str false (.t 77) (.t 78), some (75, false), [], []⟩,
    ⟨some 80, .pick (.t 75) (.c .bool true) (.t 79), none, [], []⟩,
    ⟨some 81, .move (.t 80), none, [], []⟩,
    ⟨some 82, .move (.t 10), some (81, true), [], []⟩,
    ⟨some 83, .not (.t 82), some (81, true), [], []⟩,
    ⟨some 84, .move (.t 83), some (81, true), [], []⟩,
    ⟨some 85, .move (.t 9), some (84, false), [], []⟩,
    ⟨some 86, .call (.f 19) [(.t 85)] [.d .str] [] false, some (84, false), [], []⟩,
    ⟨some 87, .move (.t 1), some (84, false), [], []⟩,
    ⟨some 88, .eqs .str false (.t 86) (.t 87), some (84, false), [], []⟩,
    ⟨some 89, .pick (.t 84) (.c .bool true) (.t 88), some (81, true), [], []⟩,
    ⟨some 90, .pick (.t 81) (.t 89) (.c .bool false), none, [], []⟩,
    ⟨some 4, .move (.t 90), none, [], []⟩]) (innkeeplaw03_CmdNames.c23)) (innkeeplaw03_CmdNames.c22)
def innkeeplaw03_CmdNames.c14 : Cd := .seq (.seq (.seq (.reg false [⟨some 41, .move (.t 0), none, [], []⟩,
    ⟨some 42, .call (.f 17) [(.t 41)] [.d .str] [] false, none, [], []⟩,
    ⟨some 43, .move (.t 0), none, [], []⟩,
    ⟨some 44, .call (.f 18) [(.t 43)] [.d .str] [] false, none, [], []⟩,
    ⟨some 45, .eqs .str true (.t 42) (.t 44), none, [], []⟩,
    ⟨some 46, .move (.t 45), none, [], []⟩,
    ⟨some 47, .move (.t 0), some (46, false), [], []⟩,
    ⟨some 48, .call (.f 19) [(.t 47)] [.d .str] [] false, some (46, false), [], []⟩,
    ⟨some 49, .move (.t 0), some (46, false), [], []⟩,
    ⟨some 50, .call (.f 20) [(.t 49)] [.d .str] [] false, some (46, false), [], []⟩,
    ⟨some 51, .eqs .str true (.t 48) (.t 50), some (46, false), [], []⟩,
    ⟨some 52, .pick (.t 46) (.c .bool true) (.t 51), none, [], []⟩,
    ⟨some 53, .move (.t 52), none, [], []⟩,
    ⟨some 54, .move (.t 5), some (53, false), [], []⟩,
    ⟨some 55, .move (.t 7), some (53, false), [], []⟩,
    ⟨some 56, .bin .neq (.t 54) (.t 55), some (53, false), [], []⟩,
    ⟨some 57, .pick (.t 53) (.c .bool true) (.t 56), none, [], []⟩,
    ⟨some 58, .move (.t 57), none, [], []⟩,
    ⟨some 59, .move (.t 6), some (58, false), [], []⟩,
    ⟨some 60, .move (.t 8), some (58, false), [], []⟩,
    ⟨some 61, .eqs .bool true (.t 59) (.t 60), some (58, false), [], []⟩,
    ⟨some 62, .pick (.t 58) (.c .bool true) (.t 61), none, [], []⟩,
    ⟨some 63, .move (.t 62), none, [], []⟩,
    ⟨some 64, .move (.t 9), some (63, false), [], []⟩,
    ⟨some 65, .move (.t 11), some (63, false), [], []⟩,
    ⟨some 66, .bin .neq (.t 64) (.t 65), some (63, false), [], []⟩,
    ⟨some 67, .pick (.t 63) (.c .bool true) (.t 66), none, [], []⟩,
    ⟨some 68, .move (.t 67), none, [], []⟩,
    ⟨some 69, .move (.t 10), some (68, false), [], []⟩,
    ⟨some 70, .move (.t 12), some (68, false), [], []⟩,
    ⟨some 71, .eqs .bool true (.t 69) (.t 70), some (68, false), [], []⟩,
    ⟨some 72, .pick (.t 68) (.c .bool true) (.t 71), none, [], []⟩]) (innkeeplaw03_CmdNames.c18)) (innkeeplaw03_CmdNames.c17)) (innkeeplaw03_CmdNames.c16)
def innkeeplaw03_CmdNames.c12 : Cd := .seq (.seq (.reg false [⟨some 37, .move (.t 1), none, [], []⟩,
    ⟨some 38, .call (.f 16) [(.t 37)] [.d (.int .i64), .d .bool] [] false, none, [], []⟩,
    ⟨some 36, .move (.t 38), none, [], []⟩,
    ⟨some 39, .extract (.t 36) 0, none, [], []⟩,
    ⟨some 40, .extract (.t 36) 1, none, [], []⟩,
    ⟨some 11, .move (.t 39), none, [], []⟩,
    ⟨some 12, .move (.t 40), none, [], []⟩]) (innkeeplaw03_CmdNames.c15)) (innkeeplaw03_CmdNames.c14)
def innkeeplaw03_CmdNames.c10 : Cd := .seq (.seq (.reg false [⟨some 32, .move (.t 1), none, [], []⟩,
    ⟨some 33, .call (.f 15) [(.t 32)] [.d (.int .i64), .d .bool] [] false, none, [], []⟩,
    ⟨some 31, .move (.t 33), none, [], []⟩,
    ⟨some 34, .extract (.t 31) 0, none, [], []⟩,
    ⟨some 35, .extract (.t 31) 1, none, [], []⟩,
    ⟨some 9, .move (.t 34), none, [], []⟩,
    ⟨some 10, .move (.t 35), none, [], []⟩]) (innkeeplaw03_CmdNames.c13)) (innkeeplaw03_CmdNames.c12)
def innkeeplaw03_CmdNames.c8 : Cd := .seq (.seq (.reg false [⟨some 27, .move (.t 1), none, [], []⟩,
    ⟨some 28, .call (.f 14) [(.t 27)] [.d (.int .i64), .d .bool] [] false, none, [], []⟩,
    ⟨some 26, .move (.t 28), none, [], []⟩,
    ⟨some 29, .extract (.t 26) 0, none, [], []⟩,
    ⟨some 30, .extract (.t 26) 1, none, [], []⟩,
    ⟨some 7, .move (.t 29), none, [], []⟩,
    ⟨some 8, .move (.t 30), none, [], []⟩]) (innkeeplaw03_CmdNames.c11)) (innkeeplaw03_CmdNames.c10)
def innkeeplaw03_CmdNames.c1 : Cd := .seq (.seq (.reg false [⟨some 22, .move (.t 1), none, [], []⟩,
    ⟨some 23, .call (.f 13) [(.t 22)] [.d (.int .i64), .d .bool] [] false, none, [], []⟩,
    ⟨some 21, .move (.t 23), none, [], []⟩,
    ⟨some 24, .extract (.t 21) 0, none, [], []⟩,
    ⟨some 25, .extract (.t 21) 1, none, [], []⟩,
    ⟨some 5, .move (.t 24), none, [], []⟩,
    ⟨some 6, .move (.t 25), none, [], []⟩]) (innkeeplaw03_CmdNames.c9)) (innkeeplaw03_CmdNames.c8)
def innkeeplaw03_CmdNames.c0 : Cd := .seq (.seq (.seq (.reg false [⟨some 13, .call (.f 7) [] [.d .bool] [] false, none, [], []⟩,
    ⟨some 14, .not (.t 13), none, [], []⟩,
    ⟨some 15, .move (.t 14), none, [], []⟩,
    ⟨some 16, .move (.t 1), some (15, false), [], []⟩,
    ⟨some 17, .lens (.t 16), some (15, false), [], []⟩,
    ⟨some 18, .bin .gtr (.t 17) (.c (.int .i64) (100 : Int)), some (15, false), [], []⟩,
    ⟨some 19, .pick (.t 15) (.c .bool true) (.t 18), none, [], []⟩]) (innkeeplaw03_CmdNames.c3)) (innkeeplaw03_CmdNames.c2)) (innkeeplaw03_CmdNames.c1)
def innkeeplaw03_CmdNames.fn : Fn := ⟨2, [.tmp 4], .seq (.reg false [⟨some 4, .move (.c .bool false), none, [], []⟩]) (innkeeplaw03_CmdNames.c0)⟩
def innkeeplaw03_CmdFields.c3 : Cd := .tidy [10, 11, 12, 13, 14, 15, 16, 17, 18, 19, 20] [] [] none
def innkeeplaw03_CmdFields.c6 : Cd := .tidy [22] [] [] none
def innkeeplaw03_CmdFields.c5 : Cd := .ret
def innkeeplaw03_CmdFields.c4 : Cd := .seq (.seq (.reg false [⟨some 22, .call (.f 7) [] [.d .bool] [] false, none, [], []⟩,
    ⟨some 4, .move (.t 22), none, [], []⟩]) (innkeeplaw03_CmdFields.c6)) (innkeeplaw03_CmdFields.c5)
def innkeeplaw03_CmdFields.c7 : Cd := .skip
def innkeeplaw03_CmdFields.c2 : Cd := .cond (.t 21) (.seq (.tidy [21] [] [] none) (innkeeplaw03_CmdFields.c4)) (.seq (.tidy [21] [] [] none) (innkeeplaw03_CmdFields.c7))
def innkeeplaw03_CmdFields.c9 : Cd := .tidy [23, 24, 25] [] [] none
def innkeeplaw03_CmdFields.c11 : Cd := .tidy [26, 27, 28, 29, 30, 31] [] [] none
def innkeeplaw03_CmdFields.c13 : Cd := .tidy [32, 33, 34, 35] [] [] none
def innkeeplaw03_CmdFields.c15 : Cd := .tidy [36, 37, 38, 39] [] [] none
def innkeeplaw03_CmdFields.c17 : Cd := .tidy [40, 41, 42, 43] [] [] none
def innkeeplaw03_CmdFields.c19 : Cd := .tidy [44, 45, 46, 47] [] [] none
def innkeeplaw03_CmdFields.c21 : Cd := .tidy [48, 49, 50, 51] [] [] none
def innkeeplaw03_CmdFields.c23 : Cd := .tidy [52, 53, 54, 55, 56, 57, 58, 59, 60, 61, 62, 63, 64, 65, 66, 67, 68, 69, 70, 71, 72, 73, 74, 75, 76, 77, 78, 79, 80, 81, 82, 83, 84, 85, 86, 87] [] [] none
def innkeeplaw03_CmdFields.c25 : Cd := .tidy [88, 89, 90, 91, 92, 93, 94, 95, 96, 97, 98] [] [] none
def innkeeplaw03_CmdFields.c32 : Cd := .tidy [99] [] [] none
def innkeeplaw03_CmdFields.c33 : Cd := .skip
def innkeeplaw03_CmdFields.c41 : Cd := .exit 0
def innkeeplaw03_CmdFields.c31 : Cd := .cond (.t 100) (.seq (.tidy [100] [] [] none) (innkeeplaw03_CmdFields.c33)) (.seq (.tidy [100] [] [] none) (innkeeplaw03_CmdFields.c41))
def innkeeplaw03_CmdFields.c36 : Cd := .tidy [103, 104, 105, 106, 107, 108, 109, 110, 111, 112, 113, 114, 115, 116, 117, 118, 119, 120, 121, 122, 123, 124, 125, 126, 127, 128, 129, 130] [] [] none
def innkeeplaw03_CmdFields.c38 : Cd := .ret
def innkeeplaw03_CmdFields.c37 : Cd := .seq (.reg false [⟨some 4, .move (.c .bool false), none, [], []⟩]) (innkeeplaw03_CmdFields.c38)
def innkeeplaw03_CmdFields.c39 : Cd := .skip
def innkeeplaw03_CmdFields.c35 : Cd := .cond (.t 131) (.seq (.tidy [131] [] [] none) (innkeeplaw03_CmdFields.c37)) (.seq (.tidy [131] [] [] none) (innkeeplaw03_CmdFields.c39))
def innkeeplaw03_CmdFields.c40 : Cd := .tidy [101, 102] [] [] none
def innkeeplaw03_CmdFields.c34 : Cd := .seq (.reg false [⟨some 101, .move (.t 9), none, [], []⟩,
    ⟨some 102, .bin .add (.t 101) (.c (.int .i64) (1 : Int)), none, [], []⟩,
    ⟨some 9, .move (.t 102), none, [], []⟩]) (innkeeplaw03_CmdFields.c40)
def innkeeplaw03_CmdFields.c30 : Cd := .seq (.block 1 (.seq (.seq (.reg true [⟨some 103, .move (.t 6), none, [], []⟩,
    ⟨some 104, .move (.t 9), none, [], []⟩,
    ⟨some 105, .index (.sl tCmd) (.t 103) (.t 104), none, [1], []⟩,
    ⟨some 106, .load (.d tCmd) (.t 105), none, [1], []⟩,
    ⟨some 107, .call (.f 9) [(.t 106)] [.d .bool] [] false, none, [], []⟩,
    ⟨some 108, .move (.t 7), none, [], []⟩,
    ⟨some 109, .move (.t 9), none, [], []⟩,
    ⟨some 110, .index (.sl .bool) (.t 108) (.t 109), none, [2], []⟩,
    ⟨some 111, .load (.d .bool) (.t 110), none, [2], []⟩,
    ⟨some 112, .move (.t 111), none, [], []⟩,
    ⟨some 113, .move (.t 5), some (112, false), [], []⟩,
    ⟨some 114, .bin .eql (.t 113) (.c (.int .i64) (0 : Int)), some (112, false), [], []⟩,
    ⟨some 115, .pick (.t 112) (.c .bool true) (.t 114), none, [], []⟩,
    ⟨some 116, .eqs .bool true (.t 107) (.t 115), none, [], []⟩,
    ⟨some 117, .move (.t 116), none, [], []⟩,
    ⟨some 118, .move (.t 6), some (117, false), [], []⟩,
    ⟨some 119, .move (.t 9), some (117, false), [], []⟩,
    ⟨some 120, .index (.sl tCmd) (.t 118) (.t 119), some (117, false), [1], []⟩,
    ⟨some 121, .load (.d tCmd) (.t 120), some (117, false), [1], []⟩,
    ⟨some 122, .load (.d tCmd) (.t 2), some (117, false), [0], []⟩,
    ⟨some 123, .call (.f 11) [(.t 121), (.t 122)] [.d .bool] [] false, some (117, false), [], []⟩,
    ⟨some 124, .move (.t 5), some (117, false), [], []⟩,
    ⟨some 125, .move (.t 8), some (117, false), [], []⟩,
    ⟨some 126, .move (.t 9), some (117, false), [], []⟩,
    ⟨some 127, .index (.sl (.int .i64)) (.t 125) (.t 126), some (117, false), [3], []⟩,
    ⟨some 128, .load (.d (.int .i64)) (.t 127), some (117, false), [3], []⟩,
    ⟨some 129, .bin .eql (.t 124) (.t 128), some (117, false), [], []⟩,
    ⟨some 130, .eqs .bool true (.t 123) (.t 129), some (117, false), [], []⟩,
    ⟨some 131, .pick (.t 117) (.c .bool true) (.t 130), none, [], []⟩]) (innkeeplaw03_CmdFields.c36)) (innkeeplaw03_CmdFields.c35))) (innkeeplaw03_CmdFields.c34)
def innkeeplaw03_CmdFields.c29 : Cd := .tidy [] [] [] (some 4)
def innkeeplaw03_CmdFields.c28 : Cd := .seq (.seq (.seq (.seq (.reg false [⟨some 99, .move (.t 9), none, [], []⟩,
    ⟨some 100, .bin .lss (.t 99) (.c (.int .i64) (5 : Int)), none, [], []⟩]) (innkeeplaw03_CmdFields.c32)) (innkeeplaw03_CmdFields.c31)) (innkeeplaw03_CmdFields.c30)) (innkeeplaw03_CmdFields.c29)
def innkeeplaw03_CmdFields.c27 : Cd := .block 0 (.loop (innkeeplaw03_CmdFields.c28))
def innkeeplaw03_CmdFields.c42 : Cd := .ret
def innkeeplaw03_CmdFields.c26 : Cd := .seq (.reg false [⟨some 4, .move (.c .bool true), none, [], []⟩]) (innkeeplaw03_CmdFields.c42)
def innkeeplaw03_CmdFields.c24 : Cd := .seq (.seq (.reg false [⟨some 9, .move (.c (.int .i64) (0 : Int)), none, [], []⟩]) (innkeeplaw03_CmdFields.c27)) (innkeeplaw03_CmdFields.c26)
def innkeeplaw03_CmdFields.c22 : Cd := .seq (.seq (.reg false [⟨some 88, .fieldAddr (.d tCmd) 2 (.t 2), none, [], []⟩,
    ⟨some 89, .load (.d (.int .i64)) (.t 88), none, [], []⟩,
    ⟨some 90, .fieldAddr (.d tCmd) 3 (.t 2), none, [], []⟩,
    ⟨some 91, .load (.d (.int .i64)) (.t 90), none, [], []⟩,
    ⟨some 92, .fieldAddr (.d tCmd) 4 (.t 2), none, [], []⟩,
    ⟨some 93, .load (.d (.int .i64)) (.t 92), none, [], []⟩,
    ⟨some 94, .fieldAddr (.d tCmd) 6 (.t 2), none, [], []⟩,
    ⟨some 95, .load (.d (.int .i64)) (.t 94), none, [], []⟩,
    ⟨some 96, .fieldAddr (.d tCmd) 8 (.t 2), none, [], []⟩,
    ⟨some 97, .load (.d (.int .i64)) (.t 96), none, [], []⟩,
    ⟨some 98, .slice 3 (.int .i64) [(.t 89), (.t 91), (.t 93), (.t 95), (.t 97)], none, [], []⟩,
    ⟨some 8, .move (.t 98), none, [], []⟩]) (innkeeplaw03_CmdFields.c25)) (innkeeplaw03_CmdFields.c24)
def innkeeplaw03_CmdFields.c20 : Cd := .seq (.seq (.reg false [⟨some 52, .fieldAddr (.d tCmd) 0 (.t 2), none, [], []⟩,
    ⟨some 53, .load (.d (.int .i64)) (.t 52), none, [], []⟩,
    ⟨some 54, .bin .geq (.t 53) (.c (.int .i64) (3 : Int)), none, [], []⟩,
    ⟨some 55, .move (.t 54), none, [], []⟩,
    ⟨some 56, .fieldAddr (.d tCmd) 0 (.t 2), some (55, true), [], []⟩,
    ⟨some 57, .load (.d (.int .i64)) (.t 56), some (55, true), [], []⟩,
    ⟨some 58, .bin .leq (.t 57) (.c (.int .i64) (7 : Int)), some (55, true), [], []⟩,
    ⟨some 59, .pick (.t 55) (.t 58) (.c .bool false), none, [], []⟩,
    ⟨some 60, .fieldAddr (.d tCmd) 0 (.t 2), none, [], []⟩,
    ⟨some 61, .load (.d (.int .i64)) (.t 60), none, [], []⟩,
    ⟨some 62, .bin .eql (.t 61) (.c (.int .i64) (5 : Int)), none, [], []⟩,
    ⟨some 63, .move (.t 62), none, [], []⟩,
    ⟨some 64, .fieldAddr (.d tCmd) 0 (.t 2), some (63, false), [], []⟩,
    ⟨some 65, .load (.d (.int .i64)) (.t 64), some (63, false), [], []⟩,
    ⟨some 66, .bin .eql (.t 65) (.c (.int .i64) (6 : Int)), some (63, false), [], []⟩,
    ⟨some 67, .pick (.t 63) (.c .bool true) (.t 66), none, [], []⟩,
    ⟨some 68, .fieldAddr (.d tCmd) 0 (.t 2), none, [], []⟩,
    ⟨some 69, .load (.d (.int .i64)) (.t 68), none, [], []⟩,
    ⟨some 70, .bin .eql (.t 69) (.c (.int .i64) (2 : Int)), none, [], []⟩,
    ⟨some 71, .move (.t 70), none, [], []⟩,
    ⟨some 72, .fieldAddr (.d tCmd) 0 (.t 2), some (71, false), [], []⟩,
    ⟨some 73, .load (.d (.int .i64)) (.t 72), some (71, false), [], []⟩,
    ⟨some 74, .bin .eql (.t 73) (.c (.int .i64) (7 : Int)), some (71, false), [], []⟩,
    ⟨some 75, .pick (.t 71) (.c .bool true) (.t 74), none, [], []⟩,
    ⟨some 76, .move (.t 75), none, [], []⟩,
    ⟨some 77, .fieldAddr (.d tCmd) 0 (.t 2), some (76, false), [], []⟩,
    ⟨some 78, .load (.d (.int .i64)) (.t 77), some (76, false), [], []⟩,
    ⟨some 79, .bin .eql (.t 78) (.c (.int .i64) (8 : Int)), some (76, false), [], []⟩,
    ⟨some 80, .pick (.t 76) (.c .bool true) (.t 79), none, [], []⟩,
    ⟨some 81, .fieldAddr (.d tCmd) 0 (.t 2), none, [], []⟩,
    ⟨some 82, .load (.d (.int .i64)) (.t 81), none, [], []⟩,
    ⟨some 83, .bin .eql (.t 82) (.c (.int .i64) (8 : Int)), none, [], []⟩,
    ⟨some 84, .fieldAddr (.d tCmd) 0 (.t 2), none, [], []⟩,
    ⟨some 85, .load (.d (.int .i64)) (.t 84), none, [], []⟩,
    ⟨some 86, .bin .eql (.t 85) (.c (.int .i64) (8 : Int)), none, [], []⟩,
    ⟨some 87, .slice 2 .bool [(.t 59), (.t 67), (.t 80), (.t 83), (.t 86)], none, [], []⟩,
    ⟨some 7, .move (.t 87), none, [], []⟩]) (innkeeplaw03_CmdFields.c23)) (innkeeplaw03_CmdFields.c22)
def innkeeplaw03_CmdFields.c18 : Cd := .seq (.seq (.reg false [⟨some 48, .move (.t 6), none, [], []⟩,
    ⟨some 49, .move (.t 5), none, [], []⟩,
    ⟨some 50, .index (.sl tCmd) (.t 48) (.c (.int .i64) (4 : Int)), none, [], []⟩,
    ⟨some 51, .fieldAddr (.d tCmd) 8 (.t 50), none, [], []⟩,
    ⟨none, .store (.d (.int .i64)) (.t 51) (.t 49), none, [], []⟩]) (innkeeplaw03_CmdFields.c21)) (innkeeplaw03_CmdFields.c20)
def innkeeplaw03_CmdFields.c16 : Cd := .seq (.seq (.reg false [⟨some 44, .move (.t 6), none, [], []⟩,
    ⟨some 45, .move (.t 5), none, [], []⟩,
    ⟨some 46, .index (.sl tCmd) (.t 44) (.c (.int .i64) (3 : Int)), none, [], []⟩,
    ⟨some 47, .fieldAddr (.d tCmd) 6 (.t 46), none, [], []⟩,
    ⟨none, .store (.d (.int .i64)) (.t 47) (.t 45), none, [], []⟩]) (innkeeplaw03_CmdFields.c19)) (innkeeplaw03_CmdFields.c18)
def innkeeplaw03_CmdFields.c14 : Cd := .seq (.seq (.reg false [⟨some 40, .move (.t 6), none, [], []⟩,
    ⟨some 41, .move (.t 5), none, [], []⟩,
    ⟨some 42, .index (.sl tCmd) (.t 40) (.c (.int .i64) (2 : Int)), none, [], []⟩,
    ⟨some 43, .fieldAddr (.d tCmd) 4 (.t 42), none, [], []⟩,
    ⟨none, .store (.d (.int .i64)) (.t 43) (.t 41), none, [], []⟩]) (innkeeplaw03_CmdFields.c17)) (innkeeplaw03_CmdFields.c16)
def innkeeplaw03_CmdFields.c12 : Cd := .seq (.seq (.reg false [⟨some 36, .move (.t 6), none, [], []⟩,
    ⟨some 37, .move (.t 5), none, [], []⟩,
    ⟨some 38, .index (.sl tCmd) (.t 36) (.c (.int .i64) (1 : Int)), none, [], []⟩,
    ⟨some 39, .fieldAddr (.d tCmd) 3 (.t 38), none, [], []⟩,
    ⟨none, .store (.d (.int .i64)) (.t 39) (.t 37), none, [], []⟩]) (innkeeplaw03_CmdFields.c15)) (innkeeplaw03_CmdFields.c14)
def innkeeplaw03_CmdFields.c10 : Cd := .seq (.seq (.reg false [⟨some 32, .move (.t 6), none, [], []⟩,
    ⟨some 33, .move (.t 5), none, [], []⟩,
    ⟨some 34, .index (.sl tCmd) (.t 32) (.c (.int .i64) (0 : Int)), none, [], []⟩,
    ⟨some 35, .fieldAddr (.d tCmd) 2 (.t 34), none, [], []⟩,
    ⟨none, .store (.d (.int .i64)) (.t 35) (.t 33), none, [], []⟩]) (innkeeplaw03_CmdFields.c13)) (innkeeplaw03_CmdFields.c12)
def innkeeplaw03_CmdFields.c8 : Cd := .seq (.seq (.reg false [⟨some 26, .load (.d tCmd) (.t 2), none, [], []⟩,
    ⟨some 27, .load (.d tCmd) (.t 2), none, [], []⟩,
    ⟨some 28, .load (.d tCmd) (.t 2), none, [], []⟩,
    ⟨some 29, .load (.d tCmd) (.t 2), none, [], []⟩,
    ⟨some 30, .load (.d tCmd) (.t 2), none, [], []⟩,
    ⟨some 31, .slice 1 tCmd [(.t 26), (.t 27), (.t 28), (.t 29), (.t 30)], none, [], []⟩,
    ⟨some 6, .move (.t 31), none, [], []⟩]) (innkeeplaw03_CmdFields.c11)) (innkeeplaw03_CmdFields.c10)
def innkeeplaw03_CmdFields.c1 : Cd := .seq (.seq (.reg false [⟨some 23, .move (.t 1), none, [], []⟩,
    ⟨some 24, .bin .rem (.t 23) (.c (.int .u32) (1073741824 : Int)), none, [], []⟩,
    ⟨some 25, .conv .i64 (.t 24), none, [], []⟩,
    ⟨some 5, .move (.t 25), none, [], []⟩]) (innkeeplaw03_CmdFields.c9)) (innkeeplaw03_CmdFields.c8)
def innkeeplaw03_CmdFields.c0 : Cd := .seq (.seq (.seq (.reg false [⟨some 10, .call (.f 7) [] [.d .bool] [] false, none, [], []⟩,
    ⟨some 11, .not (.t 10), none, [], []⟩,
    ⟨some 12, .move (.t 11), none, [], []⟩,
    ⟨some 13, .load (.d tCmd) (.t 2), some (12, false), [], []⟩,
    ⟨some 14, .call (.f 8) [(.t 13)] [.d .bool] [] false, some (12, false), [], []⟩,
    ⟨some 15, .not (.t 14), some (12, false), [], []⟩,
    ⟨some 16, .pick (.t 12) (.c .bool true) (.t 15), none, [], []⟩,
    ⟨some 17, .move (.t 16), none, [], []⟩,
    ⟨some 18, .load (.d tCmd) (.t 2), some (17, false), [], []⟩,
    ⟨some 19, .call (.f 10) [(.t 18)] [.d .bool] [] false, some (17, false), [], []⟩,
    ⟨some 20, .not (.t 19), some (17, false), [], []⟩,
    ⟨some 21, .pick (.t 17) (.c .bool true) (.t 20), none, [], []⟩]) (innkeeplaw03_CmdFields.c3)) (innkeeplaw03_CmdFields.c2)) (innkeeplaw03_CmdFields.c1)
def innkeeplaw03_CmdFields.fn : Fn := ⟨2, [.tmp 4], .seq (.reg false [⟨some 2, .box 0 (.t 0), none, [], []⟩,
    ⟨some 4, .move (.c .bool false), none, [], []⟩]) (innkeeplaw03_CmdFields.c0)⟩
def innkeeplaw03_CmdLists.c3 : Cd := .tidy [10, 11, 12, 13, 14, 15, 16, 17, 18, 19, 20, 21, 22, 23, 24, 25] [] [] none
def innkeeplaw03_CmdLists.c6 : Cd := .tidy [27] [] [] none
def innkeeplaw03_CmdLists.c5 : Cd := .ret
def innkeeplaw03_CmdLists.c4 : Cd := .seq (.seq (.reg false [⟨some 27, .call (.f 7) [] [.d .bool] [] false, none, [], []⟩,
    ⟨some 4, .move (.t 27), none, [], []⟩]) (innkeeplaw03_CmdLists.c6)) (innkeeplaw03_CmdLists.c5)
def innkeeplaw03_CmdLists.c7 : Cd := .skip
def innkeeplaw03_CmdLists.c2 : Cd := .cond (.t 26) (.seq (.tidy [26] [] [] none) (innkeeplaw03_CmdLists.c4)) (.seq (.tidy [26] [] [] none) (innkeeplaw03_CmdLists.c7))
def innkeeplaw03_CmdLists.c9 : Cd := .tidy [28] [] [] none
def innkeeplaw03_CmdLists.c11 : Cd := .tidy [29, 30, 31, 32, 33] [] [] none
def innkeeplaw03_CmdLists.c13 : Cd := .tidy [34, 35, 36, 37, 38] [] [] none
def innkeeplaw03_CmdLists.c16 : Cd := .tidy [39, 40, 41, 42, 43, 44, 45, 46] [] [] none
def innkeeplaw03_CmdLists.c18 : Cd := .ret
def innkeeplaw03_CmdLists.c17 : Cd := .seq (.reg false [⟨some 4, .move (.c .bool false), none, [], []⟩]) (innkeeplaw03_CmdLists.c18)
def innkeeplaw03_CmdLists.c19 : Cd := .skip
def innkeeplaw03_CmdLists.c15 : Cd := .cond (.t 47) (.seq (.tidy [47] [] [] none) (innkeeplaw03_CmdLists.c17)) (.seq (.tidy [47] [] [] none) (innkeeplaw03_CmdLists.c19))
def innkeeplaw03_CmdLists.c21 : Cd := .tidy [48] [] [] none
def innkeeplaw03_CmdLists.c23 : Cd := .tidy [49, 50] [] [] none
def innkeeplaw03_CmdLists.c25 : Cd := .tidy [51] [] [] none
def innkeeplaw03_CmdLists.c27 : Cd := .tidy [52, 53] [] [] none
def innkeeplaw03_CmdLists.c30 : Cd := .tidy [54, 55, 56, 57, 58, 59] [] [] none
def innkeeplaw03_CmdLists.c32 : Cd := .ret
def innkeeplaw03_CmdLists.c31 : Cd := .seq (.reg false [⟨some 4, .move (.c .bool false), none, [], []⟩]) (innkeeplaw03_CmdLists.c32)
def innkeeplaw03_CmdLists.c33 : Cd := .skip
def innkeeplaw03_CmdLists.c29 : Cd := .cond (.t 60) (.seq (.tidy [60] [] [] none) (innkeeplaw03_CmdLists.c31)) (.seq (.tidy [60] [] [] none) (innkeeplaw03_CmdLists.c33))
def innkeeplaw03_CmdLists.c36 : Cd := .tidy [61, 62, 63] [] [] none
def innkeeplaw03_CmdLists.c38 : Cd := .ret
def innkeeplaw03_CmdLists.c37 : Cd := .seq (.reg false [⟨some 4, .move (.c .bool true), none, [], []⟩]) (innkeeplaw03_CmdLists.c38)
def innkeeplaw03_CmdLists.c39 : Cd := .skip
def innkeeplaw03_CmdLists.c35 : Cd := .cond (.t 64) (.seq (.tidy [64] [] [] none) (innkeeplaw03_CmdLists.c37)) (.seq (.tidy [64] [] [] none) (innkeeplaw03_CmdLists.c39))
def innkeeplaw03_CmdLists.c41 : Cd := .tidy [65, 66, 67, 68, 69, 70, 71] [] [] none
def innkeeplaw03_CmdLists.c43 : Cd := .tidy [72, 73, 74, 75, 76] [] [] none
def innkeeplaw03_CmdLists.c45 : Cd := .tidy [77, 78, 79, 80, 81, 82, 83, 84, 85, 86] [] [] none
def innkeeplaw03_CmdLists.c47 : Cd := .tidy [87, 88, 89, 90, 91, 92] [] [] none
def innkeeplaw03_CmdLists.c49 : Cd := .tidy [93, 94, 95, 96, 97, 98, 99, 100, 101, 102, 103, 104, 105, 106, 107, 108, 109, 110, 111, 112] [] [] none
def innkeeplaw03_CmdLists.c48 : Cd := .ret
def innkeeplaw03_CmdLists.c46 : Cd := .seq (.seq (.reg true [⟨some 93, .load (.d tCmd) (.t 5), none, [1], []⟩,
    ⟨some 94, .load (.d tCmd) (.t 2), none, [0], []⟩,
    ⟨some 95, .call (.f 11) [(.t 93), (.t 94)] [.d .bool] [] false, none, [3, 5], []⟩,
    ⟨some 96, .fieldAddr (.d tCmd) 5 (.t 2), none, [0], []⟩,
    ⟨some 97, .load (.d (.sl (.int .i64))) (.t 96), none, [0], []⟩,
    ⟨some 98, .move (.t 8), none, [], []⟩,
    ⟨some 99, .index (.sl (.int .i64)) (.t 97) (.t 98), none, [], []⟩,
    ⟨some 100, .load (.d (.int .i64)) (.t 99), none, [], []⟩,
    ⟨some 101, .fieldAddr (.d tCmd) 5 (.t 2), none, [0], []⟩,
    ⟨some 102, .load (.d (.sl (.int .i64))) (.t 101), none, [0], []⟩,
    ⟨some 103, .move (.t 8), none, [], []⟩,
    ⟨some 104, .bin .add (.t 103) (.c (.int .i64) (1 : Int)), none, [], []⟩,
    ⟨some 105, .index (.sl (.int .i64)) (.t 102) (.t 104), none, [], []⟩,
    ⟨some 106, .load (.d (.int .i64)) (.t 105), none, [], []⟩,
    ⟨some 107, .bin .eql (.t 100) (.t 106), none, [], []⟩,
    ⟨some 108, .eqs .bool false (.t 95) (.t 107), none, [], []⟩,
    ⟨some 109, .move (.t 108), none, [], []⟩,
    ⟨some 110, .load (.d tCmd) (.t 5), some (109, true), [1], []⟩,
    ⟨some 111, .call (.f 9) [(.t 110)] [.d .bool] [] false, some (109, true), [3, 5], []⟩,
    ⟨some 112, .pick (.t 109) (.t 111) (.c .bool false), none, [], []⟩,
    ⟨some 4, .move (.t 112), none, [], []⟩]) (innkeeplaw03_CmdLists.c49)) (innkeeplaw03_CmdLists.c48)
def innkeeplaw03_CmdLists.c44 : Cd := .seq (.seq (.reg false [⟨some 87, .fieldAddr (.d tCmd) 5 (.t 5), none, [], []⟩,
    ⟨some 88, .load (.d (.sl (.int .i64))) (.t 87), none, [], []⟩,
    ⟨some 89, .move (.t 8), none, [], []⟩,
    ⟨some 90, .bin .add (.t 89) (.c (.int .i64) (1 : Int)), none, [], []⟩,
    ⟨some 91, .move (.t 9), none, [], []⟩,
    ⟨some 92, .index (.sl (.int .i64)) (.t 88) (.t 90), none, [], []⟩,
    ⟨none, .store (.d (.int .i64)) (.t 92) (.t 91), none, [], []⟩]) (innkeeplaw03_CmdLists.c47)) (innkeeplaw03_CmdLists.c46)
def innkeeplaw03_CmdLists.c42 : Cd := .seq (.seq (.reg true [⟨some 77, .fieldAddr (.d tCmd) 5 (.t 5), none, [1], []⟩,
    ⟨some 78, .load (.d (.sl (.int .i64))) (.t 77), none, [1], []⟩,
    ⟨some 79, .move (.t 8), none, [], []⟩,
    ⟨some 80, .fieldAddr (.d tCmd) 5 (.t 5), none, [1], []⟩,
    ⟨some 81, .load (.d (.sl (.int .i64))) (.t 80), none, [1], []⟩,
    ⟨some 82, .move (.t 8), none, [], []⟩,
    ⟨some 83, .bin .add (.t 82) (.c (.int .i64) (1 : Int)), none, [], []⟩,
    ⟨some 84, .index (.sl (.int .i64)) (.t 81) (.t 83), none, [3], []⟩,
    ⟨some 85, .load (.d (.int .i64)) (.t 84), none, [3], []⟩,
    ⟨some 86, .index (.sl (.int .i64)) (.t 78) (.t 79), none, [3], []⟩,
    ⟨none, .store (.d (.int .i64)) (.t 86) (.t 85), none, [], [3]⟩]) (innkeeplaw03_CmdLists.c45)) (innkeeplaw03_CmdLists.c44)
def innkeeplaw03_CmdLists.c40 : Cd := .seq (.seq (.reg false [⟨some 72, .fieldAddr (.d tCmd) 5 (.t 5), none, [], []⟩,
    ⟨some 73, .load (.d (.sl (.int .i64))) (.t 72), none, [], []⟩,
    ⟨some 74, .move (.t 8), none, [], []⟩,
    ⟨some 75, .index (.sl (.int .i64)) (.t 73) (.t 74), none, [], []⟩,
    ⟨some 76, .load (.d (.int .i64)) (.t 75), none, [], []⟩,
    ⟨some 9, .move (.t 76), none, [], []⟩]) (innkeeplaw03_CmdLists.c43)) (innkeeplaw03_CmdLists.c42)
def innkeeplaw03_CmdLists.c34 : Cd := .seq (.seq (.reg false [⟨some 65, .move (.t 1), none, [], []⟩,
    ⟨some 66, .conv .i64 (.t 65), none, [], []⟩,
    ⟨some 67, .fieldAddr (.d tCmd) 5 (.t 2), none, [], []⟩,
    ⟨some 68, .load (.d (.sl (.int .i64))) (.t 67), none, [], []⟩,
    ⟨some 69, .len (.t 68), none, [], []⟩,
    ⟨some 70, .bin .sub (.t 69) (.c (.int .i64) (1 : Int)), none, [], []⟩,
    ⟨some 71, .bin .rem (.t 66) (.t 70), none, [], []⟩,
    ⟨some 8, .move (.t 71), none, [], []⟩]) (innkeeplaw03_CmdLists.c41)) (innkeeplaw03_CmdLists.c40)
def innkeeplaw03_CmdLists.c28 : Cd := .seq (.seq (.seq (.reg false [⟨some 61, .fieldAddr (.d tCmd) 5 (.t 2), none, [], []⟩,
    ⟨some 62, .load (.d (.sl (.int .i64))) (.t 61), none, [], []⟩,
    ⟨some 63, .len (.t 62), none, [], []⟩,
    ⟨some 64, .bin .lss (.t 63) (.c (.int .i64) (2 : Int)), none, [], []⟩]) (innkeeplaw03_CmdLists.c36)) (innkeeplaw03_CmdLists.c35)) (innkeeplaw03_CmdLists.c34)
def innkeeplaw03_CmdLists.c26 : Cd := .seq (.seq (.seq (.reg false [⟨some 54, .load (.d tCmd) (.t 6), none, [], []⟩,
    ⟨some 55, .call (.f 9) [(.t 54)] [.d .bool] [] false, none, [], []⟩,
    ⟨some 56, .not (.t 55), none, [], []⟩,
    ⟨some 57, .move (.t 56), none, [], []⟩,
    ⟨some 58, .load (.d tCmd) (.t 7), some (57, false), [], []⟩,
    ⟨some 59, .call (.f 9) [(.t 58)] [.d .bool] [] false, some (57, false), [], []⟩,
    ⟨some 60, .pick (.t 57) (.c .bool true) (.t 59), none, [], []⟩]) (innkeeplaw03_CmdLists.c30)) (innkeeplaw03_CmdLists.c29)) (innkeeplaw03_CmdLists.c28)
def innkeeplaw03_CmdLists.c24 : Cd := .seq (.seq (.reg false [⟨some 52, .make 9 (.int .i64) (.c (.int .i64) (17 : Int)), none, [], []⟩,
    ⟨some 53, .fieldAddr (.d tCmd) 7 (.t 7), none, [], []⟩,
    ⟨none, .store (.d (.sl (.int .i64))) (.t 53) (.t 52), none, [], []⟩]) (innkeeplaw03_CmdLists.c27)) (innkeeplaw03_CmdLists.c26)
def innkeeplaw03_CmdLists.c22 : Cd := .seq (.seq (.reg false [⟨some 51, .load (.d tCmd) (.t 2), none, [], []⟩,
    ⟨some 7, .newbox 8 tCmd [], none, [], []⟩,
    ⟨none, .store (.d tCmd) (.t 7) (.t 51), none, [], []⟩]) (innkeeplaw03_CmdLists.c25)) (innkeeplaw03_CmdLists.c24)
def innkeeplaw03_CmdLists.c20 : Cd := .seq (.seq (.reg false [⟨some 49, .make 7 (.int .i64) (.c (.int .i64) (16 : Int)), none, [], []⟩,
    ⟨some 50, .fieldAddr (.d tCmd) 5 (.t 6), none, [], []⟩,
    ⟨none, .store (.d (.sl (.int .i64))) (.t 50) (.t 49), none, [], []⟩]) (innkeeplaw03_CmdLists.c23)) (innkeeplaw03_CmdLists.c22)
def innkeeplaw03_CmdLists.c14 : Cd := .seq (.seq (.reg false [⟨some 48, .load (.d tCmd) (.t 2), none, [], []⟩,
    ⟨some 6, .newbox 6 tCmd [], none, [], []⟩,
    ⟨none, .store (.d tCmd) (.t 6) (.t 48), none, [], []⟩]) (innkeeplaw03_CmdLists.c21)) (innkeeplaw03_CmdLists.c20)
def innkeeplaw03_CmdLists.c12 : Cd := .seq (.seq (.seq (.reg false [⟨some 39, .load (.d tCmd) (.t 5), none, [], []⟩,
    ⟨some 40, .load (.d tCmd) (.t 2), none, [], []⟩,
    ⟨some 41, .call (.f 11) [(.t 39), (.t 40)] [.d .bool] [] false, none, [], []⟩,
    ⟨some 42, .not (.t 41), none, [], []⟩,
    ⟨some 43, .move (.t 42), none, [], []⟩,
    ⟨some 44, .load (.d tCmd) (.t 5), some (43, false), [], []⟩,
    ⟨some 45, .call (.f 9) [(.t 44)] [.d .bool] [] false, some (43, false), [], []⟩,
    ⟨some 46, .not (.t 45), some (43, false), [], []⟩,
    ⟨some 47, .pick (.t 43) (.c .bool true) (.t 46), none, [], []⟩]) (innkeeplaw03_CmdLists.c16)) (innkeeplaw03_CmdLists.c15)) (innkeeplaw03_CmdLists.c14)
def innkeeplaw03_CmdLists.c10 : Cd := .seq (.seq (.reg false [⟨some 34, .slice 4 (.int .i64) [], none, [], []⟩,
    ⟨some 35, .fieldAddr (.d tCmd) 7 (.t 2), none, [], []⟩,
    ⟨some 36, .load (.d (.sl (.int .i64))) (.t 35), none, [], []⟩,
    ⟨some 37, .append 5 (.int .i64) (.t 34) (.t 36), none, [], []⟩,
    ⟨some 38, .fieldAddr (.d tCmd) 7 (.t 5), none, [], []⟩,
    ⟨none, .store (.d (.sl (.int .i64))) (.t 38) (.t 37), none, [], []⟩]) (innkeeplaw03_CmdLists.c13)) (innkeeplaw03_CmdLists.c12)
def innkeeplaw03_CmdLists.c8 : Cd := .seq (.seq (.reg false [⟨some 29, .slice 2 (.int .i64) [], none, [], []⟩,
    ⟨some 30, .fieldAddr (.d tCmd) 5 (.t 2), none, [], []⟩,
    ⟨some 31, .load (.d (.sl (.int .i64))) (.t 30), none, [], []⟩,
    ⟨some 32, .append 3 (.int .i64) (.t 29) (.t 31), none, [], []⟩,
    ⟨some 33, .fieldAddr (.d tCmd) 5 (.t 5), none, [], []⟩,
    ⟨none, .store (.d (.sl (.int .i64))) (.t 33) (.t 32), none, [], []⟩]) (innkeeplaw03_CmdLists.c11)) (innkeeplaw03_CmdLists.c10)
def innkeeplaw03_CmdLists.c1 : Cd := .seq (.seq (.reg false [⟨some 28, .load (.d tCmd) (.t 2), none, [], []⟩,
    ⟨some 5, .newbox 1 tCmd [], none, [], []⟩,
    ⟨none, .store (.d tCmd) (.t 5) (.t 28), none, [], []⟩]) (innkeeplaw03_CmdLists.c9)) (innkeeplaw03_CmdLists.c8)
def innkeeplaw03_CmdLists.c0 : Cd := .seq (.seq (.seq (.reg false [⟨some 10, .call (.f 7) [] [.d .bool] [] false, none, [], []⟩,
    ⟨some 11, .not (.t 10), none, [], []⟩,
    ⟨some 12, .move (.t 11), none, [], []⟩,
    ⟨some 13, .load (.d tCmd) (.t 2), some (12, false), [], []⟩,
    ⟨some 14, .call (.f 8) [(.t 13)] [.d .bool] [] false, some (12, false), [], []⟩,
    ⟨some 15, .not (.t 14), some (12, false), [], []⟩,
    ⟨some 16, .pick (.t 12) (.c .bool true) (.t 15), none, [], []⟩,
    ⟨some 17, .move (.t 16), none, [], []⟩,
    ⟨some 18, .load (.d tCmd) (.t 2), some (17, false), [], []⟩,
    ⟨some 19, .call (.f 10) [(.t 18)] [.d .bool] [] false, some (17, false), [], []⟩,
    ⟨some 20, .not (.t 19), some (17, false), [], []⟩,
    ⟨some 21, .pick (.t 17) (.c .bool true) (.t 20), none, [], []⟩,
    ⟨some 22, .move (.t 21), none, [], []⟩,
    ⟨some 23, .fieldAddr (.d tCmd) 0 (.t 2), some (22, false), [], []⟩,
    ⟨some 24, .load (.d (.int .i64)) (.t 23), some (22, false), [], []⟩,
    ⟨some 25, .bin .neq (.t 24) (.c (.int .i64) (8 : Int)), some (22, false), [], []⟩,
    ⟨some 26, .pick (.t 22) (.c .bool true) (.t 25), none, [], []⟩]) (innkeeplaw03_CmdLists.c3)) (innkeeplaw03_CmdLists.c2)) (innkeeplaw03_CmdLists.c1)
def innkeeplaw03_CmdLists.fn : Fn := ⟨2, [.tmp 4], .seq (.reg false [⟨some 2, .box 0 (.t 0), none, [], []⟩,
    ⟨some 4, .move (.c .bool false), none, [], []⟩]) (innkeeplaw03_CmdLists.c0)⟩
def prog : FuncId → Option Fn
  | 3 => some innkeeplaw03_CmdMay.fn
  | 4 => some innkeeplaw03_CmdNames.fn
  | 5 => some innkeeplaw03_CmdFields.fn
  | 6 => some innkeeplaw03_CmdLists.fn
  | 7 => some innkeeplaw03_awake.fn
  | 8 => some innkeepref03_Few.fn
  | 9 => some cmd_May.fn
  | 10 => some innkeepref03_May.fn
  | 11 => some cmd_Same.fn
  | 12 => some innkeepref03_Same.fn
  | 13 => some cmd_Kind.fn
  | 14 => some innkeepref03_Kind.fn
  | 15 => some cmd_Dir.fn
  | 16 => some innkeepref03_Dir.fn
  | 17 => some cmd_Name.fn
  | 18 => some innkeepref03_Name.fn
  | 19 => some cmd_Way.fn
  | 20 => some innkeepref03_Way.fn
  | 21 => some cmd_bare.fn
  | 22 => some cmd_fit.fn
  | 23 => some cmd_row.fn
  | 24 => some innkeepref03_fit.fn
  | 25 => some innkeepref03_row.fn
  | 26 => some cmd_of.fn
  | 27 => some slices_Equal_sint_int.fn
  | 28 => some innkeepref03_Ints.fn
  | 29 => some cmd_number.fn
  | 30 => some cmd_name.fn
  | 31 => some slices_ContainsFunc_sint_int.fn
  | 32 => some cmd_row_1.fn
  | 33 => some slices_Index_sstring_string.fn
  | 34 => some slices_IndexFunc_sint_int.fn
  | _ => none
end Go.Proofs.YtapeeipnjpihcaaDoor.Ghost
