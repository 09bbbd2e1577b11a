/- The functions as ghost code. Conditions: none; no statement is proved here. -/
import Derived.Test.YtmemggdjnfccfaaA1
set_option linter.unusedVariables false
set_option linter.unusedSimpArgs false
set_option linter.unusedSectionVars false
set_option linter.unnecessarySimpa false
namespace Go.Proofs.Ytmemggdjnfccfaa.Ghost
open Go
def o_ (d:Nat) (x:GOp):Ln:=⟨some d,x,none,[],[]⟩
def on_ (x:GOp):Ln:=⟨none,x,none,[],[]⟩
def og (d:Nat) (x:GOp) (g:Nat) (b:Bool):Ln:=⟨some d,x,some (g,b),[],[]⟩
def od (d:Nat) (x:GOp) (r w:List Nat):Ln:=⟨some d,x,none,r,w⟩
def ogd (d:Nat) (x:GOp) (g:Nat) (b:Bool) (r:List Nat):Ln:=⟨some d,x,some (g,b),r,[]⟩
def mv (d i:Nat):Ln:=⟨some d,.move (.t i),none,[],[]⟩
def ld (d:Nat) (t:Ty) (i:Nat):Ln:=⟨some d,.load (.d t) (.t i),none,[],[]⟩
def fa (d:Nat) (t:Ty) (j i:Nat):Ln:=⟨some d,.fieldAddr (.d t) j (.t i),none,[],[]⟩
def bi (d:Nat) (b:BinOp) (i j:Nat):Ln:=⟨some d,.bin b (.t i) (.t j),none,[],[]⟩
def bc (d:Nat) (b:BinOp) (i:Nat) (n:Int):Ln:=⟨some d,.bin b (.t i) (.c (.int .i64) n),none,[],[]⟩
def ix (d:Nat) (t:IT) (i j:Nat):Ln:=⟨some d,.index t (.t i) (.t j),none,[],[]⟩
def le (d i:Nat):Ln:=⟨some d,.len (.t i),none,[],[]⟩
def xt (d i j:Nat):Ln:=⟨some d,.extract (.t i) j,none,[],[]⟩
def nt (d i:Nat):Ln:=⟨some d,.not (.t i),none,[],[]⟩
def ci (d:Nat) (n:Int):Ln:=⟨some d,.move (.c (.int .i64) n),none,[],[]⟩
def sr (t:Ty) (i j:Nat):Ln:=⟨none,.store (.d t) (.t i) (.t j),none,[],[]⟩
def nb (d k:Nat) (t:Ty):Ln:=⟨some d,.newbox k t [],none,[],[]⟩
def bx (d k i:Nat):Ln:=⟨some d,.box k (.t i),none,[],[]⟩
def td (l:List Nat):Cd:=.tidy l [] [] none
abbrev tboundsError:Ty:=.st [(.int .i64),(.int .i64),.bool,(.int .u8)]
abbrev terrorAddressString:Ty:=.st [.str,(.int .u64)]
abbrev tDesc:Ty:=.st [(.sl (.arr 4 (.int .i64))),(.sl (.int .i64)),(.sl (.int .i64)),(.sl (.int .i64)),(.sl .bool),(.int .i64),(.int .i64),(.int .i64)]
abbrev tPlace:Ty:=.st [(.int .i64),(.int .i64)]
abbrev tWorld:Ty:=.st [tDesc,(.sl (.int .i64)),(.sl (.int .i64)),(.sl tPlace)]
abbrev tCmd:Ty:=.st [(.int .i64),(.int .i64),(.int .i64),(.int .i64),(.int .i64),(.sl (.int .i64)),(.int .i64),(.sl (.int .i64)),(.int .i64)]
abbrev tSeen:Ty:=.st [(.int .i64),tPlace]
abbrev tReply:Ty:=.st [(.int .i64),(.int .i64),(.int .i64),(.sl (.int .i64)),(.sl tSeen),(.int .i64)]
def c15_2:Cd:=td [5,6]
def c15_4:Cd:=td [7,8,9,10,11,12]
def c15_6:Cd:=td [13,14,15,16,17,18]
def c15_13:Cd:=td [19,20,21,22]
def c15_14:Cd:=.skip
def c15_18:Cd:=.exit 0
def c15_12:Cd:=.cond (.t 23) (.seq (td [23]) (c15_14)) (.seq (td [23]) (c15_18))
def c15_16:Cd:=td [26,27,28,29,30,31,32,33,34,35,36]
def c15_17:Cd:=td [24,25]
def c15_15:Cd:=.seq (.reg false [mv 24 4,
    bc 25 .add 24 1,
    mv 4 25]) (c15_17)
def c15_11:Cd:=.seq (.block 1 (.seq (.reg true [od 26 (.fieldAddr (.d tWorld) 3 (.t 3)) [2] [],
    od 27 (.load (.d (.sl tPlace)) (.t 26)) [2] [],
    od 28 (.fieldAddr (.d tDesc) 3 (.t 1)) [0] [],
    od 29 (.load (.d (.sl (.int .i64))) (.t 28)) [0] [],
    mv 30 4,
    ix 31 (.sl (.int .i64)) 29 30,
    ld 32 (.int .i64) 31,
    o_ 33 (.build tPlace [(1,(.t 32))] []),
    od 34 (.slice 5 tPlace [(.t 33)]) [] [5],
    od 35 (.append 6 tPlace (.t 27) (.t 34)) [5] [6,9],
    od 36 (.fieldAddr (.d tWorld) 3 (.t 3)) [2] [],
    ⟨none,.store (.d (.sl tPlace)) (.t 36) (.t 35),none,[],[2]⟩]) (c15_16))) (c15_15)
def c15_10:Cd:=.tidy [] [(6,9)] [5] (some 10)
def c15_9:Cd:=.seq (.seq (.seq (.seq (.reg false [mv 19 4,
    fa 20 tDesc 3 1,
    o_ 21 (.load (.d (.sl (.int .i64))) (.t 20)),
    le 22 21,
    bi 23 .lss 19 22]) (c15_13)) (c15_12)) (c15_11)) (c15_10)
def c15_8:Cd:=.block 0 (.loop (c15_9))
def c15_20:Cd:=td [37]
def c15_19:Cd:=.ret
def c15_7:Cd:=.seq (.seq (.reg false [ld 37 tWorld 3,
    sr tWorld 2 37]) (c15_20)) (c15_19)
def c15_5:Cd:=.seq (.seq (.reg false [ci 4 0]) (c15_8)) (c15_7)
def c15_3:Cd:=.seq (.seq (.reg false [fa 13 tWorld 2 3,
    o_ 14 (.load (.d (.sl (.int .i64))) (.t 13)),
    fa 15 tDesc 2 1,
    o_ 16 (.load (.d (.sl (.int .i64))) (.t 15)),
    o_ 17 (.append 4 (.int .i64) (.t 14) (.t 16)),
    fa 18 tWorld 2 3,
    on_ (.store (.d (.sl (.int .i64))) (.t 18) (.t 17))]) (c15_6)) (c15_5)
def c15_1:Cd:=.seq (.seq (.reg false [fa 7 tWorld 1 3,
    o_ 8 (.load (.d (.sl (.int .i64))) (.t 7)),
    fa 9 tDesc 1 1,
    o_ 10 (.load (.d (.sl (.int .i64))) (.t 9)),
    o_ 11 (.append 3 (.int .i64) (.t 8) (.t 10)),
    fa 12 tWorld 1 3,
    on_ (.store (.d (.sl (.int .i64))) (.t 12) (.t 11))]) (c15_4)) (c15_3)
def c15_0:Cd:=.seq (.seq (.reg false [ld 5 tDesc 1,
    o_ 6 (.build tWorld [(0,(.t 5))] [([1],7),([2],8),([3],9)]),
    nb 3 2 tWorld,
    sr tWorld 3 6]) (c15_2)) (c15_1)
def innkeepref06_New.fn:Fn:=⟨1,[.cell 2 (.d tWorld)],.seq (.reg false [bx 1 0 0,
    nb 2 1 tWorld]) (c15_0)⟩
def c16_2:Cd:=td [3,4,5,6,7]
def c16_4:Cd:=td [8,9,10,11,12]
def c16_6:Cd:=td [13,14,15,16,17]
def c16_8:Cd:=td [18]
def c16_7:Cd:=.ret
def c16_5:Cd:=.seq (.seq (.reg false [ld 18 tWorld 1,
    sr tWorld 2 18]) (c16_8)) (c16_7)
def c16_3:Cd:=.seq (.seq (.reg false [o_ 13 (.slice 6 tPlace []),
    fa 14 tWorld 3 1,
    ld 15 (.sl tPlace) 14,
    o_ 16 (.append 7 tPlace (.t 13) (.t 15)),
    fa 17 tWorld 3 1,
    sr (.sl tPlace) 17 16]) (c16_6)) (c16_5)
def c16_1:Cd:=.seq (.seq (.reg false [o_ 8 (.slice 4 (.int .i64) []),
    fa 9 tWorld 2 1,
    o_ 10 (.load (.d (.sl (.int .i64))) (.t 9)),
    o_ 11 (.append 5 (.int .i64) (.t 8) (.t 10)),
    fa 12 tWorld 2 1,
    on_ (.store (.d (.sl (.int .i64))) (.t 12) (.t 11))]) (c16_4)) (c16_3)
def c16_0:Cd:=.seq (.seq (.reg false [o_ 3 (.slice 2 (.int .i64) []),
    fa 4 tWorld 1 1,
    o_ 5 (.load (.d (.sl (.int .i64))) (.t 4)),
    o_ 6 (.append 3 (.int .i64) (.t 3) (.t 5)),
    fa 7 tWorld 1 1,
    on_ (.store (.d (.sl (.int .i64))) (.t 7) (.t 6))]) (c16_2)) (c16_1)
def innkeepref06_Copied.fn:Fn:=⟨1,[.cell 2 (.d tWorld)],.seq (.reg false [bx 1 0 0,
    nb 2 1 tWorld]) (c16_0)⟩
def c31_2:Cd:=td [9,10,11,12,13,14,15,16]
def c31_4:Cd:=td [17,18,19,20]
def c31_3:Cd:=.ret
def c31_1:Cd:=.seq (.seq (.reg false [mv 17 8,
    o_ 18 (.max [(.t 17),(.c (.int .i64) (0:Int))]),
    mv 19 8,
    bc 20 .geq 19 0,
    mv 6 18,
    mv 7 20]) (c31_4)) (c31_3)
def c31_0:Cd:=.seq (.seq (.reg false [fa 9 tWorld 0 3,
    fa 10 tDesc 0 9,
    o_ 11 (.load (.d (.sl (.arr 4 (.int .i64)))) (.t 10)),
    mv 12 1,
    mv 13 2,
    o_ 14 (.index (.sl (.arr 4 (.int .i64))) (.t 11) (.t 12)),
    o_ 15 (.index (.arr 4 (.int .i64)) (.t 14) (.t 13)),
    ld 16 (.int .i64) 15,
    mv 8 16]) (c31_2)) (c31_1)
def ways_Exit.fn:Fn:=⟨3,[.tmp 6,.tmp 7],.seq (.reg false [bx 3 0 0,
    ci 6 0,
    o_ 7 (.move (.c .bool false))]) (c31_0)⟩
def c11_2:Cd:=td [11,12,13,14,15]
def c11_4:Cd:=td [16,17,18,19,20]
def c11_7:Cd:=td [21]
def c11_10:Cd:=td [24]
def c11_33:Cd:=td [25]
def c11_9:Cd:=.cond (.t 23) (.skip) (.seq (.reg false [bc 25 .eql 22 2,
    mv 23 25]) (c11_33))
def c11_12:Cd:=td [26,27,28,29,30,31,32,33]
def c11_15:Cd:=td [35,36,37,38,39]
def c11_14:Cd:=.seq (.reg false [mv 35 8,
    mv 36 9,
    o_ 37 (.build tPlace [(0,(.c (.int .i64) (0:Int))),(1,(.t 36))] []),
    o_ 38 (.slice 3 tPlace [(.t 37)]),
    o_ 39 (.append 4 tPlace (.t 35) (.t 38)),
    mv 8 39]) (c11_15)
def c11_32:Cd:=.skip
def c11_13:Cd:=.cond (.t 34) (.seq (td [34]) (c11_14)) (.seq (td [34]) (c11_32))
def c11_11:Cd:=.seq (.reg false [mv 34 10]) (c11_13)
def c11_8:Cd:=.cond (.t 23) (.seq (.seq (.reg false [ld 27 tWorld 3,
    mv 28 7,
    fa 29 tCmd 1 5,
    ld 30 (.int .i64) 29,
    o_ 31 (.call (.f 31) [(.t 27),(.t 28),(.t 30)] [.d (.int .i64),.d .bool] [] false),
    mv 26 31,
    xt 32 26 0,
    xt 33 26 1,
    mv 9 32,
    mv 10 33]) (c11_12)) (c11_11)) (.skip)
def c11_6:Cd:=.block 0 (.seq (.seq (.seq (.reg false [bc 24 .eql 22 1,
    mv 23 24]) (c11_10)) (c11_9)) (c11_8))
def c11_18:Cd:=td [40]
def c11_21:Cd:=td [43]
def c11_30:Cd:=td [44]
def c11_31:Cd:=td [45]
def c11_29:Cd:=.cond (.t 42) (.skip) (.seq (.reg false [bc 45 .eql 41 8,
    mv 42 45]) (c11_31))
def c11_20:Cd:=.cond (.t 42) (.skip) (.seq (.seq (.reg false [bc 44 .eql 41 7,
    mv 42 44]) (c11_30)) (c11_29))
def c11_23:Cd:=td [46,47,48,49,50,51,52,53,54,55]
def c11_25:Cd:=td [57,58,59,60,61,62]
def c11_24:Cd:=.seq (.reg false [mv 57 8,
    fa 58 tCmd 4 5,
    ld 59 (.int .i64) 58,
    o_ 60 (.build tPlace [(0,(.c (.int .i64) (1:Int))),(1,(.t 59))] []),
    o_ 61 (.slice 5 tPlace [(.t 60)]),
    o_ 62 (.append 6 tPlace (.t 57) (.t 61)),
    mv 8 62]) (c11_25)
def c11_28:Cd:=.skip
def c11_22:Cd:=.cond (.t 56) (.seq (td [56]) (c11_24)) (.seq (td [56]) (c11_28))
def c11_19:Cd:=.cond (.t 42) (.seq (.seq (.reg false [fa 46 tCmd 4 5,
    ld 47 (.int .i64) 46,
    bc 48 .geq 47 0,
    mv 49 48,
    og 50 (.fieldAddr (.d tCmd) 4 (.t 5)) 49 true,
    og 51 (.load (.d (.int .i64)) (.t 50)) 49 true,
    og 52 (.fieldAddr (.d tWorld) 1 (.t 3)) 49 true,
    og 53 (.load (.d (.sl (.int .i64))) (.t 52)) 49 true,
    og 54 (.len (.t 53)) 49 true,
    og 55 (.bin .lss (.t 51) (.t 54)) 49 true,
    o_ 56 (.pick (.t 49) (.t 55) (.c .bool false))]) (c11_23)) (c11_22)) (.skip)
def c11_17:Cd:=.block 1 (.seq (.seq (.seq (.reg false [bc 43 .eql 41 2,
    mv 42 43]) (c11_21)) (c11_20)) (c11_19))
def c11_27:Cd:=td [63,64]
def c11_26:Cd:=.ret
def c11_16:Cd:=.seq (.seq (.reg false [mv 63 8,
    o_ 64 (.call (.f 32) [(.t 63)] [.d (.sl tPlace)] [] false),
    mv 6 64]) (c11_27)) (c11_26)
def c11_5:Cd:=.seq (.seq (.seq (.reg false [fa 40 tCmd 0 5,
    ld 41 (.int .i64) 40]) (c11_18)) (c11_17)) (c11_16)
def c11_3:Cd:=.seq (.seq (.seq (.reg false [fa 21 tCmd 0 5,
    ld 22 (.int .i64) 21]) (c11_7)) (c11_6)) (c11_5)
def c11_1:Cd:=.seq (.seq (.reg false [mv 16 7,
    o_ 17 (.build tPlace [(0,(.c (.int .i64) (0:Int))),(1,(.t 16))] []),
    mv 18 1,
    o_ 19 (.build tPlace [(0,(.c (.int .i64) (1:Int))),(1,(.t 18))] []),
    o_ 20 (.slice 2 tPlace [(.t 17),(.t 19)]),
    mv 8 20]) (c11_4)) (c11_3)
def c11_0:Cd:=.seq (.seq (.reg false [fa 11 tWorld 1 3,
    o_ 12 (.load (.d (.sl (.int .i64))) (.t 11)),
    mv 13 1,
    ix 14 (.sl (.int .i64)) 12 13,
    ld 15 (.int .i64) 14,
    mv 7 15]) (c11_2)) (c11_1)
def foot_Of.fn:Fn:=⟨3,[.tmp 6],.seq (.reg false [bx 3 0 0,
    bx 5 1 2,
    o_ 6 (.move (.c (.sl tPlace) []))]) (c11_0)⟩
def c10_3:Cd:=td [6,7,8,9]
def c10_5:Cd:=.ret
def c10_4:Cd:=.seq (.reg false [o_ 4 (.move (.c .bool false))]) (c10_5)
def c10_6:Cd:=.skip
def c10_2:Cd:=.cond (.t 10) (.seq (td [10]) (c10_4)) (.seq (td [10]) (c10_6))
def c10_13:Cd:=td [11,12,13]
def c10_14:Cd:=.skip
def c10_22:Cd:=.exit 0
def c10_12:Cd:=.cond (.t 14) (.seq (td [14]) (c10_14)) (.seq (td [14]) (c10_22))
def c10_17:Cd:=td [17,18,19,20,21,22,23,24]
def c10_19:Cd:=.ret
def c10_18:Cd:=.seq (.reg false [o_ 4 (.move (.c .bool false))]) (c10_19)
def c10_20:Cd:=.skip
def c10_16:Cd:=.cond (.t 25) (.seq (td [25]) (c10_18)) (.seq (td [25]) (c10_20))
def c10_21:Cd:=td [15,16]
def c10_15:Cd:=.seq (.reg false [mv 15 5,
    bc 16 .add 15 1,
    mv 5 16]) (c10_21)
def c10_11:Cd:=.seq (.block 1 (.seq (.seq (.reg true [mv 17 0,
    mv 18 5,
    ix 19 (.sl tPlace) 17 18,
    ld 20 tPlace 19,
    mv 21 1,
    mv 22 5,
    ix 23 (.sl tPlace) 21 22,
    ld 24 tPlace 23,
    o_ 25 (.eqs tPlace true (.t 20) (.t 24))]) (c10_17)) (c10_16))) (c10_15)
def c10_10:Cd:=.tidy [] [] [] (some 0)
def c10_9:Cd:=.seq (.seq (.seq (.seq (.reg false [mv 11 5,
    mv 12 0,
    le 13 12,
    bi 14 .lss 11 13]) (c10_13)) (c10_12)) (c10_11)) (c10_10)
def c10_8:Cd:=.block 0 (.loop (c10_9))
def c10_23:Cd:=.ret
def c10_7:Cd:=.seq (.reg false [o_ 4 (.move (.c .bool true))]) (c10_23)
def c10_1:Cd:=.seq (.seq (.reg false [ci 5 0]) (c10_8)) (c10_7)
def c10_0:Cd:=.seq (.seq (.seq (.reg false [mv 6 0,
    le 7 6,
    mv 8 1,
    le 9 8,
    bi 10 .neq 7 9]) (c10_3)) (c10_2)) (c10_1)
def innkeepref14_Same.fn:Fn:=⟨2,[.tmp 4],.seq (.reg false [o_ 4 (.move (.c .bool false))]) (c10_0)⟩
def c57_3:Cd:=td [6]
def c57_8:Cd:=.skip
def c57_19:Cd:=.exit 0
def c57_11:Cd:=td [10]
def c57_13:Cd:=td [11,12,13,14,15]
def c57_16:Cd:=td [17]
def c57_15:Cd:=.ret
def c57_14:Cd:=.seq (.seq (.reg false [mv 17 5,
    mv 4 17]) (c57_16)) (c57_15)
def c57_17:Cd:=.skip
def c57_12:Cd:=.cond (.t 16) (.seq (td [16]) (c57_14)) (.seq (td [16]) (c57_17))
def c57_10:Cd:=.seq (.seq (.reg true [od 11 (.load (.d tPlace) (.t 3)) [0] [],
    mv 12 0,
    mv 13 5,
    ix 14 (.sl tPlace) 12 13,
    ld 15 tPlace 14,
    o_ 16 (.eqs tPlace false (.t 11) (.t 15))]) (c57_13)) (c57_12)
def c57_18:Cd:=td [18]
def c57_9:Cd:=.seq (.reg false [bc 18 .add 8 1,
    mv 8 18]) (c57_18)
def c57_7:Cd:=.seq (.block 1 (.seq (.seq (.reg false [mv 10 8,
    mv 5 10]) (c57_11)) (c57_10))) (c57_9)
def c57_6:Cd:=.seq (.cond (.t 9) (.seq (td [9]) (c57_8)) (.seq (td [9]) (c57_19))) (c57_7)
def c57_5:Cd:=.tidy [5] [] [] (some 1)
def c57_4:Cd:=.seq (.seq (.reg false [bi 9 .lss 8 7]) (c57_6)) (c57_5)
def c57_2:Cd:=.block 0 (.loop (c57_4))
def c57_20:Cd:=.ret
def c57_1:Cd:=.seq (.reg false [o_ 4 (.move (.c (.int .i64) ((-1):Int)))]) (c57_20)
def c57_0:Cd:=.seq (.seq (.seq (.reg false [mv 6 0,
    le 7 6,
    ci 8 0]) (c57_3)) (c57_2)) (c57_1)
def slices_Index_sapi_Key_api_Key.fn:Fn:=⟨2,[.tmp 4],.seq (.reg false [bx 3 0 1,
    ci 4 0]) (c57_0)⟩
def c35_2:Cd:=td [5,6,7,8]
def c35_1:Cd:=.ret
def c35_0:Cd:=.seq (.seq (.reg false [mv 5 0,
    ld 6 tPlace 3,
    o_ 7 (.call (.f 57) [(.t 5),(.t 6)] [.d (.int .i64)] [] false),
    bc 8 .geq 7 0,
    mv 4 8]) (c35_2)) (c35_1)
def slices_Contains_sapi_Key_api_Key.fn:Fn:=⟨2,[.tmp 4],.seq (.reg false [bx 3 0 1,
    o_ 4 (.move (.c .bool false))]) (c35_0)⟩
def c34_2:Cd:=td [6,7,8,9,10]
def c34_1:Cd:=.ret
def c34_0:Cd:=.seq (.seq (.reg false [ld 6 (.sl tPlace) 2,
    mv 7 0,
    mv 8 1,
    o_ 9 (.build tPlace [(0,(.t 7)),(1,(.t 8))] []),
    o_ 10 (.call (.f 35) [(.t 6),(.t 9)] [.d .bool] [] false),
    mv 5 10]) (c34_2)) (c34_1)
def foot_Covers_1.fn:Fn:=⟨3,[.tmp 5],.seq (.reg false [o_ 5 (.move (.c .bool false))]) (c34_0)⟩
def c59_2:Cd:=td [5]
def c59_1:Cd:=.ret
def c59_0:Cd:=.seq (.seq (.reg false [o_ 5 (.func 65 [(.t 2),(.t 3)]),
    mv 4 5]) (c59_2)) (c59_1)
def tree_up.fn:Fn:=⟨2,[.tmp 4],.seq (.reg false [bx 2 0 0,
    bx 3 1 1,
    o_ 4 (.move .nf)]) (c59_0)⟩
def c36_2:Cd:=td [6,7,8,9]
def c36_4:Cd:=td [10,11,12,13,14,15]
def c36_3:Cd:=.ret
def c36_1:Cd:=.seq (.seq (.reg false [mv 10 5,
    mv 11 5,
    le 12 11,
    bc 13 .sub 12 1,
    ix 14 (.sl tPlace) 10 13,
    ld 15 tPlace 14,
    sr tPlace 4 15]) (c36_4)) (c36_3)
def c36_0:Cd:=.seq (.seq (.reg false [ld 6 tWorld 2,
    mv 7 1,
    o_ 8 (.call (.f 59) [(.t 6),(.t 7)] [.clo 65 [.ref tWorld,.ref (.int .i64)]] [] false),
    o_ 9 (.call (.f 58) [(.t 8)] [.d (.sl tPlace)] [] false),
    mv 5 9]) (c36_2)) (c36_1)
def tree_Root.fn:Fn:=⟨2,[.cell 4 (.d tPlace)],.seq (.reg false [bx 2 0 0,
    nb 4 1 tPlace]) (c36_0)⟩
def c13_2:Cd:=td [12]
def c13_5:Cd:=td [13,14]
def c13_10:Cd:=.skip
def c13_20:Cd:=.exit 0
def c13_13:Cd:=td [18]
def c13_15:Cd:=td [19,20,21,22,23,24,25,26,27,28,29,30,31,32,33,34,35,36,37,38,39,40,41,42,43,44,45,46,47]
def c13_17:Cd:=.ret
def c13_16:Cd:=.seq (.reg false [o_ 6 (.move (.c .bool false))]) (c13_17)
def c13_18:Cd:=.skip
def c13_14:Cd:=.cond (.t 48) (.seq (td [48]) (c13_16)) (.seq (td [48]) (c13_18))
def c13_12:Cd:=.seq (.seq (.reg true [od 19 (.fieldAddr (.d tWorld) 1 (.t 4)) [1] [],
    od 20 (.load (.d (.sl (.int .i64))) (.t 19)) [1] [],
    mv 21 8,
    ix 22 (.sl (.int .i64)) 20 21,
    ld 23 (.int .i64) 22,
    od 24 (.fieldAddr (.d tWorld) 1 (.t 5)) [2] [],
    od 25 (.load (.d (.sl (.int .i64))) (.t 24)) [2] [],
    mv 26 8,
    ix 27 (.sl (.int .i64)) 25 26,
    ld 28 (.int .i64) 27,
    bi 29 .neq 23 28,
    mv 30 29,
    ogd 31 (.fieldAddr (.d tWorld) 2 (.t 4)) 30 false [1],
    ogd 32 (.load (.d (.sl (.int .i64))) (.t 31)) 30 false [1],
    og 33 (.move (.t 8)) 30 false,
    og 34 (.index (.sl (.int .i64)) (.t 32) (.t 33)) 30 false,
    og 35 (.load (.d (.int .i64)) (.t 34)) 30 false,
    ogd 36 (.fieldAddr (.d tWorld) 2 (.t 5)) 30 false [2],
    ogd 37 (.load (.d (.sl (.int .i64))) (.t 36)) 30 false [2],
    og 38 (.move (.t 8)) 30 false,
    og 39 (.index (.sl (.int .i64)) (.t 37) (.t 38)) 30 false,
    og 40 (.load (.d (.int .i64)) (.t 39)) 30 false,
    og 41 (.bin .neq (.t 35) (.t 40)) 30 false,
    o_ 42 (.pick (.t 30) (.c .bool true) (.t 41)),
    mv 43 42,
    og 44 (.move (.t 7)) 43 true,
    og 45 (.move (.t 8)) 43 true,
    ogd 46 (.call (.t 44) [(.c (.int .i64) (1:Int)),(.t 45)] [.d .bool] [] false) 43 true [0],
    og 47 (.not (.t 46)) 43 true,
    o_ 48 (.pick (.t 43) (.t 47) (.c .bool false))]) (c13_15)) (c13_14)
def c13_19:Cd:=td [49]
def c13_11:Cd:=.seq (.reg false [bc 49 .add 16 1,
    mv 16 49]) (c13_19)
def c13_9:Cd:=.seq (.block 1 (.seq (.seq (.reg false [mv 18 16,
    mv 8 18]) (c13_13)) (c13_12))) (c13_11)
def c13_8:Cd:=.seq (.cond (.t 17) (.seq (td [17]) (c13_10)) (.seq (td [17]) (c13_20))) (c13_9)
def c13_7:Cd:=.tidy [8] [] [] (some 3)
def c13_6:Cd:=.seq (.seq (.reg false [bi 17 .lss 16 15]) (c13_8)) (c13_7)
def c13_4:Cd:=.block 0 (.loop (c13_6))
def c13_23:Cd:=td [50,51]
def c13_28:Cd:=.skip
def c13_40:Cd:=.exit 2
def c13_31:Cd:=td [55]
def c13_33:Cd:=td [56,57,58,59,60,61]
def c13_35:Cd:=td [62,63,64,65,66,67,68,69,70,71,72,73,74,75,76,77,78,79,80,81,82,83,84,85,86,87,88]
def c13_37:Cd:=.ret
def c13_36:Cd:=.seq (.reg false [o_ 6 (.move (.c .bool false))]) (c13_37)
def c13_38:Cd:=.skip
def c13_34:Cd:=.cond (.t 89) (.seq (td [89]) (c13_36)) (.seq (td [89]) (c13_38))
def c13_32:Cd:=.seq (.seq (.reg true [od 62 (.fieldAddr (.d tWorld) 3 (.t 4)) [1] [],
    od 63 (.load (.d (.sl tPlace)) (.t 62)) [1] [],
    mv 64 9,
    ix 65 (.sl tPlace) 63 64,
    ld 66 tPlace 65,
    od 67 (.fieldAddr (.d tWorld) 3 (.t 5)) [2] [],
    od 68 (.load (.d (.sl tPlace)) (.t 67)) [2] [],
    mv 69 9,
    ix 70 (.sl tPlace) 68 69,
    ld 71 tPlace 70,
    o_ 72 (.eqs tPlace true (.t 66) (.t 71)),
    mv 73 72,
    og 74 (.move (.t 7)) 73 true,
    ogd 75 (.fieldAddr (.d tPlace) 0 (.t 10)) 73 true [3],
    ogd 76 (.load (.d (.int .i64)) (.t 75)) 73 true [3],
    ogd 77 (.fieldAddr (.d tPlace) 1 (.t 10)) 73 true [3],
    ogd 78 (.load (.d (.int .i64)) (.t 77)) 73 true [3],
    ogd 79 (.call (.t 74) [(.t 76),(.t 78)] [.d .bool] [] false) 73 true [0],
    og 80 (.move (.t 79)) 73 true,
    og 81 (.move (.t 7)) 80 true,
    ogd 82 (.fieldAddr (.d tPlace) 0 (.t 11)) 80 true [4],
    ogd 83 (.load (.d (.int .i64)) (.t 82)) 80 true [4],
    ogd 84 (.fieldAddr (.d tPlace) 1 (.t 11)) 80 true [4],
    ogd 85 (.load (.d (.int .i64)) (.t 84)) 80 true [4],
    ogd 86 (.call (.t 81) [(.t 83),(.t 85)] [.d .bool] [] false) 80 true [0],
    og 87 (.pick (.t 80) (.t 86) (.c .bool false)) 73 true,
    og 88 (.not (.t 87)) 73 true,
    o_ 89 (.pick (.t 73) (.t 88) (.c .bool false))]) (c13_35)) (c13_34)
def c13_30:Cd:=.seq (.seq (.reg true [od 56 (.load (.d tWorld) (.t 4)) [1] [],
    mv 57 9,
    o_ 58 (.call (.f 36) [(.t 56),(.t 57)] [.d tPlace] [] false),
    od 59 (.load (.d tWorld) (.t 5)) [2] [],
    mv 60 9,
    o_ 61 (.call (.f 36) [(.t 59),(.t 60)] [.d tPlace] [] false),
    od 10 (.newbox 3 tPlace []) [] [3],
    od 11 (.newbox 4 tPlace []) [] [4],
    ⟨none,.store (.d tPlace) (.t 10) (.t 58),none,[],[3]⟩,
    ⟨none,.store (.d tPlace) (.t 11) (.t 61),none,[],[4]⟩]) (c13_33)) (c13_32)
def c13_39:Cd:=td [90]
def c13_29:Cd:=.seq (.reg false [bc 90 .add 53 1,
    mv 53 90]) (c13_39)
def c13_27:Cd:=.seq (.block 3 (.seq (.seq (.reg false [mv 55 53,
    mv 9 55]) (c13_31)) (c13_30))) (c13_29)
def c13_26:Cd:=.seq (.cond (.t 54) (.seq (td [54]) (c13_28)) (.seq (td [54]) (c13_40))) (c13_27)
def c13_25:Cd:=.tidy [9,10,11] [] [] (some 3)
def c13_24:Cd:=.seq (.seq (.reg false [bi 54 .lss 53 52]) (c13_26)) (c13_25)
def c13_22:Cd:=.block 2 (.loop (c13_24))
def c13_41:Cd:=.ret
def c13_21:Cd:=.seq (.reg false [o_ 6 (.move (.c .bool true))]) (c13_41)
def c13_3:Cd:=.seq (.seq (.seq (.reg false [fa 50 tWorld 3 4,
    ld 51 (.sl tPlace) 50,
    le 52 51,
    ci 53 0]) (c13_23)) (c13_22)) (c13_21)
def c13_1:Cd:=.seq (.seq (.seq (.reg false [fa 13 tWorld 1 4,
    o_ 14 (.load (.d (.sl (.int .i64))) (.t 13)),
    le 15 14,
    ci 16 0]) (c13_5)) (c13_4)) (c13_3)
def c13_0:Cd:=.seq (.seq (.reg false [o_ 12 (.func 34 [(.t 3)]),
    mv 7 12]) (c13_2)) (c13_1)
def foot_Covers.fn:Fn:=⟨3,[.tmp 6],.seq (.reg false [bx 3 0 0,
    bx 4 1 1,
    bx 5 2 2,
    o_ 6 (.move (.c .bool false))]) (c13_0)⟩
def c5_2:Cd:=td [4,5,6,7,8,9,10,11,12]
def c5_4:Cd:=td [13,14]
def c5_6:Cd:=td [15,16,17,18]
def c5_8:Cd:=td [19,20,21]
def c5_11:Cd:=.reg true [od 22 (.load (.d tWorld) (.t 1)) [5] [],
    o_ 23 (.build tCmd [(0,(.c (.int .i64) (9:Int)))] []),
    o_ 24 (.call (.f 11) [(.t 22),(.c (.int .i64) (0:Int)),(.t 23)] [.d (.sl tPlace)] [] false),
    mv 25 3,
    od 26 (.call (.f 10) [(.t 24),(.t 25)] [.d .bool] [] false) [7] [],
    mv 27 26,
    ogd 28 (.load (.d tWorld) (.t 1)) 27 true [5],
    og 29 (.build tCmd [(0,(.c (.int .i64) (2:Int))),(4,(.c (.int .i64) (1:Int)))] []) 27 true,
    og 30 (.call (.f 11) [(.t 28),(.c (.int .i64) (0:Int)),(.t 29)] [.d (.sl tPlace)] [] false) 27 true,
    og 31 (.build tPlace [] []) 27 true,
    og 32 (.build tPlace [(1,(.c (.int .i64) (1:Int)))] []) 27 true,
    og 33 (.build tPlace [(0,(.c (.int .i64) (1:Int)))] []) 27 true,
    og 34 (.build tPlace [(0,(.c (.int .i64) (1:Int))),(1,(.c (.int .i64) (1:Int)))] []) 27 true,
    ⟨some 35,.slice 8 tPlace [(.t 31),(.t 32),(.t 33),(.t 34)],some (27,true),[],[8]⟩,
    ogd 36 (.call (.f 10) [(.t 30),(.t 35)] [.d .bool] [] false) 27 true [8],
    o_ 37 (.pick (.t 27) (.t 36) (.c .bool false)),
    mv 38 37,
    ogd 39 (.load (.d tWorld) (.t 1)) 38 true [5],
    og 40 (.build tCmd [(0,(.c (.int .i64) (1:Int))),(1,(.c (.int .i64) (1:Int)))] []) 38 true,
    og 41 (.call (.f 11) [(.t 39),(.c (.int .i64) (0:Int)),(.t 40)] [.d (.sl tPlace)] [] false) 38 true,
    og 42 (.move (.t 3)) 38 true,
    ogd 43 (.call (.f 10) [(.t 41),(.t 42)] [.d .bool] [] false) 38 true [7],
    o_ 44 (.pick (.t 38) (.t 43) (.c .bool false)),
    mv 45 44,
    ogd 46 (.load (.d tWorld) (.t 1)) 45 true [5],
    og 47 (.build tCmd [(0,(.c (.int .i64) (7:Int))),(4,(.c (.int .i64) (7:Int)))] []) 45 true,
    og 48 (.call (.f 11) [(.t 46),(.c (.int .i64) (0:Int)),(.t 47)] [.d (.sl tPlace)] [] false) 45 true,
    og 49 (.move (.t 3)) 45 true,
    ogd 50 (.call (.f 10) [(.t 48),(.t 49)] [.d .bool] [] false) 45 true [7],
    o_ 51 (.pick (.t 45) (.t 50) (.c .bool false)),
    mv 52 51,
    og 53 (.move (.t 3)) 52 true,
    ogd 54 (.load (.d tWorld) (.t 1)) 52 true [5],
    ogd 55 (.load (.d tWorld) (.t 2)) 52 true [6],
    ogd 56 (.call (.f 13) [(.t 53),(.t 54),(.t 55)] [.d .bool] [] false) 52 true [7,9],
    o_ 57 (.pick (.t 52) (.t 56) (.c .bool false)),
    mv 58 57,
    og 59 (.move (.t 3)) 58 true,
    ogd 60 (.slx tPlace (.t 59) none (some (.c (.int .i64) (1:Int)))) 58 true [7],
    ogd 61 (.load (.d tWorld) (.t 1)) 58 true [5],
    ogd 62 (.load (.d tWorld) (.t 2)) 58 true [6],
    ogd 63 (.call (.f 13) [(.t 60),(.t 61),(.t 62)] [.d .bool] [] false) 58 true [9],
    og 64 (.not (.t 63)) 58 true,
    o_ 65 (.pick (.t 58) (.t 64) (.c .bool false)),
    mv 66 65,
    ogd 67 (.load (.d tWorld) (.t 1)) 66 true [5],
    ogd 68 (.load (.d tWorld) (.t 1)) 66 true [5],
    og 69 (.call (.f 13) [(.c (.sl tPlace) ([]:List (den tPlace))),(.t 67),(.t 68)] [.d .bool] [] false) 66 true,
    o_ 70 (.pick (.t 66) (.t 69) (.c .bool false)),
    mv 0 70]
def c5_10:Cd:=td [22,23,24,25,26,27,28,29,30,31,32,33,34,35,36,37,38,39,40,41,42,43,44,45,46,47,48,49,50,51,52,53,54,55,56,57,58,59,60,61,62,63,64,65,66,67,68,69,70]
def c5_9:Cd:=.ret
def c5_7:Cd:=.seq (.seq (.seq (.frz [7]) (c5_11)) (c5_10)) (c5_9)
def c5_5:Cd:=.seq (.seq (.reg false [o_ 19 (.build tPlace [] []),
    o_ 20 (.build tPlace [(0,(.c (.int .i64) (1:Int)))] []),
    o_ 21 (.slice 7 tPlace [(.t 19),(.t 20)]),
    mv 3 21]) (c5_8)) (c5_7)
def c5_3:Cd:=.seq (.seq (.reg false [fa 15 tWorld 3 2,
    ld 16 (.sl tPlace) 15,
    o_ 17 (.build tPlace [(0,(.c (.int .i64) (1:Int)))] []),
    o_ 18 (.index (.sl tPlace) (.t 16) (.c (.int .i64) (0:Int))),
    sr tPlace 18 17]) (c5_6)) (c5_5)
def c5_1:Cd:=.seq (.seq (.reg false [ld 13 tWorld 1,
    o_ 14 (.call (.f 16) [(.t 13)] [.d tWorld] [((0,[3]),9)] false),
    nb 2 6 tWorld,
    sr tWorld 2 14]) (c5_4)) (c5_3)
def c5_0:Cd:=.seq (.seq (.reg false [o_ 4 (.build (.arr 4 (.int .i64)) [(0,(.c (.int .i64) (1:Int))),(1,(.c (.int .i64) ((-1):Int))),(2,(.c (.int .i64) ((-1):Int))),(3,(.c (.int .i64) ((-1):Int)))] []),
    o_ 5 (.build (.arr 4 (.int .i64)) [(0,(.c (.int .i64) ((-1):Int))),(1,(.c (.int .i64) ((-1):Int))),(2,(.c (.int .i64) (0:Int))),(3,(.c (.int .i64) ((-1):Int)))] []),
    o_ 6 (.slice 0 (.arr 4 (.int .i64)) [(.t 4),(.t 5)]),
    o_ 7 (.slice 1 (.int .i64) [(.c (.int .i64) (0:Int)),(.c (.int .i64) (0:Int))]),
    o_ 8 (.slice 2 (.int .i64) [(.c (.int .i64) (5:Int)),(.c (.int .i64) (2:Int))]),
    o_ 9 (.slice 3 (.int .i64) [(.c (.int .i64) (0:Int))]),
    o_ 10 (.slice 4 .bool [(.c .bool false)]),
    o_ 11 (.build tDesc [(0,(.t 6)),(1,(.t 7)),(2,(.t 8)),(3,(.t 9)),(4,(.t 10)),(5,(.c (.int .i64) (4:Int))),(6,(.c (.int .i64) (2:Int))),(7,(.c (.int .i64) (1:Int)))] []),
    o_ 12 (.call (.f 15) [(.t 11)] [.d tWorld] [] false),
    nb 1 5 tWorld,
    sr tWorld 1 12]) (c5_2)) (c5_1)
def innkeeplaw16_awake.fn:Fn:=⟨0,[.tmp 0],.seq (.reg false [o_ 0 (.move (.c .bool false))]) (c5_0)⟩
def c17_2:Cd:=td [4,5]
def c17_4:Cd:=td [6,7,8,9,10,11,12,13,14,15,16,17,18,19,20,21,22,23,24,25,26,27,28,29,30,31,32,33,34,35,36,37,38,39,40,41,42,43,44,45,46,47,48,49,50,51]
def c17_3:Cd:=.ret
def c17_1:Cd:=.seq (.seq (.reg false [fa 6 tDesc 0 3,
    o_ 7 (.load (.d (.sl (.arr 4 (.int .i64)))) (.t 6)),
    le 8 7,
    bc 9 .leq 8 20,
    mv 10 9,
    og 11 (.fieldAddr (.d tDesc) 1 (.t 3)) 10 true,
    og 12 (.load (.d (.sl (.int .i64))) (.t 11)) 10 true,
    og 13 (.len (.t 12)) 10 true,
    og 14 (.bin .leq (.t 13) (.c (.int .i64) (20:Int))) 10 true,
    o_ 15 (.pick (.t 10) (.t 14) (.c .bool false)),
    mv 16 15,
    og 17 (.fieldAddr (.d tDesc) 2 (.t 3)) 16 true,
    og 18 (.load (.d (.sl (.int .i64))) (.t 17)) 16 true,
    og 19 (.len (.t 18)) 16 true,
    og 20 (.bin .leq (.t 19) (.c (.int .i64) (20:Int))) 16 true,
    o_ 21 (.pick (.t 16) (.t 20) (.c .bool false)),
    mv 22 21,
    og 23 (.fieldAddr (.d tDesc) 3 (.t 3)) 22 true,
    og 24 (.load (.d (.sl (.int .i64))) (.t 23)) 22 true,
    og 25 (.len (.t 24)) 22 true,
    og 26 (.bin .leq (.t 25) (.c (.int .i64) (40:Int))) 22 true,
    o_ 27 (.pick (.t 22) (.t 26) (.c .bool false)),
    mv 28 27,
    og 29 (.fieldAddr (.d tDesc) 4 (.t 3)) 28 true,
    og 30 (.load (.d (.sl .bool)) (.t 29)) 28 true,
    og 31 (.len (.t 30)) 28 true,
    og 32 (.bin .leq (.t 31) (.c (.int .i64) (40:Int))) 28 true,
    o_ 33 (.pick (.t 28) (.t 32) (.c .bool false)),
    mv 34 33,
    og 35 (.fieldAddr (.d tWorld) 1 (.t 1)) 34 true,
    og 36 (.load (.d (.sl (.int .i64))) (.t 35)) 34 true,
    og 37 (.len (.t 36)) 34 true,
    og 38 (.bin .leq (.t 37) (.c (.int .i64) (40:Int))) 34 true,
    o_ 39 (.pick (.t 34) (.t 38) (.c .bool false)),
    mv 40 39,
    og 41 (.fieldAddr (.d tWorld) 2 (.t 1)) 40 true,
    og 42 (.load (.d (.sl (.int .i64))) (.t 41)) 40 true,
    og 43 (.len (.t 42)) 40 true,
    og 44 (.bin .leq (.t 43) (.c (.int .i64) (40:Int))) 40 true,
    o_ 45 (.pick (.t 40) (.t 44) (.c .bool false)),
    mv 46 45,
    og 47 (.fieldAddr (.d tWorld) 3 (.t 1)) 46 true,
    og 48 (.load (.d (.sl tPlace)) (.t 47)) 46 true,
    og 49 (.len (.t 48)) 46 true,
    og 50 (.bin .leq (.t 49) (.c (.int .i64) (40:Int))) 46 true,
    o_ 51 (.pick (.t 46) (.t 50) (.c .bool false)),
    mv 2 51]) (c17_4)) (c17_3)
def c17_0:Cd:=.seq (.seq (.reg false [fa 4 tWorld 0 1,
    ld 5 tDesc 4,
    nb 3 1 tDesc,
    sr tDesc 3 5]) (c17_2)) (c17_1)
def innkeepref06_Few.fn:Fn:=⟨1,[.tmp 2],.seq (.reg false [bx 1 0 0,
    o_ 2 (.move (.c .bool false))]) (c17_0)⟩
def c40_2:Cd:=td [5,6,7,8,9,10,11]
def c40_1:Cd:=.ret
def c40_0:Cd:=.seq (.seq (.reg false [mv 5 0,
    bc 6 .geq 5 0,
    mv 7 6,
    og 8 (.move (.t 0)) 7 true,
    og 9 (.move (.t 1)) 7 true,
    og 10 (.bin .lss (.t 8) (.t 9)) 7 true,
    o_ 11 (.pick (.t 7) (.t 10) (.c .bool false)),
    mv 4 11]) (c40_2)) (c40_1)
def innkeepref06_in.fn:Fn:=⟨2,[.tmp 4],.seq (.reg false [o_ 4 (.move (.c .bool false))]) (c40_0)⟩
def c41_2:Cd:=td [3,4,5,6,7,8]
def c41_1:Cd:=.ret
def c41_0:Cd:=.seq (.seq (.reg false [mv 3 0,
    o_ 4 (.bin .leq (.c (.int .i64) (0:Int)) (.t 3)),
    mv 5 4,
    og 6 (.move (.t 0)) 5 true,
    og 7 (.bin .leq (.t 6) (.c (.int .i64) (1073741824:Int))) 5 true,
    o_ 8 (.pick (.t 5) (.t 7) (.c .bool false)),
    mv 2 8]) (c41_2)) (c41_1)
def innkeepref01_Is.fn:Fn:=⟨1,[.tmp 2],.seq (.reg false [o_ 2 (.move (.c .bool false))]) (c41_0)⟩
def c39_2:Cd:=td [10,11,12]
def c39_5:Cd:=td [13,14,15,16,17,18,19,20,21,22,23,24,25,26,27,28,29,30,31,32,33,34,35,36,37,38,39,40,41,42,43,44,45,46,47,48,49,50,51,52,53]
def c39_7:Cd:=.ret
def c39_6:Cd:=.seq (.reg false [o_ 2 (.move (.c .bool false))]) (c39_7)
def c39_8:Cd:=.skip
def c39_4:Cd:=.cond (.t 54) (.seq (td [54]) (c39_6)) (.seq (td [54]) (c39_8))
def c39_11:Cd:=td [55,56,57,58,59,60,61,62,63,64,65,66,67,68,69]
def c39_13:Cd:=.ret
def c39_12:Cd:=.seq (.reg false [o_ 2 (.move (.c .bool false))]) (c39_13)
def c39_14:Cd:=.skip
def c39_10:Cd:=.cond (.t 70) (.seq (td [70]) (c39_12)) (.seq (td [70]) (c39_14))
def c39_21:Cd:=td [71,72]
def c39_22:Cd:=.skip
def c39_63:Cd:=.exit 0
def c39_20:Cd:=.cond (.t 73) (.seq (td [73]) (c39_22)) (.seq (td [73]) (c39_63))
def c39_30:Cd:=td [76]
def c39_31:Cd:=.skip
def c39_39:Cd:=.exit 2
def c39_29:Cd:=.cond (.t 77) (.seq (td [77]) (c39_31)) (.seq (td [77]) (c39_39))
def c39_34:Cd:=td [80,81,82,83,84,85,86,87,88,89,90,91,92,93,94,95,96,97,98]
def c39_36:Cd:=.ret
def c39_35:Cd:=.seq (.reg false [o_ 2 (.move (.c .bool false))]) (c39_36)
def c39_37:Cd:=.skip
def c39_33:Cd:=.cond (.t 99) (.seq (td [99]) (c39_35)) (.seq (td [99]) (c39_37))
def c39_38:Cd:=td [78,79]
def c39_32:Cd:=.seq (.reg false [mv 78 5,
    bc 79 .add 78 1,
    mv 5 79]) (c39_38)
def c39_28:Cd:=.seq (.block 3 (.seq (.seq (.reg false [fa 80 tDesc 0 1,
    o_ 81 (.load (.d (.sl (.arr 4 (.int .i64)))) (.t 80)),
    mv 82 4,
    mv 83 5,
    o_ 84 (.index (.sl (.arr 4 (.int .i64))) (.t 81) (.t 82)),
    o_ 85 (.index (.arr 4 (.int .i64)) (.t 84) (.t 83)),
    ld 86 (.int .i64) 85,
    o_ 87 (.bin .neq (.t 86) (.c (.int .i64) ((-1):Int))),
    mv 88 87,
    og 89 (.fieldAddr (.d tDesc) 0 (.t 1)) 88 true,
    og 90 (.load (.d (.sl (.arr 4 (.int .i64)))) (.t 89)) 88 true,
    og 91 (.move (.t 4)) 88 true,
    og 92 (.move (.t 5)) 88 true,
    og 93 (.index (.sl (.arr 4 (.int .i64))) (.t 90) (.t 91)) 88 true,
    og 94 (.index (.arr 4 (.int .i64)) (.t 93) (.t 92)) 88 true,
    og 95 (.load (.d (.int .i64)) (.t 94)) 88 true,
    og 96 (.move (.t 3)) 88 true,
    og 97 (.call (.f 40) [(.t 95),(.t 96)] [.d .bool] [] false) 88 true,
    og 98 (.not (.t 97)) 88 true,
    o_ 99 (.pick (.t 88) (.t 98) (.c .bool false))]) (c39_34)) (c39_33))) (c39_32)
def c39_27:Cd:=.tidy [] [] [] (some 1)
def c39_26:Cd:=.seq (.seq (.seq (.seq (.reg false [mv 76 5,
    bc 77 .lss 76 4]) (c39_30)) (c39_29)) (c39_28)) (c39_27)
def c39_25:Cd:=.block 2 (.loop (c39_26))
def c39_47:Cd:=td [100,101,102,103]
def c39_48:Cd:=.skip
def c39_56:Cd:=.exit 4
def c39_46:Cd:=.cond (.t 104) (.seq (td [104]) (c39_48)) (.seq (td [104]) (c39_56))
def c39_51:Cd:=td [107,108,109,110,111,112]
def c39_53:Cd:=td [114,115]
def c39_52:Cd:=.seq (.reg false [mv 114 6,
    bc 115 .add 114 1,
    mv 6 115]) (c39_53)
def c39_55:Cd:=.skip
def c39_50:Cd:=.cond (.t 113) (.seq (td [113]) (c39_52)) (.seq (td [113]) (c39_55))
def c39_54:Cd:=td [105,106]
def c39_49:Cd:=.seq (.reg false [mv 105 7,
    bc 106 .add 105 1,
    mv 7 106]) (c39_54)
def c39_45:Cd:=.seq (.block 5 (.seq (.seq (.reg false [fa 107 tDesc 3 1,
    o_ 108 (.load (.d (.sl (.int .i64))) (.t 107)),
    mv 109 7,
    ix 110 (.sl (.int .i64)) 108 109,
    ld 111 (.int .i64) 110,
    mv 112 4,
    bi 113 .eql 111 112]) (c39_51)) (c39_50))) (c39_49)
def c39_44:Cd:=.tidy [] [] [] (some 1)
def c39_43:Cd:=.seq (.seq (.seq (.seq (.reg false [mv 100 7,
    fa 101 tDesc 3 1,
    o_ 102 (.load (.d (.sl (.int .i64))) (.t 101)),
    le 103 102,
    bi 104 .lss 100 103]) (c39_47)) (c39_46)) (c39_45)) (c39_44)
def c39_42:Cd:=.block 4 (.loop (c39_43))
def c39_58:Cd:=td [116,117,118]
def c39_60:Cd:=.ret
def c39_59:Cd:=.seq (.reg false [o_ 2 (.move (.c .bool false))]) (c39_60)
def c39_61:Cd:=.skip
def c39_57:Cd:=.cond (.t 119) (.seq (td [119]) (c39_59)) (.seq (td [119]) (c39_61))
def c39_41:Cd:=.seq (.seq (.reg false [mv 116 6,
    fa 117 tDesc 5 1,
    ld 118 (.int .i64) 117,
    bi 119 .gtr 116 118]) (c39_58)) (c39_57)
def c39_40:Cd:=.seq (.seq (.reg false [ci 7 0]) (c39_42)) (c39_41)
def c39_24:Cd:=.seq (.reg false [ci 6 0]) (c39_40)
def c39_62:Cd:=td [74,75]
def c39_23:Cd:=.seq (.reg false [mv 74 4,
    bc 75 .add 74 1,
    mv 4 75]) (c39_62)
def c39_19:Cd:=.seq (.block 1 (.seq (.seq (.reg false [ci 5 0]) (c39_25)) (c39_24))) (c39_23)
def c39_18:Cd:=.tidy [5,6,7] [] [] (some 1)
def c39_17:Cd:=.seq (.seq (.seq (.seq (.reg false [mv 71 4,
    mv 72 3,
    bi 73 .lss 71 72]) (c39_21)) (c39_20)) (c39_19)) (c39_18)
def c39_16:Cd:=.block 0 (.loop (c39_17))
def c39_70:Cd:=td [120,121,122,123]
def c39_71:Cd:=.skip
def c39_79:Cd:=.exit 6
def c39_69:Cd:=.cond (.t 124) (.seq (td [124]) (c39_71)) (.seq (td [124]) (c39_79))
def c39_74:Cd:=td [127,128,129,130,131,132,133,134,135,136,137,138,139,140,141,142]
def c39_76:Cd:=.ret
def c39_75:Cd:=.seq (.reg false [o_ 2 (.move (.c .bool false))]) (c39_76)
def c39_77:Cd:=.skip
def c39_73:Cd:=.cond (.t 143) (.seq (td [143]) (c39_75)) (.seq (td [143]) (c39_77))
def c39_78:Cd:=td [125,126]
def c39_72:Cd:=.seq (.reg false [mv 125 8,
    bc 126 .add 125 1,
    mv 8 126]) (c39_78)
def c39_68:Cd:=.seq (.block 7 (.seq (.seq (.reg false [fa 127 tDesc 1 1,
    o_ 128 (.load (.d (.sl (.int .i64))) (.t 127)),
    mv 129 8,
    ix 130 (.sl (.int .i64)) 128 129,
    ld 131 (.int .i64) 130,
    mv 132 3,
    o_ 133 (.call (.f 40) [(.t 131),(.t 132)] [.d .bool] [] false),
    nt 134 133,
    mv 135 134,
    og 136 (.fieldAddr (.d tDesc) 2 (.t 1)) 135 false,
    og 137 (.load (.d (.sl (.int .i64))) (.t 136)) 135 false,
    og 138 (.move (.t 8)) 135 false,
    og 139 (.index (.sl (.int .i64)) (.t 137) (.t 138)) 135 false,
    og 140 (.load (.d (.int .i64)) (.t 139)) 135 false,
    og 141 (.call (.f 41) [(.t 140)] [.d .bool] [] false) 135 false,
    og 142 (.not (.t 141)) 135 false,
    o_ 143 (.pick (.t 135) (.c .bool true) (.t 142))]) (c39_74)) (c39_73))) (c39_72)
def c39_67:Cd:=.tidy [] [] [] (some 1)
def c39_66:Cd:=.seq (.seq (.seq (.seq (.reg false [mv 120 8,
    fa 121 tDesc 1 1,
    o_ 122 (.load (.d (.sl (.int .i64))) (.t 121)),
    le 123 122,
    bi 124 .lss 120 123]) (c39_70)) (c39_69)) (c39_68)) (c39_67)
def c39_65:Cd:=.block 6 (.loop (c39_66))
def c39_86:Cd:=td [144,145,146,147]
def c39_87:Cd:=.skip
def c39_95:Cd:=.exit 8
def c39_85:Cd:=.cond (.t 148) (.seq (td [148]) (c39_87)) (.seq (td [148]) (c39_95))
def c39_90:Cd:=td [151,152,153,154,155,156,157]
def c39_92:Cd:=.ret
def c39_91:Cd:=.seq (.reg false [o_ 2 (.move (.c .bool false))]) (c39_92)
def c39_93:Cd:=.skip
def c39_89:Cd:=.cond (.t 158) (.seq (td [158]) (c39_91)) (.seq (td [158]) (c39_93))
def c39_94:Cd:=td [149,150]
def c39_88:Cd:=.seq (.reg false [mv 149 9,
    bc 150 .add 149 1,
    mv 9 150]) (c39_94)
def c39_84:Cd:=.seq (.block 9 (.seq (.seq (.reg false [fa 151 tDesc 3 1,
    o_ 152 (.load (.d (.sl (.int .i64))) (.t 151)),
    mv 153 9,
    ix 154 (.sl (.int .i64)) 152 153,
    ld 155 (.int .i64) 154,
    mv 156 3,
    o_ 157 (.call (.f 40) [(.t 155),(.t 156)] [.d .bool] [] false),
    nt 158 157]) (c39_90)) (c39_89))) (c39_88)
def c39_83:Cd:=.tidy [] [] [] (some 1)
def c39_82:Cd:=.seq (.seq (.seq (.seq (.reg false [mv 144 9,
    fa 145 tDesc 3 1,
    o_ 146 (.load (.d (.sl (.int .i64))) (.t 145)),
    le 147 146,
    bi 148 .lss 144 147]) (c39_86)) (c39_85)) (c39_84)) (c39_83)
def c39_81:Cd:=.block 8 (.loop (c39_82))
def c39_96:Cd:=.ret
def c39_80:Cd:=.seq (.reg false [o_ 2 (.move (.c .bool true))]) (c39_96)
def c39_64:Cd:=.seq (.seq (.reg false [ci 9 0]) (c39_81)) (c39_80)
def c39_15:Cd:=.seq (.seq (.reg false [ci 8 0]) (c39_65)) (c39_64)
def c39_9:Cd:=.seq (.seq (.reg false [ci 4 0]) (c39_16)) (c39_15)
def c39_3:Cd:=.seq (.seq (.seq (.reg false [fa 55 tDesc 5 1,
    ld 56 (.int .i64) 55,
    o_ 57 (.call (.f 40) [(.t 56),(.c (.int .i64) (65:Int))] [.d .bool] [] false),
    nt 58 57,
    mv 59 58,
    og 60 (.fieldAddr (.d tDesc) 6 (.t 1)) 59 false,
    og 61 (.load (.d (.int .i64)) (.t 60)) 59 false,
    og 62 (.call (.f 40) [(.t 61),(.c (.int .i64) (65:Int))] [.d .bool] [] false) 59 false,
    og 63 (.not (.t 62)) 59 false,
    o_ 64 (.pick (.t 59) (.c .bool true) (.t 63)),
    mv 65 64,
    og 66 (.fieldAddr (.d tDesc) 7 (.t 1)) 65 false,
    og 67 (.load (.d (.int .i64)) (.t 66)) 65 false,
    og 68 (.call (.f 40) [(.t 67),(.c (.int .i64) (65:Int))] [.d .bool] [] false) 65 false,
    og 69 (.not (.t 68)) 65 false,
    o_ 70 (.pick (.t 65) (.c .bool true) (.t 69))]) (c39_11)) (c39_10)) (c39_9)
def c39_1:Cd:=.seq (.seq (.seq (.reg false [mv 13 3,
    bc 14 .lss 13 1,
    mv 15 14,
    og 16 (.move (.t 3)) 15 false,
    og 17 (.bin .gtr (.t 16) (.c (.int .i64) (8:Int))) 15 false,
    o_ 18 (.pick (.t 15) (.c .bool true) (.t 17)),
    mv 19 18,
    og 20 (.fieldAddr (.d tDesc) 1 (.t 1)) 19 false,
    og 21 (.load (.d (.sl (.int .i64))) (.t 20)) 19 false,
    og 22 (.len (.t 21)) 19 false,
    og 23 (.bin .lss (.t 22) (.c (.int .i64) (1:Int))) 19 false,
    o_ 24 (.pick (.t 19) (.c .bool true) (.t 23)),
    mv 25 24,
    og 26 (.fieldAddr (.d tDesc) 1 (.t 1)) 25 false,
    og 27 (.load (.d (.sl (.int .i64))) (.t 26)) 25 false,
    og 28 (.len (.t 27)) 25 false,
    og 29 (.bin .gtr (.t 28) (.c (.int .i64) (6:Int))) 25 false,
    o_ 30 (.pick (.t 25) (.c .bool true) (.t 29)),
    mv 31 30,
    og 32 (.fieldAddr (.d tDesc) 2 (.t 1)) 31 false,
    og 33 (.load (.d (.sl (.int .i64))) (.t 32)) 31 false,
    og 34 (.len (.t 33)) 31 false,
    og 35 (.fieldAddr (.d tDesc) 1 (.t 1)) 31 false,
    og 36 (.load (.d (.sl (.int .i64))) (.t 35)) 31 false,
    og 37 (.len (.t 36)) 31 false,
    og 38 (.bin .neq (.t 34) (.t 37)) 31 false,
    o_ 39 (.pick (.t 31) (.c .bool true) (.t 38)),
    mv 40 39,
    og 41 (.fieldAddr (.d tDesc) 3 (.t 1)) 40 false,
    og 42 (.load (.d (.sl (.int .i64))) (.t 41)) 40 false,
    og 43 (.len (.t 42)) 40 false,
    og 44 (.bin .gtr (.t 43) (.c (.int .i64) (16:Int))) 40 false,
    o_ 45 (.pick (.t 40) (.c .bool true) (.t 44)),
    mv 46 45,
    og 47 (.fieldAddr (.d tDesc) 4 (.t 1)) 46 false,
    og 48 (.load (.d (.sl .bool)) (.t 47)) 46 false,
    og 49 (.len (.t 48)) 46 false,
    og 50 (.fieldAddr (.d tDesc) 3 (.t 1)) 46 false,
    og 51 (.load (.d (.sl (.int .i64))) (.t 50)) 46 false,
    og 52 (.len (.t 51)) 46 false,
    og 53 (.bin .neq (.t 49) (.t 52)) 46 false,
    o_ 54 (.pick (.t 46) (.c .bool true) (.t 53))]) (c39_5)) (c39_4)) (c39_3)
def c39_0:Cd:=.seq (.seq (.reg false [fa 10 tDesc 0 1,
    o_ 11 (.load (.d (.sl (.arr 4 (.int .i64)))) (.t 10)),
    le 12 11,
    mv 3 12]) (c39_2)) (c39_1)
def innkeepref06_May.fn:Fn:=⟨1,[.tmp 2],.seq (.reg false [bx 1 0 0,
    o_ 2 (.move (.c .bool false))]) (c39_0)⟩
def c42_7:Cd:=td [6,7]
def c42_8:Cd:=.skip
def c42_18:Cd:=.exit 0
def c42_6:Cd:=.cond (.t 8) (.seq (td [8]) (c42_8)) (.seq (td [8]) (c42_18))
def c42_10:Cd:=td [9,10]
def c42_13:Cd:=td [11]
def c42_15:Cd:=.ret
def c42_14:Cd:=.seq (.reg false [ci 4 99]) (c42_15)
def c42_16:Cd:=.skip
def c42_12:Cd:=.cond (.t 12) (.seq (td [12]) (c42_14)) (.seq (td [12]) (c42_16))
def c42_17:Cd:=td [13,14,15,16,17,18]
def c42_11:Cd:=.seq (.reg false [fa 13 tWorld 3 2,
    ld 14 (.sl tPlace) 13,
    fa 15 tPlace 1 3,
    ld 16 (.int .i64) 15,
    ix 17 (.sl tPlace) 14 16,
    ld 18 tPlace 17,
    sr tPlace 3 18]) (c42_17)
def c42_9:Cd:=.seq (.seq (.seq (.reg false [mv 11 5,
    bc 12 .gtr 11 50]) (c42_13)) (c42_12)) (c42_11)
def c42_5:Cd:=.block 1 (.seq (.seq (.reg false [mv 9 5,
    bc 10 .add 9 1,
    mv 5 10]) (c42_10)) (c42_9))
def c42_4:Cd:=.tidy [] [] [] (some 2)
def c42_3:Cd:=.seq (.seq (.seq (.seq (.reg false [fa 6 tPlace 0 3,
    ld 7 (.int .i64) 6,
    bc 8 .eql 7 2]) (c42_7)) (c42_6)) (c42_5)) (c42_4)
def c42_20:Cd:=td [19]
def c42_19:Cd:=.ret
def c42_2:Cd:=.seq (.seq (.reg false [mv 19 5,
    mv 4 19]) (c42_20)) (c42_19)
def c42_1:Cd:=.seq (.block 0 (.loop (c42_3))) (c42_2)
def c42_0:Cd:=.seq (.reg false [ci 5 0]) (c42_1)
def innkeepref06_Depth.fn:Fn:=⟨2,[.tmp 4],.seq (.reg false [bx 2 0 0,
    bx 3 1 1,
    ci 4 0]) (c42_0)⟩
def c43_8:Cd:=td [7,8,9,10]
def c43_9:Cd:=.skip
def c43_17:Cd:=.exit 0
def c43_7:Cd:=.cond (.t 11) (.seq (td [11]) (c43_9)) (.seq (td [11]) (c43_17))
def c43_12:Cd:=td [14,15,16,17,18,19]
def c43_14:Cd:=td [21,22]
def c43_13:Cd:=.seq (.reg false [mv 21 5,
    bc 22 .add 21 1,
    mv 5 22]) (c43_14)
def c43_16:Cd:=.skip
def c43_11:Cd:=.cond (.t 20) (.seq (td [20]) (c43_13)) (.seq (td [20]) (c43_16))
def c43_15:Cd:=td [12,13]
def c43_10:Cd:=.seq (.reg false [mv 12 6,
    bc 13 .add 12 1,
    mv 6 13]) (c43_15)
def c43_6:Cd:=.seq (.block 1 (.seq (.seq (.reg true [od 14 (.fieldAddr (.d tWorld) 3 (.t 2)) [0] [],
    od 15 (.load (.d (.sl tPlace)) (.t 14)) [0] [],
    mv 16 6,
    ix 17 (.sl tPlace) 15 16,
    ld 18 tPlace 17,
    od 19 (.load (.d tPlace) (.t 3)) [1] [],
    o_ 20 (.eqs tPlace false (.t 18) (.t 19))]) (c43_12)) (c43_11))) (c43_10)
def c43_5:Cd:=.tidy [] [] [] (some 2)
def c43_4:Cd:=.seq (.seq (.seq (.seq (.reg false [mv 7 6,
    fa 8 tWorld 3 2,
    ld 9 (.sl tPlace) 8,
    le 10 9,
    bi 11 .lss 7 10]) (c43_8)) (c43_7)) (c43_6)) (c43_5)
def c43_3:Cd:=.block 0 (.loop (c43_4))
def c43_19:Cd:=td [23]
def c43_18:Cd:=.ret
def c43_2:Cd:=.seq (.seq (.reg false [mv 23 5,
    mv 4 23]) (c43_19)) (c43_18)
def c43_1:Cd:=.seq (.seq (.reg false [ci 6 0]) (c43_3)) (c43_2)
def c43_0:Cd:=.seq (.reg false [ci 5 0]) (c43_1)
def innkeepref06_Many.fn:Fn:=⟨2,[.tmp 4],.seq (.reg false [bx 2 0 0,
    bx 3 1 1,
    ci 4 0]) (c43_0)⟩
def c44_2:Cd:=td [5,6,7,8,9,10,11,12,13,14,15,16,17,18]
def c44_1:Cd:=.ret
def c44_0:Cd:=.seq (.seq (.reg false [fa 5 tWorld 0 2,
    fa 6 tDesc 5 5,
    ld 7 (.int .i64) 6,
    fa 8 tWorld 0 2,
    fa 9 tDesc 6 8,
    ld 10 (.int .i64) 9,
    fa 11 tWorld 0 2,
    fa 12 tDesc 7 11,
    ld 13 (.int .i64) 12,
    o_ 14 (.slice 2 (.int .i64) [(.t 7),(.t 10),(.t 13)]),
    fa 15 tPlace 0 3,
    ld 16 (.int .i64) 15,
    ix 17 (.sl (.int .i64)) 14 16,
    ld 18 (.int .i64) 17,
    mv 4 18]) (c44_2)) (c44_1)
def innkeepref06_Cap.fn:Fn:=⟨2,[.tmp 4],.seq (.reg false [bx 2 0 0,
    bx 3 1 1,
    ci 4 0]) (c44_0)⟩
def c18_2:Cd:=td [9,10]
def c18_5:Cd:=td [11,12,13,14,15,16,17,18,19,20,21,22,23,24,25,26,27,28,29,30,31,32,33,34,35,36,37,38,39]
def c18_7:Cd:=.ret
def c18_6:Cd:=.seq (.reg false [o_ 2 (.move (.c .bool false))]) (c18_7)
def c18_8:Cd:=.skip
def c18_4:Cd:=.cond (.t 40) (.seq (td [40]) (c18_6)) (.seq (td [40]) (c18_8))
def c18_15:Cd:=td [41,42,43,44]
def c18_16:Cd:=.skip
def c18_24:Cd:=.exit 0
def c18_14:Cd:=.cond (.t 45) (.seq (td [45]) (c18_16)) (.seq (td [45]) (c18_24))
def c18_19:Cd:=td [48,49,50,51,52,53,54,55,56,57,58,59,60,61,62,63,64,65]
def c18_21:Cd:=.ret
def c18_20:Cd:=.seq (.reg false [o_ 2 (.move (.c .bool false))]) (c18_21)
def c18_22:Cd:=.skip
def c18_18:Cd:=.cond (.t 66) (.seq (td [66]) (c18_20)) (.seq (td [66]) (c18_22))
def c18_23:Cd:=td [46,47]
def c18_17:Cd:=.seq (.reg false [mv 46 4,
    bc 47 .add 46 1,
    mv 4 47]) (c18_23)
def c18_13:Cd:=.seq (.block 1 (.seq (.seq (.reg true [od 48 (.fieldAddr (.d tWorld) 1 (.t 1)) [0] [],
    od 49 (.load (.d (.sl (.int .i64))) (.t 48)) [0] [],
    mv 50 4,
    ix 51 (.sl (.int .i64)) 49 50,
    ld 52 (.int .i64) 51,
    od 53 (.fieldAddr (.d tDesc) 0 (.t 3)) [1] [],
    od 54 (.load (.d (.sl (.arr 4 (.int .i64)))) (.t 53)) [1] [],
    le 55 54,
    o_ 56 (.call (.f 40) [(.t 52),(.t 55)] [.d .bool] [] false),
    nt 57 56,
    mv 58 57,
    ogd 59 (.fieldAddr (.d tWorld) 2 (.t 1)) 58 false [0],
    ogd 60 (.load (.d (.sl (.int .i64))) (.t 59)) 58 false [0],
    og 61 (.move (.t 4)) 58 false,
    og 62 (.index (.sl (.int .i64)) (.t 60) (.t 61)) 58 false,
    og 63 (.load (.d (.int .i64)) (.t 62)) 58 false,
    og 64 (.call (.f 41) [(.t 63)] [.d .bool] [] false) 58 false,
    og 65 (.not (.t 64)) 58 false,
    o_ 66 (.pick (.t 58) (.c .bool true) (.t 65))]) (c18_19)) (c18_18))) (c18_17)
def c18_12:Cd:=.tidy [] [] [] (some 2)
def c18_11:Cd:=.seq (.seq (.seq (.seq (.reg false [mv 41 4,
    fa 42 tWorld 1 1,
    o_ 43 (.load (.d (.sl (.int .i64))) (.t 42)),
    le 44 43,
    bi 45 .lss 41 44]) (c18_15)) (c18_14)) (c18_13)) (c18_12)
def c18_10:Cd:=.block 0 (.loop (c18_11))
def c18_31:Cd:=td [67,68,69,70]
def c18_32:Cd:=.skip
def c18_44:Cd:=.exit 2
def c18_30:Cd:=.cond (.t 71) (.seq (td [71]) (c18_32)) (.seq (td [71]) (c18_44))
def c18_35:Cd:=td [74,75,76,77,78]
def c18_37:Cd:=td [79,80,81,82,83,84,85,86,87,88,89,90,91,92,93,94,95,96,97,98,99,100,101,102,103,104,105,106,107,108,109,110,111,112,113,114,115,116,117,118,119,120,121,122,123]
def c18_39:Cd:=td [124]
def c18_43:Cd:=.ret
def c18_42:Cd:=.seq (.reg false [o_ 2 (.move (.c .bool false))]) (c18_43)
def c18_40:Cd:=.skip
def c18_38:Cd:=.cond (.t 125) (.seq (td [125]) (c18_42)) (.seq (td [125]) (c18_40))
def c18_36:Cd:=.seq (.seq (.reg false [mv 124 7,
    nt 125 124]) (c18_39)) (c18_38)
def c18_34:Cd:=.seq (.seq (.reg false [fa 79 tPlace 0 6,
    ld 80 (.int .i64) 79,
    bc 81 .eql 80 0,
    mv 82 81,
    og 83 (.fieldAddr (.d tPlace) 1 (.t 6)) 82 true,
    og 84 (.load (.d (.int .i64)) (.t 83)) 82 true,
    og 85 (.fieldAddr (.d tDesc) 0 (.t 3)) 82 true,
    og 86 (.load (.d (.sl (.arr 4 (.int .i64)))) (.t 85)) 82 true,
    og 87 (.len (.t 86)) 82 true,
    og 88 (.call (.f 40) [(.t 84),(.t 87)] [.d .bool] [] false) 82 true,
    o_ 89 (.pick (.t 82) (.t 88) (.c .bool false)),
    mv 90 89,
    og 91 (.fieldAddr (.d tPlace) 0 (.t 6)) 90 false,
    og 92 (.load (.d (.int .i64)) (.t 91)) 90 false,
    og 93 (.bin .eql (.t 92) (.c (.int .i64) (1:Int))) 90 false,
    og 94 (.move (.t 93)) 90 false,
    og 95 (.fieldAddr (.d tPlace) 1 (.t 6)) 94 true,
    og 96 (.load (.d (.int .i64)) (.t 95)) 94 true,
    og 97 (.fieldAddr (.d tDesc) 1 (.t 3)) 94 true,
    og 98 (.load (.d (.sl (.int .i64))) (.t 97)) 94 true,
    og 99 (.len (.t 98)) 94 true,
    og 100 (.call (.f 40) [(.t 96),(.t 99)] [.d .bool] [] false) 94 true,
    og 101 (.pick (.t 94) (.t 100) (.c .bool false)) 90 false,
    o_ 102 (.pick (.t 90) (.c .bool true) (.t 101)),
    mv 103 102,
    og 104 (.fieldAddr (.d tPlace) 0 (.t 6)) 103 false,
    og 105 (.load (.d (.int .i64)) (.t 104)) 103 false,
    og 106 (.bin .eql (.t 105) (.c (.int .i64) (2:Int))) 103 false,
    og 107 (.move (.t 106)) 103 false,
    og 108 (.fieldAddr (.d tPlace) 1 (.t 6)) 107 true,
    og 109 (.load (.d (.int .i64)) (.t 108)) 107 true,
    og 110 (.fieldAddr (.d tDesc) 3 (.t 3)) 107 true,
    og 111 (.load (.d (.sl (.int .i64))) (.t 110)) 107 true,
    og 112 (.len (.t 111)) 107 true,
    og 113 (.call (.f 40) [(.t 109),(.t 112)] [.d .bool] [] false) 107 true,
    og 114 (.pick (.t 107) (.t 113) (.c .bool false)) 103 false,
    og 115 (.move (.t 114)) 103 false,
    og 116 (.fieldAddr (.d tDesc) 4 (.t 3)) 115 true,
    og 117 (.load (.d (.sl .bool)) (.t 116)) 115 true,
    og 118 (.fieldAddr (.d tPlace) 1 (.t 6)) 115 true,
    og 119 (.load (.d (.int .i64)) (.t 118)) 115 true,
    og 120 (.index (.sl .bool) (.t 117) (.t 119)) 115 true,
    og 121 (.load (.d .bool) (.t 120)) 115 true,
    og 122 (.pick (.t 115) (.t 121) (.c .bool false)) 103 false,
    o_ 123 (.pick (.t 103) (.c .bool true) (.t 122)),
    mv 7 123]) (c18_37)) (c18_36)
def c18_41:Cd:=td [72,73]
def c18_33:Cd:=.seq (.reg false [mv 72 5,
    bc 73 .add 72 1,
    mv 5 73]) (c18_41)
def c18_29:Cd:=.seq (.block 3 (.seq (.seq (.reg false [fa 74 tWorld 3 1,
    ld 75 (.sl tPlace) 74,
    mv 76 5,
    ix 77 (.sl tPlace) 75 76,
    ld 78 tPlace 77,
    nb 6 2 tPlace,
    sr tPlace 6 78]) (c18_35)) (c18_34))) (c18_33)
def c18_28:Cd:=.tidy [6,7] [] [] (some 2)
def c18_27:Cd:=.seq (.seq (.seq (.seq (.reg false [mv 67 5,
    fa 68 tWorld 3 1,
    ld 69 (.sl tPlace) 68,
    le 70 69,
    bi 71 .lss 67 70]) (c18_31)) (c18_30)) (c18_29)) (c18_28)
def c18_26:Cd:=.block 2 (.loop (c18_27))
def c18_51:Cd:=td [126,127,128,129]
def c18_52:Cd:=.skip
def c18_60:Cd:=.exit 4
def c18_50:Cd:=.cond (.t 130) (.seq (td [130]) (c18_52)) (.seq (td [130]) (c18_60))
def c18_55:Cd:=td [133,134,135,136,137,138,139,140,141,142,143,144,145,146,147,148,149,150,151,152,153,154,155,156]
def c18_57:Cd:=.ret
def c18_56:Cd:=.seq (.reg false [o_ 2 (.move (.c .bool false))]) (c18_57)
def c18_58:Cd:=.skip
def c18_54:Cd:=.cond (.t 157) (.seq (td [157]) (c18_56)) (.seq (td [157]) (c18_58))
def c18_59:Cd:=td [131,132]
def c18_53:Cd:=.seq (.reg false [mv 131 8,
    bc 132 .add 131 1,
    mv 8 132]) (c18_59)
def c18_49:Cd:=.seq (.block 5 (.seq (.seq (.reg true [od 133 (.load (.d tWorld) (.t 1)) [0] [],
    od 134 (.fieldAddr (.d tWorld) 3 (.t 1)) [0] [],
    od 135 (.load (.d (.sl tPlace)) (.t 134)) [0] [],
    mv 136 8,
    ix 137 (.sl tPlace) 135 136,
    ld 138 tPlace 137,
    o_ 139 (.call (.f 42) [(.t 133),(.t 138)] [.d (.int .i64)] [] false),
    bc 140 .gtr 139 4,
    mv 141 140,
    ogd 142 (.load (.d tWorld) (.t 1)) 141 false [0],
    ogd 143 (.fieldAddr (.d tWorld) 3 (.t 1)) 141 false [0],
    ogd 144 (.load (.d (.sl tPlace)) (.t 143)) 141 false [0],
    og 145 (.move (.t 8)) 141 false,
    og 146 (.index (.sl tPlace) (.t 144) (.t 145)) 141 false,
    og 147 (.load (.d tPlace) (.t 146)) 141 false,
    og 148 (.call (.f 43) [(.t 142),(.t 147)] [.d (.int .i64)] [] false) 141 false,
    ogd 149 (.load (.d tWorld) (.t 1)) 141 false [0],
    ogd 150 (.fieldAddr (.d tWorld) 3 (.t 1)) 141 false [0],
    ogd 151 (.load (.d (.sl tPlace)) (.t 150)) 141 false [0],
    og 152 (.move (.t 8)) 141 false,
    og 153 (.index (.sl tPlace) (.t 151) (.t 152)) 141 false,
    og 154 (.load (.d tPlace) (.t 153)) 141 false,
    og 155 (.call (.f 44) [(.t 149),(.t 154)] [.d (.int .i64)] [] false) 141 false,
    og 156 (.bin .gtr (.t 148) (.t 155)) 141 false,
    o_ 157 (.pick (.t 141) (.c .bool true) (.t 156))]) (c18_55)) (c18_54))) (c18_53)
def c18_48:Cd:=.tidy [] [] [] (some 2)
def c18_47:Cd:=.seq (.seq (.seq (.seq (.reg false [mv 126 8,
    fa 127 tWorld 3 1,
    ld 128 (.sl tPlace) 127,
    le 129 128,
    bi 130 .lss 126 129]) (c18_51)) (c18_50)) (c18_49)) (c18_48)
def c18_46:Cd:=.block 4 (.loop (c18_47))
def c18_61:Cd:=.ret
def c18_45:Cd:=.seq (.reg false [o_ 2 (.move (.c .bool true))]) (c18_61)
def c18_25:Cd:=.seq (.seq (.reg false [ci 8 0]) (c18_46)) (c18_45)
def c18_9:Cd:=.seq (.seq (.reg false [ci 5 0]) (c18_26)) (c18_25)
def c18_3:Cd:=.seq (.seq (.reg false [ci 4 0]) (c18_10)) (c18_9)
def c18_1:Cd:=.seq (.seq (.seq (.reg false [ld 11 tDesc 3,
    o_ 12 (.call (.f 39) [(.t 11)] [.d .bool] [] false),
    nt 13 12,
    mv 14 13,
    og 15 (.fieldAddr (.d tWorld) 1 (.t 1)) 14 false,
    og 16 (.load (.d (.sl (.int .i64))) (.t 15)) 14 false,
    og 17 (.len (.t 16)) 14 false,
    og 18 (.fieldAddr (.d tDesc) 1 (.t 3)) 14 false,
    og 19 (.load (.d (.sl (.int .i64))) (.t 18)) 14 false,
    og 20 (.len (.t 19)) 14 false,
    og 21 (.bin .neq (.t 17) (.t 20)) 14 false,
    o_ 22 (.pick (.t 14) (.c .bool true) (.t 21)),
    mv 23 22,
    og 24 (.fieldAddr (.d tWorld) 2 (.t 1)) 23 false,
    og 25 (.load (.d (.sl (.int .i64))) (.t 24)) 23 false,
    og 26 (.len (.t 25)) 23 false,
    og 27 (.fieldAddr (.d tDesc) 1 (.t 3)) 23 false,
    og 28 (.load (.d (.sl (.int .i64))) (.t 27)) 23 false,
    og 29 (.len (.t 28)) 23 false,
    og 30 (.bin .neq (.t 26) (.t 29)) 23 false,
    o_ 31 (.pick (.t 23) (.c .bool true) (.t 30)),
    mv 32 31,
    og 33 (.fieldAddr (.d tWorld) 3 (.t 1)) 32 false,
    og 34 (.load (.d (.sl tPlace)) (.t 33)) 32 false,
    og 35 (.len (.t 34)) 32 false,
    og 36 (.fieldAddr (.d tDesc) 3 (.t 3)) 32 false,
    og 37 (.load (.d (.sl (.int .i64))) (.t 36)) 32 false,
    og 38 (.len (.t 37)) 32 false,
    og 39 (.bin .neq (.t 35) (.t 38)) 32 false,
    o_ 40 (.pick (.t 32) (.c .bool true) (.t 39))]) (c18_5)) (c18_4)) (c18_3)
def c18_0:Cd:=.seq (.seq (.reg false [fa 9 tWorld 0 1,
    ld 10 tDesc 9,
    nb 3 1 tDesc,
    sr tDesc 3 10]) (c18_2)) (c18_1)
def innkeepref06_Right.fn:Fn:=⟨1,[.tmp 2],.seq (.reg false [bx 1 0 0,
    o_ 2 (.move (.c .bool false))]) (c18_0)⟩
def c6_2:Cd:=td [3,4,5,6,7,8]
def c6_1:Cd:=.ret
def c6_0:Cd:=.seq (.seq (.reg false [ld 3 tWorld 1,
    o_ 4 (.call (.f 17) [(.t 3)] [.d .bool] [] false),
    mv 5 4,
    og 6 (.load (.d tWorld) (.t 1)) 5 true,
    og 7 (.call (.f 18) [(.t 6)] [.d .bool] [] false) 5 true,
    o_ 8 (.pick (.t 5) (.t 7) (.c .bool false)),
    mv 2 8]) (c6_2)) (c6_1)
def innkeeplaw16_fits.fn:Fn:=⟨1,[.tmp 2],.seq (.reg false [bx 1 0 0,
    o_ 2 (.move (.c .bool false))]) (c6_0)⟩
def c7_2:Cd:=td [3,4,5,6,7,8,9,10,11,12]
def c7_1:Cd:=.ret
def c7_0:Cd:=.seq (.seq (.reg false [fa 3 tCmd 5 1,
    o_ 4 (.load (.d (.sl (.int .i64))) (.t 3)),
    le 5 4,
    bc 6 .leq 5 40,
    mv 7 6,
    og 8 (.fieldAddr (.d tCmd) 7 (.t 1)) 7 true,
    og 9 (.load (.d (.sl (.int .i64))) (.t 8)) 7 true,
    og 10 (.len (.t 9)) 7 true,
    og 11 (.bin .leq (.t 10) (.c (.int .i64) (40:Int))) 7 true,
    o_ 12 (.pick (.t 7) (.t 11) (.c .bool false)),
    mv 2 12]) (c7_2)) (c7_1)
def innkeepref03_Few.fn:Fn:=⟨1,[.tmp 2],.seq (.reg false [bx 1 0 0,
    o_ 2 (.move (.c .bool false))]) (c7_0)⟩
def c19_3:Cd:=td [5]
def c19_6:Cd:=td [7,8]
def c19_5:Cd:=.ret
def c19_4:Cd:=.seq (.seq (.reg false [mv 7 0,
    bc 8 .eql 7 0,
    mv 4 8]) (c19_6)) (c19_5)
def c19_7:Cd:=.skip
def c19_2:Cd:=.cond (.t 6) (.seq (td [6]) (c19_4)) (.seq (td [6]) (c19_7))
def c19_9:Cd:=td [9,10,11,12,13,14]
def c19_8:Cd:=.ret
def c19_1:Cd:=.seq (.seq (.reg false [mv 9 0,
    bc 10 .geq 9 0,
    mv 11 10,
    og 12 (.move (.t 0)) 11 true,
    og 13 (.bin .leq (.t 12) (.c (.int .i64) (1073741824:Int))) 11 true,
    o_ 14 (.pick (.t 11) (.t 13) (.c .bool false)),
    mv 4 14]) (c19_9)) (c19_8)
def c19_0:Cd:=.seq (.seq (.seq (.reg false [mv 5 1,
    nt 6 5]) (c19_3)) (c19_2)) (c19_1)
def innkeepref03_fit.fn:Fn:=⟨2,[.tmp 4],.seq (.reg false [o_ 4 (.move (.c .bool false))]) (c19_0)⟩
def c20_3:Cd:=td [6]
def c20_6:Cd:=td [8,9,10]
def c20_5:Cd:=.ret
def c20_4:Cd:=.seq (.seq (.reg false [mv 8 0,
    le 9 8,
    bc 10 .eql 9 0,
    mv 4 10]) (c20_6)) (c20_5)
def c20_7:Cd:=.skip
def c20_2:Cd:=.cond (.t 7) (.seq (td [7]) (c20_4)) (.seq (td [7]) (c20_7))
def c20_14:Cd:=td [11,12,13]
def c20_15:Cd:=.skip
def c20_23:Cd:=.exit 0
def c20_13:Cd:=.cond (.t 14) (.seq (td [14]) (c20_15)) (.seq (td [14]) (c20_23))
def c20_18:Cd:=td [17,18,19,20,21]
def c20_20:Cd:=.ret
def c20_19:Cd:=.seq (.reg false [o_ 4 (.move (.c .bool false))]) (c20_20)
def c20_21:Cd:=.skip
def c20_17:Cd:=.cond (.t 22) (.seq (td [22]) (c20_19)) (.seq (td [22]) (c20_21))
def c20_22:Cd:=td [15,16]
def c20_16:Cd:=.seq (.reg false [mv 15 5,
    bc 16 .add 15 1,
    mv 5 16]) (c20_22)
def c20_12:Cd:=.seq (.block 1 (.seq (.seq (.reg false [mv 17 0,
    mv 18 5,
    ix 19 (.sl (.int .i64)) 17 18,
    ld 20 (.int .i64) 19,
    o_ 21 (.call (.f 19) [(.t 20),(.c .bool true)] [.d .bool] [] false),
    nt 22 21]) (c20_18)) (c20_17))) (c20_16)
def c20_11:Cd:=.tidy [] [] [] (some 0)
def c20_10:Cd:=.seq (.seq (.seq (.seq (.reg false [mv 11 5,
    mv 12 0,
    le 13 12,
    bi 14 .lss 11 13]) (c20_14)) (c20_13)) (c20_12)) (c20_11)
def c20_9:Cd:=.block 0 (.loop (c20_10))
def c20_25:Cd:=td [23,24,25]
def c20_24:Cd:=.ret
def c20_8:Cd:=.seq (.seq (.reg false [mv 23 0,
    le 24 23,
    bc 25 .leq 24 16,
    mv 4 25]) (c20_25)) (c20_24)
def c20_1:Cd:=.seq (.seq (.reg false [ci 5 0]) (c20_9)) (c20_8)
def c20_0:Cd:=.seq (.seq (.seq (.reg false [mv 6 1,
    nt 7 6]) (c20_3)) (c20_2)) (c20_1)
def innkeepref03_row.fn:Fn:=⟨2,[.tmp 4],.seq (.reg false [o_ 4 (.move (.c .bool false))]) (c20_0)⟩
def c8_2:Cd:=td [4,5]
def c8_5:Cd:=td [6,7,8,9,10,11,12,13,14,15,16,17,18,19,20,21,22,23,24,25,26,27,28,29]
def c8_7:Cd:=.ret
def c8_6:Cd:=.seq (.reg false [o_ 2 (.move (.c .bool false))]) (c8_7)
def c8_8:Cd:=.skip
def c8_4:Cd:=.cond (.t 30) (.seq (td [30]) (c8_6)) (.seq (td [30]) (c8_8))
def c8_10:Cd:=td [31,32,33,34,35,36,37,38,39,40,41,42,43,44,45,46,47,48,49,50,51,52,53,54,55,56,57,58,59,60,61,62,63,64,65,66,67,68,69,70,71,72,73,74,75,76,77,78,79,80,81,82,83,84,85,86,87,88,89,90,91,92,93]
def c8_9:Cd:=.ret
def c8_3:Cd:=.seq (.seq (.reg false [fa 31 tCmd 2 1,
    ld 32 (.int .i64) 31,
    mv 33 3,
    bc 34 .geq 33 3,
    mv 35 34,
    og 36 (.move (.t 3)) 35 true,
    og 37 (.bin .leq (.t 36) (.c (.int .i64) (7:Int))) 35 true,
    o_ 38 (.pick (.t 35) (.t 37) (.c .bool false)),
    o_ 39 (.call (.f 19) [(.t 32),(.t 38)] [.d .bool] [] false),
    mv 40 39,
    og 41 (.fieldAddr (.d tCmd) 3 (.t 1)) 40 true,
    og 42 (.load (.d (.int .i64)) (.t 41)) 40 true,
    og 43 (.move (.t 3)) 40 true,
    og 44 (.bin .eql (.t 43) (.c (.int .i64) (5:Int))) 40 true,
    og 45 (.move (.t 44)) 40 true,
    og 46 (.move (.t 3)) 45 false,
    og 47 (.bin .eql (.t 46) (.c (.int .i64) (6:Int))) 45 false,
    og 48 (.pick (.t 45) (.c .bool true) (.t 47)) 40 true,
    og 49 (.call (.f 19) [(.t 42),(.t 48)] [.d .bool] [] false) 40 true,
    o_ 50 (.pick (.t 40) (.t 49) (.c .bool false)),
    mv 51 50,
    og 52 (.fieldAddr (.d tCmd) 4 (.t 1)) 51 true,
    og 53 (.load (.d (.int .i64)) (.t 52)) 51 true,
    og 54 (.move (.t 3)) 51 true,
    og 55 (.bin .eql (.t 54) (.c (.int .i64) (2:Int))) 51 true,
    og 56 (.move (.t 55)) 51 true,
    og 57 (.move (.t 3)) 56 false,
    og 58 (.bin .eql (.t 57) (.c (.int .i64) (7:Int))) 56 false,
    og 59 (.pick (.t 56) (.c .bool true) (.t 58)) 51 true,
    og 60 (.move (.t 59)) 51 true,
    og 61 (.move (.t 3)) 60 false,
    og 62 (.bin .eql (.t 61) (.c (.int .i64) (8:Int))) 60 false,
    og 63 (.pick (.t 60) (.c .bool true) (.t 62)) 51 true,
    og 64 (.call (.f 19) [(.t 53),(.t 63)] [.d .bool] [] false) 51 true,
    o_ 65 (.pick (.t 51) (.t 64) (.c .bool false)),
    mv 66 65,
    og 67 (.fieldAddr (.d tCmd) 6 (.t 1)) 66 true,
    og 68 (.load (.d (.int .i64)) (.t 67)) 66 true,
    og 69 (.move (.t 3)) 66 true,
    og 70 (.bin .eql (.t 69) (.c (.int .i64) (8:Int))) 66 true,
    og 71 (.call (.f 19) [(.t 68),(.t 70)] [.d .bool] [] false) 66 true,
    o_ 72 (.pick (.t 66) (.t 71) (.c .bool false)),
    mv 73 72,
    og 74 (.fieldAddr (.d tCmd) 8 (.t 1)) 73 true,
    og 75 (.load (.d (.int .i64)) (.t 74)) 73 true,
    og 76 (.move (.t 3)) 73 true,
    og 77 (.bin .eql (.t 76) (.c (.int .i64) (8:Int))) 73 true,
    og 78 (.call (.f 19) [(.t 75),(.t 77)] [.d .bool] [] false) 73 true,
    o_ 79 (.pick (.t 73) (.t 78) (.c .bool false)),
    mv 80 79,
    og 81 (.fieldAddr (.d tCmd) 5 (.t 1)) 80 true,
    og 82 (.load (.d (.sl (.int .i64))) (.t 81)) 80 true,
    og 83 (.move (.t 3)) 80 true,
    og 84 (.bin .eql (.t 83) (.c (.int .i64) (8:Int))) 80 true,
    og 85 (.call (.f 20) [(.t 82),(.t 84)] [.d .bool] [] false) 80 true,
    o_ 86 (.pick (.t 80) (.t 85) (.c .bool false)),
    mv 87 86,
    og 88 (.fieldAddr (.d tCmd) 7 (.t 1)) 87 true,
    og 89 (.load (.d (.sl (.int .i64))) (.t 88)) 87 true,
    og 90 (.move (.t 3)) 87 true,
    og 91 (.bin .eql (.t 90) (.c (.int .i64) (8:Int))) 87 true,
    og 92 (.call (.f 20) [(.t 89),(.t 91)] [.d .bool] [] false) 87 true,
    o_ 93 (.pick (.t 87) (.t 92) (.c .bool false)),
    mv 2 93]) (c8_10)) (c8_9)
def c8_1:Cd:=.seq (.seq (.seq (.reg false [mv 6 3,
    bc 7 .lss 6 1,
    mv 8 7,
    og 9 (.move (.t 3)) 8 false,
    og 10 (.bin .gtr (.t 9) (.c (.int .i64) (10:Int))) 8 false,
    o_ 11 (.pick (.t 8) (.c .bool true) (.t 10)),
    mv 12 11,
    og 13 (.fieldAddr (.d tCmd) 1 (.t 1)) 12 false,
    og 14 (.load (.d (.int .i64)) (.t 13)) 12 false,
    og 15 (.bin .lss (.t 14) (.c (.int .i64) (0:Int))) 12 false,
    o_ 16 (.pick (.t 12) (.c .bool true) (.t 15)),
    mv 17 16,
    og 18 (.fieldAddr (.d tCmd) 1 (.t 1)) 17 false,
    og 19 (.load (.d (.int .i64)) (.t 18)) 17 false,
    og 20 (.bin .gtr (.t 19) (.c (.int .i64) (3:Int))) 17 false,
    o_ 21 (.pick (.t 17) (.c .bool true) (.t 20)),
    mv 22 21,
    og 23 (.fieldAddr (.d tCmd) 1 (.t 1)) 22 false,
    og 24 (.load (.d (.int .i64)) (.t 23)) 22 false,
    og 25 (.bin .neq (.t 24) (.c (.int .i64) (0:Int))) 22 false,
    og 26 (.move (.t 25)) 22 false,
    og 27 (.move (.t 3)) 26 true,
    og 28 (.bin .gtr (.t 27) (.c (.int .i64) (2:Int))) 26 true,
    og 29 (.pick (.t 26) (.t 28) (.c .bool false)) 22 false,
    o_ 30 (.pick (.t 22) (.c .bool true) (.t 29))]) (c8_5)) (c8_4)) (c8_3)
def c8_0:Cd:=.seq (.seq (.reg false [fa 4 tCmd 0 1,
    ld 5 (.int .i64) 4,
    mv 3 5]) (c8_2)) (c8_1)
def innkeepref03_May.fn:Fn:=⟨1,[.tmp 2],.seq (.reg false [bx 1 0 0,
    o_ 2 (.move (.c .bool false))]) (c8_0)⟩
def c45_2:Cd:=td [11,12,13,14,15,16,17,18,19,20,21,22]
def c45_5:Cd:=td [23]
def c45_8:Cd:=td [25]
def c45_7:Cd:=.ret
def c45_6:Cd:=.seq (.seq (.reg false [ld 25 tWorld 3,
    sr tWorld 6 25,
    ci 7 0,
    ci 8 4]) (c45_8)) (c45_7)
def c45_9:Cd:=.skip
def c45_4:Cd:=.cond (.t 24) (.seq (td [24]) (c45_6)) (.seq (td [24]) (c45_9))
def c45_11:Cd:=td [26,27]
def c45_13:Cd:=td [28,29,30,31,32]
def c45_15:Cd:=td [33,34]
def c45_14:Cd:=.ret
def c45_12:Cd:=.seq (.seq (.reg false [ld 33 tWorld 10,
    mv 34 9,
    sr tWorld 6 33,
    mv 7 34,
    ci 8 0]) (c45_15)) (c45_14)
def c45_10:Cd:=.seq (.seq (.reg false [fa 28 tWorld 1 10,
    o_ 29 (.load (.d (.sl (.int .i64))) (.t 28)),
    mv 30 1,
    mv 31 9,
    ix 32 (.sl (.int .i64)) 29 30,
    sr (.int .i64) 32 31]) (c45_13)) (c45_12)
def c45_3:Cd:=.seq (.seq (.reg false [ld 26 tWorld 3,
    o_ 27 (.call (.f 16) [(.t 26)] [.d tWorld] [((0,[1]),3)] false),
    nb 10 2 tWorld,
    sr tWorld 10 27]) (c45_11)) (c45_10)
def c45_1:Cd:=.seq (.seq (.seq (.reg false [mv 23 9,
    o_ 24 (.bin .eql (.t 23) (.c (.int .i64) ((-1):Int)))]) (c45_5)) (c45_4)) (c45_3)
def c45_0:Cd:=.seq (.seq (.reg true [od 11 (.fieldAddr (.d tWorld) 0 (.t 3)) [0] [],
    od 12 (.fieldAddr (.d tDesc) 0 (.t 11)) [0] [],
    od 13 (.load (.d (.sl (.arr 4 (.int .i64)))) (.t 12)) [0] [],
    od 14 (.fieldAddr (.d tWorld) 1 (.t 3)) [0] [],
    od 15 (.load (.d (.sl (.int .i64))) (.t 14)) [0] [],
    mv 16 1,
    ix 17 (.sl (.int .i64)) 15 16,
    ld 18 (.int .i64) 17,
    mv 19 2,
    o_ 20 (.index (.sl (.arr 4 (.int .i64))) (.t 13) (.t 18)),
    o_ 21 (.index (.arr 4 (.int .i64)) (.t 20) (.t 19)),
    ld 22 (.int .i64) 21,
    mv 9 22]) (c45_2)) (c45_1)
def innkeepref08_pass.fn:Fn:=⟨3,[.cell 6 (.d tWorld),.tmp 7,.tmp 8],.seq (.reg false [bx 3 0 0,
    nb 6 1 tWorld,
    ci 7 0,
    ci 8 0]) (c45_0)⟩
def c21_2:Cd:=td [9,10,11,12,13,14,15]
def c21_1:Cd:=.ret
def c21_0:Cd:=.seq (.seq (.reg false [ld 9 tWorld 3,
    mv 10 1,
    mv 11 2,
    o_ 12 (.call (.f 45) [(.t 9),(.t 10),(.t 11)] [.d tWorld,.d (.int .i64),.d (.int .i64)] [] false),
    xt 13 12 0,
    xt 14 12 1,
    xt 15 12 2,
    sr tWorld 6 13,
    mv 7 14,
    mv 8 15]) (c21_2)) (c21_1)
def innkeepref08_Move.fn:Fn:=⟨3,[.cell 6 (.d tWorld),.tmp 7,.tmp 8],.seq (.reg false [bx 3 0 0,
    nb 6 1 tWorld,
    ci 7 0,
    ci 8 0]) (c21_0)⟩
def c22_3:Cd:=td [11,12,13,14,15,16,17,18]
def c22_6:Cd:=td [20]
def c22_5:Cd:=.ret
def c22_4:Cd:=.seq (.seq (.reg false [ld 20 tWorld 4,
    sr tWorld 8 20,
    ci 9 0,
    ci 10 3]) (c22_6)) (c22_5)
def c22_7:Cd:=.skip
def c22_2:Cd:=.cond (.t 19) (.seq (td [19]) (c22_4)) (.seq (td [19]) (c22_7))
def c22_10:Cd:=td [21,22]
def c22_13:Cd:=td [24]
def c22_12:Cd:=.ret
def c22_11:Cd:=.seq (.seq (.reg false [ld 24 tWorld 4,
    sr tWorld 8 24,
    ci 9 0,
    ci 10 12]) (c22_13)) (c22_12)
def c22_14:Cd:=.skip
def c22_9:Cd:=.cond (.t 23) (.seq (td [23]) (c22_11)) (.seq (td [23]) (c22_14))
def c22_17:Cd:=td [25,26,27,28,29,30,31,32,33,34]
def c22_20:Cd:=td [36]
def c22_19:Cd:=.ret
def c22_18:Cd:=.seq (.seq (.reg false [ld 36 tWorld 4,
    sr tWorld 8 36,
    ci 9 0,
    ci 10 5]) (c22_20)) (c22_19)
def c22_21:Cd:=.skip
def c22_16:Cd:=.cond (.t 35) (.seq (td [35]) (c22_18)) (.seq (td [35]) (c22_21))
def c22_23:Cd:=td [37,38,39,40,41,42,43]
def c22_22:Cd:=.ret
def c22_15:Cd:=.seq (.seq (.reg false [ld 37 tWorld 4,
    mv 38 2,
    mv 39 3,
    o_ 40 (.call (.f 45) [(.t 37),(.t 38),(.t 39)] [.d tWorld,.d (.int .i64),.d (.int .i64)] [] false),
    xt 41 40 0,
    xt 42 40 1,
    xt 43 40 2,
    sr tWorld 8 41,
    mv 9 42,
    mv 10 43]) (c22_23)) (c22_22)
def c22_8:Cd:=.seq (.seq (.seq (.reg true [od 25 (.fieldAddr (.d tWorld) 1 (.t 4)) [0] [],
    od 26 (.load (.d (.sl (.int .i64))) (.t 25)) [0] [],
    mv 27 1,
    ix 28 (.sl (.int .i64)) 26 27,
    ld 29 (.int .i64) 28,
    od 30 (.fieldAddr (.d tWorld) 1 (.t 4)) [0] [],
    od 31 (.load (.d (.sl (.int .i64))) (.t 30)) [0] [],
    mv 32 2,
    ix 33 (.sl (.int .i64)) 31 32,
    ld 34 (.int .i64) 33,
    bi 35 .neq 29 34]) (c22_17)) (c22_16)) (c22_15)
def c22_1:Cd:=.seq (.seq (.seq (.reg false [mv 21 2,
    mv 22 1,
    bi 23 .eql 21 22]) (c22_10)) (c22_9)) (c22_8)
def c22_0:Cd:=.seq (.seq (.seq (.reg false [mv 11 2,
    bc 12 .lss 11 0,
    mv 13 12,
    og 14 (.move (.t 2)) 13 false,
    og 15 (.fieldAddr (.d tWorld) 1 (.t 4)) 13 false,
    og 16 (.load (.d (.sl (.int .i64))) (.t 15)) 13 false,
    og 17 (.len (.t 16)) 13 false,
    og 18 (.bin .geq (.t 14) (.t 17)) 13 false,
    o_ 19 (.pick (.t 13) (.c .bool true) (.t 18))]) (c22_3)) (c22_2)) (c22_1)
def innkeepref08_Push.fn:Fn:=⟨4,[.cell 8 (.d tWorld),.tmp 9,.tmp 10],.seq (.reg false [bx 4 0 0,
    nb 8 1 tWorld,
    ci 9 0,
    ci 10 0]) (c22_0)⟩
def c46_2:Cd:=td [5,6,7,8,9,10,11]
def c46_1:Cd:=.ret
def c46_0:Cd:=.seq (.seq (.reg true [od 5 (.load (.d tWorld) (.t 2)) [0] [],
    od 6 (.load (.d tPlace) (.t 3)) [1] [],
    o_ 7 (.call (.f 44) [(.t 5),(.t 6)] [.d (.int .i64)] [] false),
    od 8 (.load (.d tWorld) (.t 2)) [0] [],
    od 9 (.load (.d tPlace) (.t 3)) [1] [],
    o_ 10 (.call (.f 43) [(.t 8),(.t 9)] [.d (.int .i64)] [] false),
    bi 11 .sub 7 10,
    mv 4 11]) (c46_2)) (c46_1)
def innkeepref07_Room.fn:Fn:=⟨2,[.tmp 4],.seq (.reg false [bx 2 0 0,
    bx 3 1 1,
    ci 4 0]) (c46_0)⟩
def c47_2:Cd:=td [8,9]
def c47_4:Cd:=td [10,11,12,13,14]
def c47_6:Cd:=td [15]
def c47_5:Cd:=.ret
def c47_3:Cd:=.seq (.seq (.reg false [ld 15 tWorld 7,
    sr tWorld 6 15]) (c47_6)) (c47_5)
def c47_1:Cd:=.seq (.seq (.reg false [fa 10 tWorld 3 7,
    ld 11 (.sl tPlace) 10,
    mv 12 1,
    ld 13 tPlace 5,
    ix 14 (.sl tPlace) 11 12,
    sr tPlace 14 13]) (c47_4)) (c47_3)
def c47_0:Cd:=.seq (.seq (.reg false [ld 8 tWorld 3,
    o_ 9 (.call (.f 16) [(.t 8)] [.d tWorld] [((0,[3]),4)] false),
    nb 7 3 tWorld,
    sr tWorld 7 9]) (c47_2)) (c47_1)
def innkeepref09_To.fn:Fn:=⟨3,[.cell 6 (.d tWorld)],.seq (.reg false [bx 3 0 0,
    bx 5 1 2,
    nb 6 2 tWorld]) (c47_0)⟩
def c23_3:Cd:=td [8,9,10,11,12,13,14,15]
def c23_6:Cd:=td [17]
def c23_5:Cd:=.ret
def c23_4:Cd:=.seq (.seq (.reg false [ld 17 tWorld 3,
    sr tWorld 6 17,
    ci 7 3]) (c23_6)) (c23_5)
def c23_7:Cd:=.skip
def c23_2:Cd:=.cond (.t 16) (.seq (td [16]) (c23_4)) (.seq (td [16]) (c23_7))
def c23_10:Cd:=td [18,19,20,21,22,23,24,25,26,27,28]
def c23_13:Cd:=td [30]
def c23_12:Cd:=.ret
def c23_11:Cd:=.seq (.seq (.reg false [ld 30 tWorld 3,
    sr tWorld 6 30,
    ci 7 5]) (c23_13)) (c23_12)
def c23_14:Cd:=.skip
def c23_9:Cd:=.cond (.t 29) (.seq (td [29]) (c23_11)) (.seq (td [29]) (c23_14))
def c23_17:Cd:=td [31,32,33,34]
def c23_20:Cd:=td [36]
def c23_19:Cd:=.ret
def c23_18:Cd:=.seq (.seq (.reg false [ld 36 tWorld 3,
    sr tWorld 6 36,
    ci 7 9]) (c23_20)) (c23_19)
def c23_21:Cd:=.skip
def c23_16:Cd:=.cond (.t 35) (.seq (td [35]) (c23_18)) (.seq (td [35]) (c23_21))
def c23_23:Cd:=td [37,38,39,40,41]
def c23_22:Cd:=.ret
def c23_15:Cd:=.seq (.seq (.reg false [ld 37 tWorld 3,
    mv 38 2,
    mv 39 1,
    o_ 40 (.build tPlace [(0,(.c (.int .i64) (1:Int))),(1,(.t 39))] []),
    o_ 41 (.call (.f 47) [(.t 37),(.t 38),(.t 40)] [.d tWorld] [] false),
    sr tWorld 6 41,
    ci 7 0]) (c23_23)) (c23_22)
def c23_8:Cd:=.seq (.seq (.seq (.reg false [ld 31 tWorld 3,
    mv 32 1,
    o_ 33 (.build tPlace [(0,(.c (.int .i64) (1:Int))),(1,(.t 32))] []),
    o_ 34 (.call (.f 46) [(.t 31),(.t 33)] [.d (.int .i64)] [] false),
    bc 35 .eql 34 0]) (c23_17)) (c23_16)) (c23_15)
def c23_1:Cd:=.seq (.seq (.seq (.reg true [od 18 (.fieldAddr (.d tWorld) 3 (.t 3)) [0] [],
    od 19 (.load (.d (.sl tPlace)) (.t 18)) [0] [],
    mv 20 2,
    ix 21 (.sl tPlace) 19 20,
    ld 22 tPlace 21,
    od 23 (.fieldAddr (.d tWorld) 1 (.t 3)) [0] [],
    od 24 (.load (.d (.sl (.int .i64))) (.t 23)) [0] [],
    mv 25 1,
    ix 26 (.sl (.int .i64)) 24 25,
    ld 27 (.int .i64) 26,
    o_ 28 (.build tPlace [(0,(.c (.int .i64) (0:Int))),(1,(.t 27))] []),
    o_ 29 (.eqs tPlace true (.t 22) (.t 28))]) (c23_10)) (c23_9)) (c23_8)
def c23_0:Cd:=.seq (.seq (.seq (.reg false [mv 8 2,
    bc 9 .lss 8 0,
    mv 10 9,
    og 11 (.move (.t 2)) 10 false,
    og 12 (.fieldAddr (.d tWorld) 3 (.t 3)) 10 false,
    og 13 (.load (.d (.sl tPlace)) (.t 12)) 10 false,
    og 14 (.len (.t 13)) 10 false,
    og 15 (.bin .geq (.t 11) (.t 14)) 10 false,
    o_ 16 (.pick (.t 10) (.c .bool true) (.t 15))]) (c23_3)) (c23_2)) (c23_1)
def innkeepref09_Get.fn:Fn:=⟨3,[.cell 6 (.d tWorld),.tmp 7],.seq (.reg false [bx 3 0 0,
    nb 6 1 tWorld,
    ci 7 0]) (c23_0)⟩
def c24_3:Cd:=td [8,9,10,11,12,13,14,15]
def c24_6:Cd:=td [17]
def c24_5:Cd:=.ret
def c24_4:Cd:=.seq (.seq (.reg false [ld 17 tWorld 3,
    sr tWorld 6 17,
    ci 7 3]) (c24_6)) (c24_5)
def c24_7:Cd:=.skip
def c24_2:Cd:=.cond (.t 16) (.seq (td [16]) (c24_4)) (.seq (td [16]) (c24_7))
def c24_10:Cd:=td [18,19,20,21,22,23,24]
def c24_13:Cd:=td [26]
def c24_12:Cd:=.ret
def c24_11:Cd:=.seq (.seq (.reg false [ld 26 tWorld 3,
    sr tWorld 6 26,
    ci 7 5]) (c24_13)) (c24_12)
def c24_14:Cd:=.skip
def c24_9:Cd:=.cond (.t 25) (.seq (td [25]) (c24_11)) (.seq (td [25]) (c24_14))
def c24_17:Cd:=td [27,28,29,30,31,32,33,34]
def c24_20:Cd:=td [36]
def c24_19:Cd:=.ret
def c24_18:Cd:=.seq (.seq (.reg false [ld 36 tWorld 3,
    sr tWorld 6 36,
    ci 7 9]) (c24_20)) (c24_19)
def c24_21:Cd:=.skip
def c24_16:Cd:=.cond (.t 35) (.seq (td [35]) (c24_18)) (.seq (td [35]) (c24_21))
def c24_23:Cd:=td [37,38,39,40,41,42,43,44,45]
def c24_22:Cd:=.ret
def c24_15:Cd:=.seq (.seq (.reg true [od 37 (.load (.d tWorld) (.t 3)) [0] [],
    mv 38 2,
    od 39 (.fieldAddr (.d tWorld) 1 (.t 3)) [0] [],
    od 40 (.load (.d (.sl (.int .i64))) (.t 39)) [0] [],
    mv 41 1,
    ix 42 (.sl (.int .i64)) 40 41,
    ld 43 (.int .i64) 42,
    o_ 44 (.build tPlace [(0,(.c (.int .i64) (0:Int))),(1,(.t 43))] []),
    o_ 45 (.call (.f 47) [(.t 37),(.t 38),(.t 44)] [.d tWorld] [] false),
    ⟨none,.store (.d tWorld) (.t 6) (.t 45),none,[],[1]⟩,
    ci 7 0]) (c24_23)) (c24_22)
def c24_8:Cd:=.seq (.seq (.seq (.reg true [od 27 (.load (.d tWorld) (.t 3)) [0] [],
    od 28 (.fieldAddr (.d tWorld) 1 (.t 3)) [0] [],
    od 29 (.load (.d (.sl (.int .i64))) (.t 28)) [0] [],
    mv 30 1,
    ix 31 (.sl (.int .i64)) 29 30,
    ld 32 (.int .i64) 31,
    o_ 33 (.build tPlace [(0,(.c (.int .i64) (0:Int))),(1,(.t 32))] []),
    o_ 34 (.call (.f 46) [(.t 27),(.t 33)] [.d (.int .i64)] [] false),
    bc 35 .eql 34 0]) (c24_17)) (c24_16)) (c24_15)
def c24_1:Cd:=.seq (.seq (.seq (.reg false [fa 18 tWorld 3 3,
    ld 19 (.sl tPlace) 18,
    mv 20 2,
    ix 21 (.sl tPlace) 19 20,
    ld 22 tPlace 21,
    mv 23 1,
    o_ 24 (.build tPlace [(0,(.c (.int .i64) (1:Int))),(1,(.t 23))] []),
    o_ 25 (.eqs tPlace true (.t 22) (.t 24))]) (c24_10)) (c24_9)) (c24_8)
def c24_0:Cd:=.seq (.seq (.seq (.reg false [mv 8 2,
    bc 9 .lss 8 0,
    mv 10 9,
    og 11 (.move (.t 2)) 10 false,
    og 12 (.fieldAddr (.d tWorld) 3 (.t 3)) 10 false,
    og 13 (.load (.d (.sl tPlace)) (.t 12)) 10 false,
    og 14 (.len (.t 13)) 10 false,
    og 15 (.bin .geq (.t 11) (.t 14)) 10 false,
    o_ 16 (.pick (.t 10) (.c .bool true) (.t 15))]) (c24_3)) (c24_2)) (c24_1)
def innkeepref09_Drop.fn:Fn:=⟨3,[.cell 6 (.d tWorld),.tmp 7],.seq (.reg false [bx 3 0 0,
    nb 6 1 tWorld,
    ci 7 0]) (c24_0)⟩
def c48_2:Cd:=td [5,6,7,8,9,10,11,12,13]
def c48_1:Cd:=.ret
def c48_0:Cd:=.seq (.seq (.reg false [mv 5 1,
    bc 6 .geq 5 0,
    mv 7 6,
    og 8 (.move (.t 1)) 7 true,
    og 9 (.fieldAddr (.d tWorld) 3 (.t 2)) 7 true,
    og 10 (.load (.d (.sl tPlace)) (.t 9)) 7 true,
    og 11 (.len (.t 10)) 7 true,
    og 12 (.bin .lss (.t 8) (.t 11)) 7 true,
    o_ 13 (.pick (.t 7) (.t 12) (.c .bool false)),
    mv 4 13]) (c48_2)) (c48_1)
def innkeepref10_is.fn:Fn:=⟨2,[.tmp 4],.seq (.reg false [bx 2 0 0,
    o_ 4 (.move (.c .bool false))]) (c48_0)⟩
def c38_2:Cd:=td [6,7,8,9,10]
def c38_5:Cd:=td [11,12]
def c38_8:Cd:=td [14]
def c38_7:Cd:=.ret
def c38_6:Cd:=.seq (.seq (.reg false [ld 14 tPlace 5,
    sr tPlace 4 14]) (c38_8)) (c38_7)
def c38_9:Cd:=.skip
def c38_4:Cd:=.cond (.t 13) (.seq (td [13]) (c38_6)) (.seq (td [13]) (c38_9))
def c38_11:Cd:=td [15,16,17,18]
def c38_10:Cd:=.ret
def c38_3:Cd:=.seq (.seq (.reg false [ld 15 tWorld 2,
    fa 16 tPlace 1 5,
    ld 17 (.int .i64) 16,
    o_ 18 (.call (.f 38) [(.t 15),(.t 17)] [.d tPlace] [] false),
    sr tPlace 4 18]) (c38_11)) (c38_10)
def c38_1:Cd:=.seq (.seq (.seq (.reg false [fa 11 tPlace 0 5,
    ld 12 (.int .i64) 11,
    bc 13 .neq 12 2]) (c38_5)) (c38_4)) (c38_3)
def c38_0:Cd:=.seq (.seq (.reg false [fa 6 tWorld 3 2,
    ld 7 (.sl tPlace) 6,
    mv 8 1,
    ix 9 (.sl tPlace) 7 8,
    ld 10 tPlace 9,
    nb 5 2 tPlace,
    sr tPlace 5 10]) (c38_2)) (c38_1)
def innkeepref07_Root.fn:Fn:=⟨2,[.cell 4 (.d tPlace)],.seq (.reg false [bx 2 0 0,
    nb 4 1 tPlace]) (c38_0)⟩
def c49_2:Cd:=td [8,9,10]
def c49_4:Cd:=td [11,12,13,14,15,16,17,18,19,20,21,22,23,24,25,26,27,28,29,30,31,32,33,34]
def c49_3:Cd:=.ret
def c49_1:Cd:=.seq (.seq (.reg true [od 11 (.fieldAddr (.d tPlace) 0 (.t 7)) [1] [],
    od 12 (.load (.d (.int .i64)) (.t 11)) [1] [],
    bc 13 .eql 12 0,
    mv 14 13,
    ogd 15 (.fieldAddr (.d tPlace) 1 (.t 7)) 14 true [1],
    ogd 16 (.load (.d (.int .i64)) (.t 15)) 14 true [1],
    ogd 17 (.fieldAddr (.d tWorld) 1 (.t 3)) 14 true [0],
    ogd 18 (.load (.d (.sl (.int .i64))) (.t 17)) 14 true [0],
    og 19 (.move (.t 1)) 14 true,
    og 20 (.index (.sl (.int .i64)) (.t 18) (.t 19)) 14 true,
    og 21 (.load (.d (.int .i64)) (.t 20)) 14 true,
    og 22 (.bin .eql (.t 16) (.t 21)) 14 true,
    o_ 23 (.pick (.t 14) (.t 22) (.c .bool false)),
    mv 24 23,
    ogd 25 (.fieldAddr (.d tPlace) 0 (.t 7)) 24 false [1],
    ogd 26 (.load (.d (.int .i64)) (.t 25)) 24 false [1],
    og 27 (.bin .eql (.t 26) (.c (.int .i64) (1:Int))) 24 false,
    og 28 (.move (.t 27)) 24 false,
    ogd 29 (.fieldAddr (.d tPlace) 1 (.t 7)) 28 true [1],
    ogd 30 (.load (.d (.int .i64)) (.t 29)) 28 true [1],
    og 31 (.move (.t 1)) 28 true,
    og 32 (.bin .eql (.t 30) (.t 31)) 28 true,
    og 33 (.pick (.t 28) (.t 32) (.c .bool false)) 24 false,
    o_ 34 (.pick (.t 24) (.c .bool true) (.t 33)),
    mv 6 34]) (c49_4)) (c49_3)
def c49_0:Cd:=.seq (.seq (.reg false [ld 8 tWorld 3,
    mv 9 2,
    o_ 10 (.call (.f 38) [(.t 8),(.t 9)] [.d tPlace] [] false),
    nb 7 1 tPlace,
    sr tPlace 7 10]) (c49_2)) (c49_1)
def innkeepref10_Near.fn:Fn:=⟨3,[.tmp 6],.seq (.reg false [bx 3 0 0,
    o_ 6 (.move (.c .bool false))]) (c49_0)⟩
def c50_3:Cd:=td [8,9]
def c50_5:Cd:=.ret
def c50_4:Cd:=.seq (.reg false [o_ 6 (.move (.c .bool true))]) (c50_5)
def c50_6:Cd:=.skip
def c50_2:Cd:=.cond (.t 10) (.seq (td [10]) (c50_4)) (.seq (td [10]) (c50_6))
def c50_8:Cd:=td [11,12,13,14,15]
def c50_10:Cd:=td [16,17,18,19,20,21,22,23,24,25]
def c50_9:Cd:=.ret
def c50_7:Cd:=.seq (.seq (.reg false [fa 16 tPlace 0 7,
    ld 17 (.int .i64) 16,
    bc 18 .eql 17 2,
    mv 19 18,
    og 20 (.load (.d tWorld) (.t 3)) 19 true,
    og 21 (.fieldAddr (.d tPlace) 1 (.t 7)) 19 true,
    og 22 (.load (.d (.int .i64)) (.t 21)) 19 true,
    og 23 (.move (.t 2)) 19 true,
    og 24 (.call (.f 50) [(.t 20),(.t 22),(.t 23)] [.d .bool] [] false) 19 true,
    o_ 25 (.pick (.t 19) (.t 24) (.c .bool false)),
    mv 6 25]) (c50_10)) (c50_9)
def c50_1:Cd:=.seq (.seq (.reg false [fa 11 tWorld 3 3,
    ld 12 (.sl tPlace) 11,
    mv 13 1,
    ix 14 (.sl tPlace) 12 13,
    ld 15 tPlace 14,
    nb 7 1 tPlace,
    sr tPlace 7 15]) (c50_8)) (c50_7)
def c50_0:Cd:=.seq (.seq (.seq (.reg false [mv 8 1,
    mv 9 2,
    bi 10 .eql 8 9]) (c50_3)) (c50_2)) (c50_1)
def innkeepref07_Within.fn:Fn:=⟨3,[.tmp 6],.seq (.reg false [bx 3 0 0,
    o_ 6 (.move (.c .bool false))]) (c50_0)⟩
def c25_3:Cd:=td [12,13,14,15,16,17,18,19,20]
def c25_6:Cd:=td [22]
def c25_5:Cd:=.ret
def c25_4:Cd:=.seq (.seq (.reg false [ld 22 tWorld 4,
    sr tWorld 8 22,
    ci 9 3]) (c25_6)) (c25_5)
def c25_7:Cd:=.skip
def c25_2:Cd:=.cond (.t 21) (.seq (td [21]) (c25_4)) (.seq (td [21]) (c25_7))
def c25_10:Cd:=td [23,24,25,26,27,28,29,30,31,32,33,34,35,36]
def c25_13:Cd:=td [38]
def c25_12:Cd:=.ret
def c25_11:Cd:=.seq (.seq (.reg false [ld 38 tWorld 4,
    sr tWorld 8 38,
    ci 9 5]) (c25_13)) (c25_12)
def c25_14:Cd:=.skip
def c25_9:Cd:=.cond (.t 37) (.seq (td [37]) (c25_11)) (.seq (td [37]) (c25_14))
def c25_17:Cd:=td [39,40,41,42,43,44]
def c25_20:Cd:=td [46]
def c25_19:Cd:=.ret
def c25_18:Cd:=.seq (.seq (.reg false [ld 46 tWorld 4,
    sr tWorld 8 46,
    ci 9 6]) (c25_20)) (c25_19)
def c25_21:Cd:=.skip
def c25_16:Cd:=.cond (.t 45) (.seq (td [45]) (c25_18)) (.seq (td [45]) (c25_21))
def c25_24:Cd:=td [47,48,49]
def c25_27:Cd:=td [51]
def c25_26:Cd:=.ret
def c25_25:Cd:=.seq (.seq (.reg false [ld 51 tWorld 4,
    sr tWorld 8 51,
    ci 9 7]) (c25_27)) (c25_26)
def c25_28:Cd:=.skip
def c25_23:Cd:=.cond (.t 50) (.seq (td [50]) (c25_25)) (.seq (td [50]) (c25_28))
def c25_30:Cd:=td [52,53,54,55,56]
def c25_37:Cd:=td [57,58,59,60]
def c25_38:Cd:=.skip
def c25_47:Cd:=.exit 0
def c25_36:Cd:=.cond (.t 61) (.seq (td [61]) (c25_38)) (.seq (td [61]) (c25_47))
def c25_41:Cd:=td [64,65,66,67,68,69,70]
def c25_44:Cd:=td [72]
def c25_43:Cd:=.ret
def c25_42:Cd:=.seq (.seq (.reg false [ld 72 tWorld 4,
    sr tWorld 8 72,
    ci 9 8]) (c25_44)) (c25_43)
def c25_45:Cd:=.skip
def c25_40:Cd:=.cond (.t 71) (.seq (td [71]) (c25_42)) (.seq (td [71]) (c25_45))
def c25_46:Cd:=td [62,63]
def c25_39:Cd:=.seq (.reg false [mv 62 11,
    bc 63 .add 62 1,
    mv 11 63]) (c25_46)
def c25_35:Cd:=.seq (.block 1 (.seq (.seq (.reg true [od 64 (.load (.d tWorld) (.t 10)) [2] [],
    od 65 (.fieldAddr (.d tWorld) 3 (.t 10)) [2] [],
    od 66 (.load (.d (.sl tPlace)) (.t 65)) [2] [],
    mv 67 11,
    ix 68 (.sl tPlace) 66 67,
    ld 69 tPlace 68,
    o_ 70 (.call (.f 42) [(.t 64),(.t 69)] [.d (.int .i64)] [] false),
    bc 71 .gtr 70 4]) (c25_41)) (c25_40))) (c25_39)
def c25_34:Cd:=.tidy [] [] [] (some 3)
def c25_33:Cd:=.seq (.seq (.seq (.seq (.reg false [mv 57 11,
    fa 58 tWorld 3 10,
    ld 59 (.sl tPlace) 58,
    le 60 59,
    bi 61 .lss 57 60]) (c25_37)) (c25_36)) (c25_35)) (c25_34)
def c25_32:Cd:=.block 0 (.loop (c25_33))
def c25_50:Cd:=td [73,74,75,76]
def c25_53:Cd:=td [78]
def c25_52:Cd:=.ret
def c25_51:Cd:=.seq (.seq (.reg false [ld 78 tWorld 4,
    sr tWorld 8 78,
    ci 9 9]) (c25_53)) (c25_52)
def c25_54:Cd:=.skip
def c25_49:Cd:=.cond (.t 77) (.seq (td [77]) (c25_51)) (.seq (td [77]) (c25_54))
def c25_56:Cd:=td [79]
def c25_55:Cd:=.ret
def c25_48:Cd:=.seq (.seq (.reg false [ld 79 tWorld 10,
    sr tWorld 8 79,
    ci 9 0]) (c25_56)) (c25_55)
def c25_31:Cd:=.seq (.seq (.seq (.reg false [ld 73 tWorld 4,
    mv 74 3,
    o_ 75 (.build tPlace [(0,(.c (.int .i64) (2:Int))),(1,(.t 74))] []),
    o_ 76 (.call (.f 46) [(.t 73),(.t 75)] [.d (.int .i64)] [] false),
    bc 77 .eql 76 0]) (c25_50)) (c25_49)) (c25_48)
def c25_29:Cd:=.seq (.seq (.reg false [ci 11 0]) (c25_32)) (c25_31)
def c25_22:Cd:=.seq (.seq (.reg false [ld 52 tWorld 4,
    mv 53 2,
    mv 54 3,
    o_ 55 (.build tPlace [(0,(.c (.int .i64) (2:Int))),(1,(.t 54))] []),
    o_ 56 (.call (.f 47) [(.t 52),(.t 53),(.t 55)] [.d tWorld] [] false),
    nb 10 2 tWorld,
    sr tWorld 10 56]) (c25_30)) (c25_29)
def c25_15:Cd:=.seq (.seq (.seq (.reg false [ld 47 tWorld 4,
    mv 48 3,
    mv 49 2,
    o_ 50 (.call (.f 50) [(.t 47),(.t 48),(.t 49)] [.d .bool] [] false)]) (c25_24)) (c25_23)) (c25_22)
def c25_8:Cd:=.seq (.seq (.seq (.reg false [fa 39 tWorld 0 4,
    fa 40 tDesc 4 39,
    ld 41 (.sl .bool) 40,
    mv 42 3,
    ix 43 (.sl .bool) 41 42,
    ld 44 .bool 43,
    nt 45 44]) (c25_17)) (c25_16)) (c25_15)
def c25_1:Cd:=.seq (.seq (.seq (.reg false [fa 23 tWorld 3 4,
    ld 24 (.sl tPlace) 23,
    mv 25 2,
    ix 26 (.sl tPlace) 24 25,
    ld 27 tPlace 26,
    mv 28 1,
    o_ 29 (.build tPlace [(0,(.c (.int .i64) (1:Int))),(1,(.t 28))] []),
    o_ 30 (.eqs tPlace true (.t 27) (.t 29)),
    mv 31 30,
    og 32 (.load (.d tWorld) (.t 4)) 31 false,
    og 33 (.move (.t 1)) 31 false,
    og 34 (.move (.t 3)) 31 false,
    og 35 (.call (.f 49) [(.t 32),(.t 33),(.t 34)] [.d .bool] [] false) 31 false,
    og 36 (.not (.t 35)) 31 false,
    o_ 37 (.pick (.t 31) (.c .bool true) (.t 36))]) (c25_10)) (c25_9)) (c25_8)
def c25_0:Cd:=.seq (.seq (.seq (.reg false [ld 12 tWorld 4,
    mv 13 2,
    o_ 14 (.call (.f 48) [(.t 12),(.t 13)] [.d .bool] [] false),
    nt 15 14,
    mv 16 15,
    og 17 (.load (.d tWorld) (.t 4)) 16 false,
    og 18 (.move (.t 3)) 16 false,
    og 19 (.call (.f 48) [(.t 17),(.t 18)] [.d .bool] [] false) 16 false,
    og 20 (.not (.t 19)) 16 false,
    o_ 21 (.pick (.t 16) (.c .bool true) (.t 20))]) (c25_3)) (c25_2)) (c25_1)
def innkeepref10_Put.fn:Fn:=⟨4,[.cell 8 (.d tWorld),.tmp 9],.seq (.reg false [bx 4 0 0,
    nb 8 1 tWorld,
    ci 9 0]) (c25_0)⟩
def c26_3:Cd:=td [10,11,12,13,14,15,16,17,18]
def c26_6:Cd:=td [20]
def c26_5:Cd:=.ret
def c26_4:Cd:=.seq (.seq (.reg false [ld 20 tWorld 4,
    sr tWorld 8 20,
    ci 9 3]) (c26_6)) (c26_5)
def c26_7:Cd:=.skip
def c26_2:Cd:=.cond (.t 19) (.seq (td [19]) (c26_4)) (.seq (td [19]) (c26_7))
def c26_10:Cd:=td [21,22,23,24]
def c26_13:Cd:=td [26]
def c26_12:Cd:=.ret
def c26_11:Cd:=.seq (.seq (.reg false [ld 26 tWorld 4,
    sr tWorld 8 26,
    ci 9 5]) (c26_13)) (c26_12)
def c26_14:Cd:=.skip
def c26_9:Cd:=.cond (.t 25) (.seq (td [25]) (c26_11)) (.seq (td [25]) (c26_14))
def c26_17:Cd:=td [27,28,29,30,31,32]
def c26_20:Cd:=td [34]
def c26_19:Cd:=.ret
def c26_18:Cd:=.seq (.seq (.reg false [ld 34 tWorld 4,
    sr tWorld 8 34,
    ci 9 6]) (c26_20)) (c26_19)
def c26_21:Cd:=.skip
def c26_16:Cd:=.cond (.t 33) (.seq (td [33]) (c26_18)) (.seq (td [33]) (c26_21))
def c26_24:Cd:=td [35,36,37,38,39,40,41]
def c26_27:Cd:=td [43]
def c26_26:Cd:=.ret
def c26_25:Cd:=.seq (.seq (.reg false [ld 43 tWorld 4,
    sr tWorld 8 43,
    ci 9 5]) (c26_27)) (c26_26)
def c26_28:Cd:=.skip
def c26_23:Cd:=.cond (.t 42) (.seq (td [42]) (c26_25)) (.seq (td [42]) (c26_28))
def c26_31:Cd:=td [44,45,46,47]
def c26_34:Cd:=td [49]
def c26_33:Cd:=.ret
def c26_32:Cd:=.seq (.seq (.reg false [ld 49 tWorld 4,
    sr tWorld 8 49,
    ci 9 9]) (c26_34)) (c26_33)
def c26_35:Cd:=.skip
def c26_30:Cd:=.cond (.t 48) (.seq (td [48]) (c26_32)) (.seq (td [48]) (c26_35))
def c26_37:Cd:=td [50,51,52,53,54]
def c26_36:Cd:=.ret
def c26_29:Cd:=.seq (.seq (.reg false [ld 50 tWorld 4,
    mv 51 2,
    mv 52 1,
    o_ 53 (.build tPlace [(0,(.c (.int .i64) (1:Int))),(1,(.t 52))] []),
    o_ 54 (.call (.f 47) [(.t 50),(.t 51),(.t 53)] [.d tWorld] [] false),
    sr tWorld 8 54,
    ci 9 0]) (c26_37)) (c26_36)
def c26_22:Cd:=.seq (.seq (.seq (.reg false [ld 44 tWorld 4,
    mv 45 1,
    o_ 46 (.build tPlace [(0,(.c (.int .i64) (1:Int))),(1,(.t 45))] []),
    o_ 47 (.call (.f 46) [(.t 44),(.t 46)] [.d (.int .i64)] [] false),
    bc 48 .eql 47 0]) (c26_31)) (c26_30)) (c26_29)
def c26_15:Cd:=.seq (.seq (.seq (.reg false [fa 35 tWorld 3 4,
    ld 36 (.sl tPlace) 35,
    mv 37 2,
    ix 38 (.sl tPlace) 36 37,
    ld 39 tPlace 38,
    mv 40 3,
    o_ 41 (.build tPlace [(0,(.c (.int .i64) (2:Int))),(1,(.t 40))] []),
    o_ 42 (.eqs tPlace true (.t 39) (.t 41))]) (c26_24)) (c26_23)) (c26_22)
def c26_8:Cd:=.seq (.seq (.seq (.reg false [fa 27 tWorld 0 4,
    fa 28 tDesc 4 27,
    ld 29 (.sl .bool) 28,
    mv 30 3,
    ix 31 (.sl .bool) 29 30,
    ld 32 .bool 31,
    nt 33 32]) (c26_17)) (c26_16)) (c26_15)
def c26_1:Cd:=.seq (.seq (.seq (.reg false [ld 21 tWorld 4,
    mv 22 1,
    mv 23 3,
    o_ 24 (.call (.f 49) [(.t 21),(.t 22),(.t 23)] [.d .bool] [] false),
    nt 25 24]) (c26_10)) (c26_9)) (c26_8)
def c26_0:Cd:=.seq (.seq (.seq (.reg false [ld 10 tWorld 4,
    mv 11 2,
    o_ 12 (.call (.f 48) [(.t 10),(.t 11)] [.d .bool] [] false),
    nt 13 12,
    mv 14 13,
    og 15 (.load (.d tWorld) (.t 4)) 14 false,
    og 16 (.move (.t 3)) 14 false,
    og 17 (.call (.f 48) [(.t 15),(.t 16)] [.d .bool] [] false) 14 false,
    og 18 (.not (.t 17)) 14 false,
    o_ 19 (.pick (.t 14) (.c .bool true) (.t 18))]) (c26_3)) (c26_2)) (c26_1)
def innkeepref10_Take.fn:Fn:=⟨4,[.cell 8 (.d tWorld),.tmp 9],.seq (.reg false [bx 4 0 0,
    nb 8 1 tWorld,
    ci 9 0]) (c26_0)⟩
def c27_3:Cd:=td [10,11,12,13,14,15,16,17,18,19,20,21,22,23,24,25,26,27,28]
def c27_6:Cd:=td [30]
def c27_5:Cd:=.ret
def c27_4:Cd:=.seq (.seq (.reg false [ld 30 tWorld 4,
    sr tWorld 8 30,
    ci 9 3]) (c27_6)) (c27_5)
def c27_7:Cd:=.skip
def c27_2:Cd:=.cond (.t 29) (.seq (td [29]) (c27_4)) (.seq (td [29]) (c27_7))
def c27_10:Cd:=td [31,32]
def c27_13:Cd:=td [34]
def c27_12:Cd:=.ret
def c27_11:Cd:=.seq (.seq (.reg false [ld 34 tWorld 4,
    sr tWorld 8 34,
    ci 9 12]) (c27_13)) (c27_12)
def c27_14:Cd:=.skip
def c27_9:Cd:=.cond (.t 33) (.seq (td [33]) (c27_11)) (.seq (td [33]) (c27_14))
def c27_17:Cd:=td [35,36,37,38,39,40,41,42,43,44,45,46,47,48,49,50,51,52,53,54]
def c27_20:Cd:=td [56]
def c27_19:Cd:=.ret
def c27_18:Cd:=.seq (.seq (.reg false [ld 56 tWorld 4,
    sr tWorld 8 56,
    ci 9 5]) (c27_20)) (c27_19)
def c27_21:Cd:=.skip
def c27_16:Cd:=.cond (.t 55) (.seq (td [55]) (c27_18)) (.seq (td [55]) (c27_21))
def c27_24:Cd:=td [57,58,59,60]
def c27_27:Cd:=td [62]
def c27_26:Cd:=.ret
def c27_25:Cd:=.seq (.seq (.reg false [ld 62 tWorld 4,
    sr tWorld 8 62,
    ci 9 9]) (c27_27)) (c27_26)
def c27_28:Cd:=.skip
def c27_23:Cd:=.cond (.t 61) (.seq (td [61]) (c27_25)) (.seq (td [61]) (c27_28))
def c27_30:Cd:=td [63,64,65,66,67]
def c27_29:Cd:=.ret
def c27_22:Cd:=.seq (.seq (.reg false [ld 63 tWorld 4,
    mv 64 2,
    mv 65 3,
    o_ 66 (.build tPlace [(0,(.c (.int .i64) (1:Int))),(1,(.t 65))] []),
    o_ 67 (.call (.f 47) [(.t 63),(.t 64),(.t 66)] [.d tWorld] [] false),
    sr tWorld 8 67,
    ci 9 0]) (c27_30)) (c27_29)
def c27_15:Cd:=.seq (.seq (.seq (.reg false [ld 57 tWorld 4,
    mv 58 3,
    o_ 59 (.build tPlace [(0,(.c (.int .i64) (1:Int))),(1,(.t 58))] []),
    o_ 60 (.call (.f 46) [(.t 57),(.t 59)] [.d (.int .i64)] [] false),
    bc 61 .eql 60 0]) (c27_24)) (c27_23)) (c27_22)
def c27_8:Cd:=.seq (.seq (.seq (.reg true [od 35 (.fieldAddr (.d tWorld) 1 (.t 4)) [0] [],
    od 36 (.load (.d (.sl (.int .i64))) (.t 35)) [0] [],
    mv 37 1,
    ix 38 (.sl (.int .i64)) 36 37,
    ld 39 (.int .i64) 38,
    od 40 (.fieldAddr (.d tWorld) 1 (.t 4)) [0] [],
    od 41 (.load (.d (.sl (.int .i64))) (.t 40)) [0] [],
    mv 42 3,
    ix 43 (.sl (.int .i64)) 41 42,
    ld 44 (.int .i64) 43,
    bi 45 .neq 39 44,
    mv 46 45,
    ogd 47 (.fieldAddr (.d tWorld) 3 (.t 4)) 46 false [0],
    ogd 48 (.load (.d (.sl tPlace)) (.t 47)) 46 false [0],
    og 49 (.move (.t 2)) 46 false,
    og 50 (.index (.sl tPlace) (.t 48) (.t 49)) 46 false,
    og 51 (.load (.d tPlace) (.t 50)) 46 false,
    og 52 (.move (.t 1)) 46 false,
    og 53 (.build tPlace [(0,(.c (.int .i64) (1:Int))),(1,(.t 52))] []) 46 false,
    og 54 (.eqs tPlace true (.t 51) (.t 53)) 46 false,
    o_ 55 (.pick (.t 46) (.c .bool true) (.t 54))]) (c27_17)) (c27_16)) (c27_15)
def c27_1:Cd:=.seq (.seq (.seq (.reg false [mv 31 1,
    mv 32 3,
    bi 33 .eql 31 32]) (c27_10)) (c27_9)) (c27_8)
def c27_0:Cd:=.seq (.seq (.seq (.reg false [mv 10 2,
    bc 11 .lss 10 0,
    mv 12 11,
    og 13 (.move (.t 2)) 12 false,
    og 14 (.fieldAddr (.d tWorld) 3 (.t 4)) 12 false,
    og 15 (.load (.d (.sl tPlace)) (.t 14)) 12 false,
    og 16 (.len (.t 15)) 12 false,
    og 17 (.bin .geq (.t 13) (.t 16)) 12 false,
    o_ 18 (.pick (.t 12) (.c .bool true) (.t 17)),
    mv 19 18,
    og 20 (.move (.t 3)) 19 false,
    og 21 (.bin .lss (.t 20) (.c (.int .i64) (0:Int))) 19 false,
    o_ 22 (.pick (.t 19) (.c .bool true) (.t 21)),
    mv 23 22,
    og 24 (.move (.t 3)) 23 false,
    og 25 (.fieldAddr (.d tWorld) 1 (.t 4)) 23 false,
    og 26 (.load (.d (.sl (.int .i64))) (.t 25)) 23 false,
    og 27 (.len (.t 26)) 23 false,
    og 28 (.bin .geq (.t 24) (.t 27)) 23 false,
    o_ 29 (.pick (.t 23) (.c .bool true) (.t 28))]) (c27_3)) (c27_2)) (c27_1)
def innkeepref11_Give.fn:Fn:=⟨4,[.cell 8 (.d tWorld),.tmp 9],.seq (.reg false [bx 4 0 0,
    nb 8 1 tWorld,
    ci 9 0]) (c27_0)⟩
def c51_3:Cd:=td [13,14,15,16,17]
def c51_6:Cd:=td [19,20]
def c51_5:Cd:=.ret
def c51_4:Cd:=.seq (.seq (.reg false [mv 19 0,
    mv 20 1,
    mv 8 19,
    mv 9 20,
    ci 10 1]) (c51_6)) (c51_5)
def c51_7:Cd:=.skip
def c51_2:Cd:=.cond (.t 18) (.seq (td [18]) (c51_4)) (.seq (td [18]) (c51_7))
def c51_10:Cd:=td [21,22,23,24,25,26,27]
def c51_13:Cd:=td [29,30]
def c51_12:Cd:=.ret
def c51_11:Cd:=.seq (.seq (.reg false [mv 29 0,
    mv 30 1,
    mv 8 29,
    mv 9 30,
    ci 10 10]) (c51_13)) (c51_12)
def c51_14:Cd:=.skip
def c51_9:Cd:=.cond (.t 28) (.seq (td [28]) (c51_11)) (.seq (td [28]) (c51_14))
def c51_16:Cd:=td [31,32,33,34,35]
def c51_18:Cd:=td [36,37,38,39,40]
def c51_21:Cd:=td [41,42,43,44,45,46,47]
def c51_24:Cd:=td [49,50]
def c51_23:Cd:=.ret
def c51_22:Cd:=.seq (.seq (.reg false [mv 49 0,
    mv 50 1,
    mv 8 49,
    mv 9 50,
    ci 10 11]) (c51_24)) (c51_23)
def c51_25:Cd:=.skip
def c51_20:Cd:=.cond (.t 48) (.seq (td [48]) (c51_22)) (.seq (td [48]) (c51_25))
def c51_27:Cd:=td [51,52]
def c51_26:Cd:=.ret
def c51_19:Cd:=.seq (.seq (.reg false [mv 51 11,
    mv 52 12,
    mv 8 51,
    mv 9 52,
    ci 10 0]) (c51_27)) (c51_26)
def c51_17:Cd:=.seq (.seq (.seq (.reg false [mv 41 11,
    o_ 42 (.call (.f 41) [(.t 41)] [.d .bool] [] false),
    nt 43 42,
    mv 44 43,
    og 45 (.move (.t 12)) 44 false,
    og 46 (.call (.f 41) [(.t 45)] [.d .bool] [] false) 44 false,
    og 47 (.not (.t 46)) 44 false,
    o_ 48 (.pick (.t 44) (.c .bool true) (.t 47))]) (c51_21)) (c51_20)) (c51_19)
def c51_15:Cd:=.seq (.seq (.reg false [mv 36 1,
    mv 37 2,
    bi 38 .add 36 37,
    mv 39 3,
    bi 40 .sub 38 39,
    mv 12 40]) (c51_18)) (c51_17)
def c51_8:Cd:=.seq (.seq (.reg false [mv 31 0,
    mv 32 3,
    bi 33 .add 31 32,
    mv 34 2,
    bi 35 .sub 33 34,
    mv 11 35]) (c51_16)) (c51_15)
def c51_1:Cd:=.seq (.seq (.seq (.reg false [mv 21 0,
    mv 22 2,
    bi 23 .lss 21 22,
    mv 24 23,
    og 25 (.move (.t 1)) 24 false,
    og 26 (.move (.t 3)) 24 false,
    og 27 (.bin .lss (.t 25) (.t 26)) 24 false,
    o_ 28 (.pick (.t 24) (.c .bool true) (.t 27))]) (c51_10)) (c51_9)) (c51_8)
def c51_0:Cd:=.seq (.seq (.seq (.reg false [mv 13 2,
    bc 14 .lss 13 0,
    mv 15 14,
    og 16 (.move (.t 3)) 15 false,
    og 17 (.bin .lss (.t 16) (.c (.int .i64) (0:Int))) 15 false,
    o_ 18 (.pick (.t 15) (.c .bool true) (.t 17))]) (c51_3)) (c51_2)) (c51_1)
def innkeepref01_Swap.fn:Fn:=⟨4,[.tmp 8,.tmp 9,.tmp 10],.seq (.reg false [ci 8 0,
    ci 9 0,
    ci 10 0]) (c51_0)⟩
def c28_2:Cd:=td [20,21]
def c28_4:Cd:=td [22,23,24,25,26,27,28]
def c28_7:Cd:=td [29,30,31,32,33,34,35,36]
def c28_10:Cd:=td [38]
def c28_9:Cd:=.ret
def c28_8:Cd:=.seq (.seq (.reg false [ld 38 tWorld 3,
    sr tWorld 6 38,
    ci 7 3]) (c28_10)) (c28_9)
def c28_11:Cd:=.skip
def c28_6:Cd:=.cond (.t 37) (.seq (td [37]) (c28_8)) (.seq (td [37]) (c28_11))
def c28_18:Cd:=td [39,40,41]
def c28_19:Cd:=.skip
def c28_28:Cd:=.exit 0
def c28_17:Cd:=.cond (.t 42) (.seq (td [42]) (c28_19)) (.seq (td [42]) (c28_28))
def c28_22:Cd:=td [45,46,47,48,49,50,51,52,53,54,55,56,57,58]
def c28_25:Cd:=td [60]
def c28_24:Cd:=.ret
def c28_23:Cd:=.seq (.seq (.reg false [ld 60 tWorld 3,
    sr tWorld 6 60,
    ci 7 3]) (c28_25)) (c28_24)
def c28_26:Cd:=.skip
def c28_21:Cd:=.cond (.t 59) (.seq (td [59]) (c28_23)) (.seq (td [59]) (c28_26))
def c28_27:Cd:=td [43,44]
def c28_20:Cd:=.seq (.reg false [mv 43 10,
    bc 44 .add 43 1,
    mv 10 44]) (c28_27)
def c28_16:Cd:=.seq (.block 1 (.seq (.seq (.reg true [mv 45 9,
    mv 46 10,
    od 47 (.index (.sl (.int .i64)) (.t 45) (.t 46)) [5] [],
    od 48 (.load (.d (.int .i64)) (.t 47)) [5] [],
    bc 49 .lss 48 0,
    mv 50 49,
    og 51 (.move (.t 9)) 50 false,
    og 52 (.move (.t 10)) 50 false,
    ogd 53 (.index (.sl (.int .i64)) (.t 51) (.t 52)) 50 false [5],
    ogd 54 (.load (.d (.int .i64)) (.t 53)) 50 false [5],
    ogd 55 (.fieldAddr (.d tWorld) 3 (.t 3)) 50 false [0],
    ogd 56 (.load (.d (.sl tPlace)) (.t 55)) 50 false [0],
    og 57 (.len (.t 56)) 50 false,
    og 58 (.bin .geq (.t 54) (.t 57)) 50 false,
    o_ 59 (.pick (.t 50) (.c .bool true) (.t 58))]) (c28_22)) (c28_21))) (c28_20)
def c28_15:Cd:=.tidy [] [] [] (some 6)
def c28_14:Cd:=.seq (.seq (.seq (.seq (.reg false [mv 39 10,
    mv 40 9,
    le 41 40,
    bi 42 .lss 39 41]) (c28_18)) (c28_17)) (c28_16)) (c28_15)
def c28_13:Cd:=.block 0 (.loop (c28_14))
def c28_31:Cd:=td [61,62]
def c28_34:Cd:=td [64]
def c28_33:Cd:=.ret
def c28_32:Cd:=.seq (.seq (.reg false [ld 64 tWorld 3,
    sr tWorld 6 64,
    ci 7 12]) (c28_34)) (c28_33)
def c28_35:Cd:=.skip
def c28_30:Cd:=.cond (.t 63) (.seq (td [63]) (c28_32)) (.seq (td [63]) (c28_35))
def c28_38:Cd:=td [65,66,67,68,69,70,71,72,73,74]
def c28_41:Cd:=td [76]
def c28_40:Cd:=.ret
def c28_39:Cd:=.seq (.seq (.reg false [ld 76 tWorld 3,
    sr tWorld 6 76,
    ci 7 5]) (c28_41)) (c28_40)
def c28_42:Cd:=.skip
def c28_37:Cd:=.cond (.t 75) (.seq (td [75]) (c28_39)) (.seq (td [75]) (c28_42))
def c28_49:Cd:=td [77,78,79]
def c28_50:Cd:=.skip
def c28_69:Cd:=.exit 2
def c28_48:Cd:=.cond (.t 80) (.seq (td [80]) (c28_50)) (.seq (td [80]) (c28_69))
def c28_57:Cd:=td [83,84]
def c28_58:Cd:=.skip
def c28_67:Cd:=.exit 4
def c28_56:Cd:=.cond (.t 85) (.seq (td [85]) (c28_58)) (.seq (td [85]) (c28_67))
def c28_61:Cd:=td [88,89,90,91,92,93,94,95]
def c28_64:Cd:=td [97]
def c28_63:Cd:=.ret
def c28_62:Cd:=.seq (.seq (.reg false [ld 97 tWorld 3,
    sr tWorld 6 97,
    ci 7 13]) (c28_64)) (c28_63)
def c28_65:Cd:=.skip
def c28_60:Cd:=.cond (.t 96) (.seq (td [96]) (c28_62)) (.seq (td [96]) (c28_65))
def c28_66:Cd:=td [86,87]
def c28_59:Cd:=.seq (.reg false [mv 86 12,
    bc 87 .add 86 1,
    mv 12 87]) (c28_66)
def c28_55:Cd:=.seq (.block 5 (.seq (.seq (.reg true [mv 88 9,
    mv 89 11,
    od 90 (.index (.sl (.int .i64)) (.t 88) (.t 89)) [5] [],
    od 91 (.load (.d (.int .i64)) (.t 90)) [5] [],
    mv 92 9,
    mv 93 12,
    od 94 (.index (.sl (.int .i64)) (.t 92) (.t 93)) [5] [],
    od 95 (.load (.d (.int .i64)) (.t 94)) [5] [],
    bi 96 .eql 91 95]) (c28_61)) (c28_60))) (c28_59)
def c28_54:Cd:=.tidy [] [] [] (some 6)
def c28_53:Cd:=.seq (.seq (.seq (.seq (.reg false [mv 83 12,
    mv 84 11,
    bi 85 .lss 83 84]) (c28_57)) (c28_56)) (c28_55)) (c28_54)
def c28_52:Cd:=.block 4 (.loop (c28_53))
def c28_68:Cd:=td [81,82]
def c28_51:Cd:=.seq (.reg false [mv 81 11,
    bc 82 .add 81 1,
    mv 11 82]) (c28_68)
def c28_47:Cd:=.seq (.block 3 (.seq (.reg false [ci 12 0]) (c28_52))) (c28_51)
def c28_46:Cd:=.tidy [12] [] [] (some 6)
def c28_45:Cd:=.seq (.seq (.seq (.seq (.reg false [mv 77 11,
    mv 78 9,
    le 79 78,
    bi 80 .lss 77 79]) (c28_49)) (c28_48)) (c28_47)) (c28_46)
def c28_44:Cd:=.block 2 (.loop (c28_45))
def c28_71:Cd:=td [98,99]
def c28_78:Cd:=td [100,101,102]
def c28_79:Cd:=.skip
def c28_102:Cd:=.exit 6
def c28_77:Cd:=.cond (.t 103) (.seq (td [103]) (c28_79)) (.seq (td [103]) (c28_102))
def c28_82:Cd:=td [106]
def c28_84:Cd:=td [107]
def c28_87:Cd:=td [108,109,110,111]
def c28_90:Cd:=td [113]
def c28_91:Cd:=td [114]
def c28_89:Cd:=.seq (.reg false [mv 114 1,
    mv 16 114]) (c28_91)
def c28_88:Cd:=.seq (.seq (.reg false [mv 113 8,
    mv 15 113]) (c28_90)) (c28_89)
def c28_101:Cd:=.skip
def c28_86:Cd:=.cond (.t 112) (.seq (td [112]) (c28_88)) (.seq (td [112]) (c28_101))
def c28_94:Cd:=td [115,116,117,118,119,120,121,122,123,124]
def c28_97:Cd:=td [126]
def c28_96:Cd:=.ret
def c28_95:Cd:=.seq (.seq (.reg false [ld 126 tWorld 3,
    sr tWorld 6 126,
    ci 7 5]) (c28_97)) (c28_96)
def c28_98:Cd:=.skip
def c28_93:Cd:=.cond (.t 125) (.seq (td [125]) (c28_95)) (.seq (td [125]) (c28_98))
def c28_99:Cd:=td [127,128,129,130,131,132,133,134,135]
def c28_92:Cd:=.seq (.reg true [od 127 (.fieldAddr (.d tWorld) 3 (.t 13)) [6] [],
    od 128 (.load (.d (.sl tPlace)) (.t 127)) [6] [],
    mv 129 9,
    mv 130 14,
    od 131 (.index (.sl (.int .i64)) (.t 129) (.t 130)) [5] [],
    od 132 (.load (.d (.int .i64)) (.t 131)) [5] [],
    mv 133 16,
    o_ 134 (.build tPlace [(0,(.c (.int .i64) (1:Int))),(1,(.t 133))] []),
    od 135 (.index (.sl tPlace) (.t 128) (.t 132)) [7] [],
    ⟨none,.store (.d tPlace) (.t 135) (.t 134),none,[],[7]⟩]) (c28_99)
def c28_85:Cd:=.seq (.seq (.seq (.reg true [od 115 (.fieldAddr (.d tWorld) 3 (.t 3)) [0] [],
    od 116 (.load (.d (.sl tPlace)) (.t 115)) [0] [],
    mv 117 9,
    mv 118 14,
    od 119 (.index (.sl (.int .i64)) (.t 117) (.t 118)) [5] [],
    od 120 (.load (.d (.int .i64)) (.t 119)) [5] [],
    ix 121 (.sl tPlace) 116 120,
    ld 122 tPlace 121,
    mv 123 15,
    o_ 124 (.build tPlace [(0,(.c (.int .i64) (1:Int))),(1,(.t 123))] []),
    o_ 125 (.eqs tPlace true (.t 122) (.t 124))]) (c28_94)) (c28_93)) (c28_92)
def c28_83:Cd:=.seq (.seq (.seq (.reg false [mv 108 14,
    fa 109 tCmd 5 5,
    o_ 110 (.load (.d (.sl (.int .i64))) (.t 109)),
    le 111 110,
    bi 112 .geq 108 111]) (c28_87)) (c28_86)) (c28_85)
def c28_81:Cd:=.seq (.seq (.reg false [mv 107 8,
    mv 16 107]) (c28_84)) (c28_83)
def c28_100:Cd:=td [104,105]
def c28_80:Cd:=.seq (.reg false [mv 104 14,
    bc 105 .add 104 1,
    mv 14 105]) (c28_100)
def c28_76:Cd:=.seq (.block 7 (.seq (.seq (.reg false [mv 106 1,
    mv 15 106]) (c28_82)) (c28_81))) (c28_80)
def c28_75:Cd:=.tidy [15,16] [] [] (some 9)
def c28_74:Cd:=.seq (.seq (.seq (.seq (.reg false [mv 100 14,
    mv 101 9,
    le 102 101,
    bi 103 .lss 100 102]) (c28_78)) (c28_77)) (c28_76)) (c28_75)
def c28_73:Cd:=.block 6 (.loop (c28_74))
def c28_105:Cd:=td [136,137,138,139,140,141,142,143,144,145,146]
def c28_108:Cd:=td [148]
def c28_107:Cd:=.ret
def c28_106:Cd:=.seq (.seq (.reg false [ld 148 tWorld 3,
    sr tWorld 6 148,
    ci 7 9]) (c28_108)) (c28_107)
def c28_109:Cd:=.skip
def c28_104:Cd:=.cond (.t 147) (.seq (td [147]) (c28_106)) (.seq (td [147]) (c28_109))
def c28_111:Cd:=td [149,150,151,152,153,154,155,156,157,158,159,160,161,162,163,164,165,166,167]
def c28_114:Cd:=td [168]
def c28_117:Cd:=td [170,171]
def c28_116:Cd:=.ret
def c28_115:Cd:=.seq (.seq (.reg false [ld 170 tWorld 3,
    mv 171 19,
    sr tWorld 6 170,
    mv 7 171]) (c28_117)) (c28_116)
def c28_118:Cd:=.skip
def c28_113:Cd:=.cond (.t 169) (.seq (td [169]) (c28_115)) (.seq (td [169]) (c28_118))
def c28_120:Cd:=td [172,173,174,175,176]
def c28_122:Cd:=td [177,178,179,180,181]
def c28_124:Cd:=td [182]
def c28_123:Cd:=.ret
def c28_121:Cd:=.seq (.seq (.reg false [ld 182 tWorld 13,
    sr tWorld 6 182,
    ci 7 0]) (c28_124)) (c28_123)
def c28_119:Cd:=.seq (.seq (.reg false [fa 177 tWorld 2 13,
    o_ 178 (.load (.d (.sl (.int .i64))) (.t 177)),
    mv 179 8,
    mv 180 18,
    ix 181 (.sl (.int .i64)) 178 179,
    sr (.int .i64) 181 180]) (c28_122)) (c28_121)
def c28_112:Cd:=.seq (.seq (.reg false [fa 172 tWorld 2 13,
    o_ 173 (.load (.d (.sl (.int .i64))) (.t 172)),
    mv 174 1,
    mv 175 17,
    ix 176 (.sl (.int .i64)) 173 174,
    sr (.int .i64) 176 175]) (c28_120)) (c28_119)
def c28_110:Cd:=.seq (.seq (.seq (.reg false [mv 168 19,
    bc 169 .neq 168 0]) (c28_114)) (c28_113)) (c28_112)
def c28_103:Cd:=.seq (.seq (.reg true [od 150 (.fieldAddr (.d tWorld) 2 (.t 3)) [0] [],
    od 151 (.load (.d (.sl (.int .i64))) (.t 150)) [0] [],
    mv 152 1,
    ix 153 (.sl (.int .i64)) 151 152,
    ld 154 (.int .i64) 153,
    od 155 (.fieldAddr (.d tWorld) 2 (.t 3)) [0] [],
    od 156 (.load (.d (.sl (.int .i64))) (.t 155)) [0] [],
    mv 157 8,
    ix 158 (.sl (.int .i64)) 156 157,
    ld 159 (.int .i64) 158,
    od 160 (.fieldAddr (.d tCmd) 6 (.t 5)) [1] [],
    od 161 (.load (.d (.int .i64)) (.t 160)) [1] [],
    od 162 (.fieldAddr (.d tCmd) 8 (.t 5)) [1] [],
    od 163 (.load (.d (.int .i64)) (.t 162)) [1] [],
    o_ 164 (.call (.f 51) [(.t 154),(.t 159),(.t 161),(.t 163)] [.d (.int .i64),.d (.int .i64),.d (.int .i64)] [] false),
    mv 149 164,
    xt 165 149 0,
    xt 166 149 1,
    xt 167 149 2,
    mv 17 165,
    mv 18 166,
    mv 19 167]) (c28_111)) (c28_110)
def c28_72:Cd:=.seq (.seq (.seq (.reg false [ld 136 tWorld 13,
    mv 137 1,
    o_ 138 (.build tPlace [(0,(.c (.int .i64) (1:Int))),(1,(.t 137))] []),
    o_ 139 (.call (.f 46) [(.t 136),(.t 138)] [.d (.int .i64)] [] false),
    bc 140 .lss 139 0,
    mv 141 140,
    og 142 (.load (.d tWorld) (.t 13)) 141 false,
    og 143 (.move (.t 8)) 141 false,
    og 144 (.build tPlace [(0,(.c (.int .i64) (1:Int))),(1,(.t 143))] []) 141 false,
    og 145 (.call (.f 46) [(.t 142),(.t 144)] [.d (.int .i64)] [] false) 141 false,
    og 146 (.bin .lss (.t 145) (.c (.int .i64) (0:Int))) 141 false,
    o_ 147 (.pick (.t 141) (.c .bool true) (.t 146))]) (c28_105)) (c28_104)) (c28_103)
def c28_70:Cd:=.seq (.seq (.reg false [ci 14 0]) (c28_73)) (c28_72)
def c28_43:Cd:=.seq (.seq (.reg false [ld 98 tWorld 3,
    o_ 99 (.call (.f 16) [(.t 98)] [.d tWorld] [((0,[3]),7),((0,[2]),8)] false),
    nb 13 6 tWorld,
    sr tWorld 13 99]) (c28_71)) (c28_70)
def c28_36:Cd:=.seq (.seq (.reg false [ci 11 0]) (c28_44)) (c28_43)
def c28_29:Cd:=.seq (.seq (.seq (.reg true [od 65 (.fieldAddr (.d tWorld) 1 (.t 3)) [0] [],
    od 66 (.load (.d (.sl (.int .i64))) (.t 65)) [0] [],
    mv 67 1,
    ix 68 (.sl (.int .i64)) 66 67,
    ld 69 (.int .i64) 68,
    od 70 (.fieldAddr (.d tWorld) 1 (.t 3)) [0] [],
    od 71 (.load (.d (.sl (.int .i64))) (.t 70)) [0] [],
    mv 72 8,
    ix 73 (.sl (.int .i64)) 71 72,
    ld 74 (.int .i64) 73,
    bi 75 .neq 69 74]) (c28_38)) (c28_37)) (c28_36)
def c28_12:Cd:=.seq (.seq (.seq (.reg false [mv 61 1,
    mv 62 8,
    bi 63 .eql 61 62]) (c28_31)) (c28_30)) (c28_29)
def c28_5:Cd:=.seq (.seq (.reg false [ci 10 0]) (c28_13)) (c28_12)
def c28_3:Cd:=.seq (.seq (.seq (.reg false [mv 29 8,
    bc 30 .lss 29 0,
    mv 31 30,
    og 32 (.move (.t 8)) 31 false,
    og 33 (.fieldAddr (.d tWorld) 1 (.t 3)) 31 false,
    og 34 (.load (.d (.sl (.int .i64))) (.t 33)) 31 false,
    og 35 (.len (.t 34)) 31 false,
    og 36 (.bin .geq (.t 32) (.t 35)) 31 false,
    o_ 37 (.pick (.t 31) (.c .bool true) (.t 36))]) (c28_7)) (c28_6)) (c28_5)
def c28_1:Cd:=.seq (.seq (.reg true [od 22 (.slice 3 (.int .i64) []) [] [3],
    od 23 (.fieldAddr (.d tCmd) 5 (.t 5)) [1] [],
    od 24 (.load (.d (.sl (.int .i64))) (.t 23)) [1] [],
    od 25 (.append 4 (.int .i64) (.t 22) (.t 24)) [] [3,4],
    od 26 (.fieldAddr (.d tCmd) 7 (.t 5)) [1] [],
    od 27 (.load (.d (.sl (.int .i64))) (.t 26)) [1] [],
    od 28 (.append 5 (.int .i64) (.t 25) (.t 27)) [] [4,5],
    mv 9 28]) (c28_4)) (c28_3)
def c28_0:Cd:=.seq (.seq (.reg false [fa 20 tCmd 4 5,
    ld 21 (.int .i64) 20,
    mv 8 21]) (c28_2)) (c28_1)
def innkeepref11_Trade.fn:Fn:=⟨3,[.cell 6 (.d tWorld),.tmp 7],.seq (.reg false [bx 3 0 0,
    bx 5 1 2,
    nb 6 2 tWorld,
    ci 7 0]) (c28_0)⟩
def c52_8:Cd:=td [7,8,9,10]
def c52_9:Cd:=.skip
def c52_17:Cd:=.exit 0
def c52_7:Cd:=.cond (.t 11) (.seq (td [11]) (c52_9)) (.seq (td [11]) (c52_17))
def c52_12:Cd:=td [14,15,16,17,18,19]
def c52_14:Cd:=td [21,22,23,24]
def c52_13:Cd:=.seq (.reg false [mv 21 5,
    mv 22 6,
    o_ 23 (.slice 1 (.int .i64) [(.t 22)]),
    o_ 24 (.append 2 (.int .i64) (.t 21) (.t 23)),
    mv 5 24]) (c52_14)
def c52_16:Cd:=.skip
def c52_11:Cd:=.cond (.t 20) (.seq (td [20]) (c52_13)) (.seq (td [20]) (c52_16))
def c52_15:Cd:=td [12,13]
def c52_10:Cd:=.seq (.reg false [mv 12 6,
    bc 13 .add 12 1,
    mv 6 13]) (c52_15)
def c52_6:Cd:=.seq (.block 1 (.seq (.seq (.reg false [fa 14 tWorld 1 2,
    o_ 15 (.load (.d (.sl (.int .i64))) (.t 14)),
    mv 16 6,
    ix 17 (.sl (.int .i64)) 15 16,
    ld 18 (.int .i64) 17,
    mv 19 1,
    bi 20 .eql 18 19]) (c52_12)) (c52_11))) (c52_10)
def c52_5:Cd:=.tidy [] [(2,3)] [1] (some 4)
def c52_4:Cd:=.seq (.seq (.seq (.seq (.reg false [mv 7 6,
    fa 8 tWorld 1 2,
    o_ 9 (.load (.d (.sl (.int .i64))) (.t 8)),
    le 10 9,
    bi 11 .lss 7 10]) (c52_8)) (c52_7)) (c52_6)) (c52_5)
def c52_3:Cd:=.block 0 (.loop (c52_4))
def c52_19:Cd:=td [25]
def c52_18:Cd:=.ret
def c52_2:Cd:=.seq (.seq (.reg false [mv 25 5,
    mv 4 25]) (c52_19)) (c52_18)
def c52_1:Cd:=.seq (.seq (.reg false [ci 6 0]) (c52_3)) (c52_2)
def c52_0:Cd:=.seq (.reg false [o_ 5 (.mknil 3 (.int .i64))]) (c52_1)
def innkeepref12_Present.fn:Fn:=⟨2,[.tmp 4],.seq (.reg false [bx 2 0 0,
    o_ 4 (.move (.c (.sl (.int .i64)) []))]) (c52_0)⟩
def c53_8:Cd:=td [7,8,9,10]
def c53_9:Cd:=.skip
def c53_17:Cd:=.exit 0
def c53_7:Cd:=.cond (.t 11) (.seq (td [11]) (c53_9)) (.seq (td [11]) (c53_17))
def c53_12:Cd:=td [14,15,16,17]
def c53_14:Cd:=td [19,20,21,22,23,24,25,26,27,28]
def c53_13:Cd:=.seq (.reg false [mv 19 5,
    mv 20 6,
    fa 21 tWorld 3 2,
    ld 22 (.sl tPlace) 21,
    mv 23 6,
    ix 24 (.sl tPlace) 22 23,
    ld 25 tPlace 24,
    o_ 26 (.build tSeen [(0,(.t 20)),(1,(.t 25))] []),
    o_ 27 (.slice 2 tSeen [(.t 26)]),
    o_ 28 (.append 3 tSeen (.t 19) (.t 27)),
    mv 5 28]) (c53_14)
def c53_16:Cd:=.skip
def c53_11:Cd:=.cond (.t 18) (.seq (td [18]) (c53_13)) (.seq (td [18]) (c53_16))
def c53_15:Cd:=td [12,13]
def c53_10:Cd:=.seq (.reg false [mv 12 6,
    bc 13 .add 12 1,
    mv 6 13]) (c53_15)
def c53_6:Cd:=.seq (.block 1 (.seq (.seq (.reg true [od 14 (.load (.d tWorld) (.t 2)) [0] [],
    mv 15 6,
    o_ 16 (.call (.f 38) [(.t 14),(.t 15)] [.d tPlace] [] false),
    od 17 (.load (.d tPlace) (.t 3)) [1] [],
    o_ 18 (.eqs tPlace false (.t 16) (.t 17))]) (c53_12)) (c53_11))) (c53_10)
def c53_5:Cd:=.tidy [] [(3,4)] [2] (some 5)
def c53_4:Cd:=.seq (.seq (.seq (.seq (.reg false [mv 7 6,
    fa 8 tWorld 3 2,
    ld 9 (.sl tPlace) 8,
    le 10 9,
    bi 11 .lss 7 10]) (c53_8)) (c53_7)) (c53_6)) (c53_5)
def c53_3:Cd:=.block 0 (.loop (c53_4))
def c53_19:Cd:=td [29]
def c53_18:Cd:=.ret
def c53_2:Cd:=.seq (.seq (.reg false [mv 29 5,
    mv 4 29]) (c53_19)) (c53_18)
def c53_1:Cd:=.seq (.seq (.reg false [ci 6 0]) (c53_3)) (c53_2)
def c53_0:Cd:=.seq (.reg false [o_ 5 (.mknil 4 tSeen)]) (c53_1)
def innkeepref07_Under.fn:Fn:=⟨2,[.tmp 4],.seq (.reg false [bx 2 0 0,
    bx 3 1 1,
    o_ 4 (.move (.c (.sl tSeen) []))]) (c53_0)⟩
def c29_2:Cd:=td [5,6,7,8,9,10,11,12,13,14,15,16,17,18,19,20,21,22,23,24,25]
def c29_1:Cd:=.ret
def c29_0:Cd:=.seq (.seq (.reg true [od 5 (.fieldAddr (.d tWorld) 1 (.t 2)) [0] [],
    od 6 (.load (.d (.sl (.int .i64))) (.t 5)) [0] [],
    mv 7 1,
    ix 8 (.sl (.int .i64)) 6 7,
    ld 9 (.int .i64) 8,
    od 10 (.load (.d tWorld) (.t 2)) [0] [],
    od 11 (.fieldAddr (.d tWorld) 1 (.t 2)) [0] [],
    od 12 (.load (.d (.sl (.int .i64))) (.t 11)) [0] [],
    mv 13 1,
    ix 14 (.sl (.int .i64)) 12 13,
    ld 15 (.int .i64) 14,
    o_ 16 (.call (.f 52) [(.t 10),(.t 15)] [.d (.sl (.int .i64))] [] false),
    od 17 (.load (.d tWorld) (.t 2)) [0] [],
    od 18 (.fieldAddr (.d tWorld) 1 (.t 2)) [0] [],
    od 19 (.load (.d (.sl (.int .i64))) (.t 18)) [0] [],
    mv 20 1,
    ix 21 (.sl (.int .i64)) 19 20,
    ld 22 (.int .i64) 21,
    o_ 23 (.build tPlace [(0,(.c (.int .i64) (0:Int))),(1,(.t 22))] []),
    o_ 24 (.call (.f 53) [(.t 17),(.t 23)] [.d (.sl tSeen)] [] false),
    o_ 25 (.build tReply [(1,(.c (.int .i64) (9:Int))),(2,(.t 9)),(3,(.t 16)),(4,(.t 24))] []),
    ⟨none,.store (.d tReply) (.t 4) (.t 25),none,[],[1]⟩]) (c29_2)) (c29_1)
def innkeepref12_Look.fn:Fn:=⟨2,[.cell 4 (.d tReply)],.seq (.reg false [bx 2 0 0,
    nb 4 1 tReply]) (c29_0)⟩
def c30_2:Cd:=td [5,6,7,8,9,10,11,12,13,14]
def c30_1:Cd:=.ret
def c30_0:Cd:=.seq (.seq (.reg true [od 5 (.fieldAddr (.d tWorld) 2 (.t 2)) [0] [],
    od 6 (.load (.d (.sl (.int .i64))) (.t 5)) [0] [],
    mv 7 1,
    ix 8 (.sl (.int .i64)) 6 7,
    ld 9 (.int .i64) 8,
    od 10 (.load (.d tWorld) (.t 2)) [0] [],
    mv 11 1,
    o_ 12 (.build tPlace [(0,(.c (.int .i64) (1:Int))),(1,(.t 11))] []),
    o_ 13 (.call (.f 53) [(.t 10),(.t 12)] [.d (.sl tSeen)] [] false),
    o_ 14 (.build tReply [(1,(.c (.int .i64) (10:Int))),(5,(.t 9)),(4,(.t 13))] []),
    ⟨none,.store (.d tReply) (.t 4) (.t 14),none,[],[1]⟩]) (c30_2)) (c30_1)
def innkeepref12_Own.fn:Fn:=⟨2,[.cell 4 (.d tReply)],.seq (.reg false [bx 2 0 0,
    nb 4 1 tReply]) (c30_0)⟩
def c9_3:Cd:=td [11,12]
def c9_6:Cd:=td [14,15]
def c9_5:Cd:=.ret
def c9_4:Cd:=.seq (.seq (.reg false [ld 14 tWorld 3,
    o_ 15 (.build tReply [(0,(.c (.int .i64) (2:Int)))] []),
    sr tWorld 6 14,
    sr tReply 7 15]) (c9_6)) (c9_5)
def c9_7:Cd:=.skip
def c9_2:Cd:=.cond (.t 13) (.seq (td [13]) (c9_4)) (.seq (td [13]) (c9_7))
def c9_9:Cd:=td [16]
def c9_14:Cd:=td [17]
def c9_16:Cd:=td [20]
def c9_18:Cd:=td [21,22,23,24,25,26,27,28,29]
def c9_17:Cd:=.seq (.reg false [ld 22 tWorld 3,
    mv 23 1,
    fa 24 tCmd 1 5,
    ld 25 (.int .i64) 24,
    o_ 26 (.call (.f 21) [(.t 22),(.t 23),(.t 25)] [.d tWorld,.d (.int .i64),.d (.int .i64)] [] false),
    mv 21 26,
    xt 27 21 0,
    xt 28 21 1,
    xt 29 21 2,
    sr tWorld 8 27,
    mv 9 28,
    mv 10 29]) (c9_18)
def c9_30:Cd:=td [31]
def c9_32:Cd:=td [32,33,34,35,36,37,38,39,40,41,42]
def c9_31:Cd:=.seq (.reg false [ld 33 tWorld 3,
    mv 34 1,
    fa 35 tCmd 4 5,
    ld 36 (.int .i64) 35,
    fa 37 tCmd 1 5,
    ld 38 (.int .i64) 37,
    o_ 39 (.call (.f 22) [(.t 33),(.t 34),(.t 36),(.t 38)] [.d tWorld,.d (.int .i64),.d (.int .i64)] [] false),
    mv 32 39,
    xt 40 32 0,
    xt 41 32 1,
    xt 42 32 2,
    sr tWorld 8 40,
    mv 9 41,
    mv 10 42]) (c9_32)
def c9_35:Cd:=td [44]
def c9_37:Cd:=td [45,46,47,48,49,50,51,52]
def c9_36:Cd:=.seq (.reg false [ld 46 tWorld 3,
    mv 47 1,
    fa 48 tCmd 2 5,
    ld 49 (.int .i64) 48,
    o_ 50 (.call (.f 23) [(.t 46),(.t 47),(.t 49)] [.d tWorld,.d (.int .i64)] [] false),
    mv 45 50,
    xt 51 45 0,
    xt 52 45 1,
    sr tWorld 8 51,
    mv 10 52]) (c9_37)
def c9_40:Cd:=td [54]
def c9_42:Cd:=td [55,56,57,58,59,60,61,62]
def c9_41:Cd:=.seq (.reg false [ld 56 tWorld 3,
    mv 57 1,
    fa 58 tCmd 2 5,
    ld 59 (.int .i64) 58,
    o_ 60 (.call (.f 24) [(.t 56),(.t 57),(.t 59)] [.d tWorld,.d (.int .i64)] [] false),
    mv 55 60,
    xt 61 55 0,
    xt 62 55 1,
    sr tWorld 8 61,
    mv 10 62]) (c9_42)
def c9_45:Cd:=td [64]
def c9_47:Cd:=td [65,66,67,68,69,70,71,72,73,74]
def c9_46:Cd:=.seq (.reg false [ld 66 tWorld 3,
    mv 67 1,
    fa 68 tCmd 2 5,
    ld 69 (.int .i64) 68,
    fa 70 tCmd 3 5,
    ld 71 (.int .i64) 70,
    o_ 72 (.call (.f 25) [(.t 66),(.t 67),(.t 69),(.t 71)] [.d tWorld,.d (.int .i64)] [] false),
    mv 65 72,
    xt 73 65 0,
    xt 74 65 1,
    sr tWorld 8 73,
    mv 10 74]) (c9_47)
def c9_50:Cd:=td [76]
def c9_52:Cd:=td [77,78,79,80,81,82,83,84,85,86]
def c9_51:Cd:=.seq (.reg false [ld 78 tWorld 3,
    mv 79 1,
    fa 80 tCmd 2 5,
    ld 81 (.int .i64) 80,
    fa 82 tCmd 3 5,
    ld 83 (.int .i64) 82,
    o_ 84 (.call (.f 26) [(.t 78),(.t 79),(.t 81),(.t 83)] [.d tWorld,.d (.int .i64)] [] false),
    mv 77 84,
    xt 85 77 0,
    xt 86 77 1,
    sr tWorld 8 85,
    mv 10 86]) (c9_52)
def c9_55:Cd:=td [88]
def c9_57:Cd:=td [89,90,91,92,93,94,95,96,97,98]
def c9_56:Cd:=.seq (.reg false [ld 90 tWorld 3,
    mv 91 1,
    fa 92 tCmd 2 5,
    ld 93 (.int .i64) 92,
    fa 94 tCmd 4 5,
    ld 95 (.int .i64) 94,
    o_ 96 (.call (.f 27) [(.t 90),(.t 91),(.t 93),(.t 95)] [.d tWorld,.d (.int .i64)] [] false),
    mv 89 96,
    xt 97 89 0,
    xt 98 89 1,
    sr tWorld 8 97,
    mv 10 98]) (c9_57)
def c9_60:Cd:=td [100]
def c9_62:Cd:=td [101,102,103,104,105,106,107]
def c9_61:Cd:=.seq (.reg false [ld 102 tWorld 3,
    mv 103 1,
    ld 104 tCmd 5,
    o_ 105 (.call (.f 28) [(.t 102),(.t 103),(.t 104)] [.d tWorld,.d (.int .i64)] [] false),
    mv 101 105,
    xt 106 101 0,
    xt 107 101 1,
    sr tWorld 8 106,
    mv 10 107]) (c9_62)
def c9_65:Cd:=td [109]
def c9_68:Cd:=td [110,111,112,113]
def c9_67:Cd:=.ret
def c9_66:Cd:=.seq (.seq (.reg true [od 110 (.load (.d tWorld) (.t 3)) [0] [],
    od 111 (.load (.d tWorld) (.t 3)) [0] [],
    mv 112 1,
    o_ 113 (.call (.f 29) [(.t 111),(.t 112)] [.d tReply] [] false),
    ⟨none,.store (.d tWorld) (.t 6) (.t 110),none,[],[2]⟩,
    ⟨none,.store (.d tReply) (.t 7) (.t 113),none,[],[3]⟩]) (c9_68)) (c9_67)
def c9_71:Cd:=td [115]
def c9_74:Cd:=td [116,117,118,119]
def c9_73:Cd:=.ret
def c9_72:Cd:=.seq (.seq (.reg true [od 116 (.load (.d tWorld) (.t 3)) [0] [],
    od 117 (.load (.d tWorld) (.t 3)) [0] [],
    mv 118 1,
    o_ 119 (.call (.f 30) [(.t 117),(.t 118)] [.d tReply] [] false),
    ⟨none,.store (.d tWorld) (.t 6) (.t 116),none,[],[2]⟩,
    ⟨none,.store (.d tReply) (.t 7) (.t 119),none,[],[3]⟩]) (c9_74)) (c9_73)
def c9_75:Cd:=.skip
def c9_70:Cd:=.cond (.t 114) (.seq (td [114]) (c9_72)) (.seq (td [114]) (c9_75))
def c9_69:Cd:=.seq (.seq (.reg false [bc 115 .eql 18 10,
    mv 114 115]) (c9_71)) (c9_70)
def c9_64:Cd:=.cond (.t 108) (.seq (td [108]) (c9_66)) (.seq (td [108]) (c9_69))
def c9_63:Cd:=.seq (.seq (.reg false [bc 109 .eql 18 9,
    mv 108 109]) (c9_65)) (c9_64)
def c9_59:Cd:=.cond (.t 99) (.seq (td [99]) (c9_61)) (.seq (td [99]) (c9_63))
def c9_58:Cd:=.seq (.seq (.reg false [bc 100 .eql 18 8,
    mv 99 100]) (c9_60)) (c9_59)
def c9_54:Cd:=.cond (.t 87) (.seq (td [87]) (c9_56)) (.seq (td [87]) (c9_58))
def c9_53:Cd:=.seq (.seq (.reg false [bc 88 .eql 18 7,
    mv 87 88]) (c9_55)) (c9_54)
def c9_49:Cd:=.cond (.t 75) (.seq (td [75]) (c9_51)) (.seq (td [75]) (c9_53))
def c9_48:Cd:=.seq (.seq (.reg false [bc 76 .eql 18 6,
    mv 75 76]) (c9_50)) (c9_49)
def c9_44:Cd:=.cond (.t 63) (.seq (td [63]) (c9_46)) (.seq (td [63]) (c9_48))
def c9_43:Cd:=.seq (.seq (.reg false [bc 64 .eql 18 5,
    mv 63 64]) (c9_45)) (c9_44)
def c9_39:Cd:=.cond (.t 53) (.seq (td [53]) (c9_41)) (.seq (td [53]) (c9_43))
def c9_38:Cd:=.seq (.seq (.reg false [bc 54 .eql 18 4,
    mv 53 54]) (c9_40)) (c9_39)
def c9_34:Cd:=.cond (.t 43) (.seq (td [43]) (c9_36)) (.seq (td [43]) (c9_38))
def c9_33:Cd:=.seq (.seq (.reg false [bc 44 .eql 18 3,
    mv 43 44]) (c9_35)) (c9_34)
def c9_29:Cd:=.cond (.t 30) (.seq (td [30]) (c9_31)) (.seq (td [30]) (c9_33))
def c9_28:Cd:=.seq (.seq (.reg false [bc 31 .eql 18 2,
    mv 30 31]) (c9_30)) (c9_29)
def c9_15:Cd:=.cond (.t 19) (.seq (td [19]) (c9_17)) (.seq (td [19]) (c9_28))
def c9_13:Cd:=.block 0 (.seq (.seq (.reg false [bc 20 .eql 18 1,
    mv 19 20]) (c9_16)) (c9_15))
def c9_21:Cd:=td [120]
def c9_24:Cd:=td [122,123,124]
def c9_23:Cd:=.ret
def c9_22:Cd:=.seq (.seq (.reg false [ld 122 tWorld 3,
    mv 123 10,
    o_ 124 (.build tReply [(0,(.t 123))] []),
    sr tWorld 6 122,
    sr tReply 7 124]) (c9_24)) (c9_23)
def c9_25:Cd:=.skip
def c9_20:Cd:=.cond (.t 121) (.seq (td [121]) (c9_22)) (.seq (td [121]) (c9_25))
def c9_27:Cd:=td [125,126,127,128,129]
def c9_26:Cd:=.ret
def c9_19:Cd:=.seq (.seq (.reg true [od 125 (.load (.d tWorld) (.t 8)) [4] [],
    od 126 (.fieldAddr (.d tCmd) 0 (.t 5)) [1] [],
    od 127 (.load (.d (.int .i64)) (.t 126)) [1] [],
    mv 128 9,
    o_ 129 (.build tReply [(1,(.t 127)),(2,(.t 128))] []),
    ⟨none,.store (.d tWorld) (.t 6) (.t 125),none,[],[2]⟩,
    ⟨none,.store (.d tReply) (.t 7) (.t 129),none,[],[3]⟩]) (c9_27)) (c9_26)
def c9_12:Cd:=.seq (.seq (.seq (.reg false [mv 120 10,
    bc 121 .neq 120 0]) (c9_21)) (c9_20)) (c9_19)
def c9_11:Cd:=.seq (.seq (.seq (.reg false [fa 17 tCmd 0 5,
    ld 18 (.int .i64) 17]) (c9_14)) (c9_13)) (c9_12)
def c9_10:Cd:=.seq (.reg false [ci 10 0]) (c9_11)
def c9_8:Cd:=.seq (.reg false [ci 9 0]) (c9_10)
def c9_1:Cd:=.seq (.seq (.reg false [ld 16 tWorld 3,
    nb 8 4 tWorld,
    sr tWorld 8 16]) (c9_9)) (c9_8)
def c9_0:Cd:=.seq (.seq (.seq (.reg false [ld 11 tCmd 5,
    o_ 12 (.call (.f 8) [(.t 11)] [.d .bool] [] false),
    nt 13 12]) (c9_3)) (c9_2)) (c9_1)
def innkeepref13_Do.fn:Fn:=⟨3,[.cell 6 (.d tWorld),.cell 7 (.d tReply)],.seq (.reg false [bx 3 0 0,
    bx 5 1 2,
    nb 6 2 tWorld,
    nb 7 3 tReply]) (c9_0)⟩
def c56_2:Cd:=td [5,6,7,8,9,10,11,12,13,14,15,16,17,18,19,20,21,22,23]
def c56_1:Cd:=.ret
def c56_0:Cd:=.seq (.seq (.reg false [fa 5 tPlace 0 2,
    ld 6 (.int .i64) 5,
    fa 7 tPlace 0 3,
    ld 8 (.int .i64) 7,
    bi 9 .lss 6 8,
    mv 10 9,
    og 11 (.fieldAddr (.d tPlace) 0 (.t 2)) 10 false,
    og 12 (.load (.d (.int .i64)) (.t 11)) 10 false,
    og 13 (.fieldAddr (.d tPlace) 0 (.t 3)) 10 false,
    og 14 (.load (.d (.int .i64)) (.t 13)) 10 false,
    og 15 (.bin .eql (.t 12) (.t 14)) 10 false,
    og 16 (.move (.t 15)) 10 false,
    og 17 (.fieldAddr (.d tPlace) 1 (.t 2)) 16 true,
    og 18 (.load (.d (.int .i64)) (.t 17)) 16 true,
    og 19 (.fieldAddr (.d tPlace) 1 (.t 3)) 16 true,
    og 20 (.load (.d (.int .i64)) (.t 19)) 16 true,
    og 21 (.bin .lss (.t 18) (.t 20)) 16 true,
    og 22 (.pick (.t 16) (.t 21) (.c .bool false)) 10 false,
    o_ 23 (.pick (.t 10) (.c .bool true) (.t 22)),
    mv 4 23]) (c56_2)) (c56_1)
def innkeepref14_Less.fn:Fn:=⟨2,[.tmp 4],.seq (.reg false [bx 2 0 0,
    bx 3 1 1,
    o_ 4 (.move (.c .bool false))]) (c56_0)⟩
def c33_12:Cd:=td [7,8,9]
def c33_13:Cd:=.skip
def c33_27:Cd:=.exit 2
def c33_11:Cd:=.cond (.t 10) (.seq (td [10]) (c33_13)) (.seq (td [10]) (c33_27))
def c33_17:Cd:=td [13,14,15,16,17,18,19,20,21,22,23,24,25,26,27,28]
def c33_18:Cd:=.exit 3
def c33_20:Cd:=.skip
def c33_16:Cd:=.cond (.t 29) (.seq (td [29]) (c33_18)) (.seq (td [29]) (c33_20))
def c33_22:Cd:=td [30,31,32,33,34,35,36,37,38]
def c33_25:Cd:=td [40,41,42,43]
def c33_24:Cd:=.seq (.reg false [mv 40 0,
    mv 41 6,
    ix 42 (.sl tPlace) 40 41,
    ld 43 tPlace 42,
    sr tPlace 5 43]) (c33_25)
def c33_23:Cd:=.seq (.reg false [o_ 4 (.move (.c .bool true))]) (c33_24)
def c33_26:Cd:=.skip
def c33_21:Cd:=.cond (.t 39) (.seq (td [39]) (c33_23)) (.seq (td [39]) (c33_26))
def c33_15:Cd:=.seq (.seq (.reg true [mv 30 4,
    nt 31 30,
    mv 32 31,
    og 33 (.move (.t 0)) 32 false,
    og 34 (.move (.t 6)) 32 false,
    og 35 (.index (.sl tPlace) (.t 33) (.t 34)) 32 false,
    og 36 (.load (.d tPlace) (.t 35)) 32 false,
    ogd 37 (.load (.d tPlace) (.t 5)) 32 false [0],
    og 38 (.call (.f 56) [(.t 36),(.t 37)] [.d .bool] [] false) 32 false,
    o_ 39 (.pick (.t 32) (.c .bool true) (.t 38))]) (c33_22)) (c33_21)
def c33_19:Cd:=td [11,12]
def c33_14:Cd:=.seq (.reg false [mv 11 6,
    bc 12 .add 11 1,
    mv 6 12]) (c33_19)
def c33_10:Cd:=.seq (.block 3 (.seq (.seq (.seq (.reg true [mv 13 3,
    od 14 (.len (.t 13)) [3] [],
    bc 15 .gtr 14 0,
    mv 16 15,
    og 17 (.move (.t 3)) 16 true,
    og 18 (.move (.t 3)) 16 true,
    ogd 19 (.len (.t 18)) 16 true [3],
    og 20 (.bin .sub (.t 19) (.c (.int .i64) (1:Int))) 16 true,
    ogd 21 (.index (.sl tPlace) (.t 17) (.t 20)) 16 true [3],
    ogd 22 (.load (.d tPlace) (.t 21)) 16 true [3],
    og 23 (.move (.t 0)) 16 true,
    og 24 (.move (.t 6)) 16 true,
    og 25 (.index (.sl tPlace) (.t 23) (.t 24)) 16 true,
    og 26 (.load (.d tPlace) (.t 25)) 16 true,
    og 27 (.call (.f 56) [(.t 22),(.t 26)] [.d .bool] [] false) 16 true,
    og 28 (.not (.t 27)) 16 true,
    o_ 29 (.pick (.t 16) (.t 28) (.c .bool false))]) (c33_17)) (c33_16)) (c33_15))) (c33_14)
def c33_9:Cd:=.tidy [] [] [] (some 4)
def c33_8:Cd:=.seq (.seq (.seq (.seq (.reg false [mv 7 6,
    mv 8 0,
    le 9 8,
    bi 10 .lss 7 9]) (c33_12)) (c33_11)) (c33_10)) (c33_9)
def c33_7:Cd:=.block 2 (.loop (c33_8))
def c33_30:Cd:=td [44]
def c33_33:Cd:=td [46]
def c33_32:Cd:=.ret
def c33_31:Cd:=.seq (.seq (.reg false [mv 46 3,
    mv 2 46]) (c33_33)) (c33_32)
def c33_34:Cd:=.skip
def c33_29:Cd:=.cond (.t 45) (.seq (td [45]) (c33_31)) (.seq (td [45]) (c33_34))
def c33_35:Cd:=td [47,48,49,50]
def c33_28:Cd:=.seq (.reg false [mv 47 3,
    ld 48 tPlace 5,
    o_ 49 (.slice 1 tPlace [(.t 48)]),
    o_ 50 (.append 2 tPlace (.t 47) (.t 49)),
    mv 3 50]) (c33_35)
def c33_6:Cd:=.seq (.seq (.seq (.reg false [mv 44 4,
    nt 45 44]) (c33_30)) (c33_29)) (c33_28)
def c33_5:Cd:=.seq (.seq (.reg false [ci 6 0]) (c33_7)) (c33_6)
def c33_4:Cd:=.seq (.reg false [nb 5 0 tPlace]) (c33_5)
def c33_3:Cd:=.tidy [4,5,6] [(2,3)] [0,1] (some 4)
def c33_2:Cd:=.seq (.block 1 (.seq (.reg false [o_ 4 (.move (.c .bool false))]) (c33_4))) (c33_3)
def c33_1:Cd:=.block 0 (.loop (c33_2))
def c33_0:Cd:=.seq (.reg false [o_ 3 (.mknil 3 tPlace)]) (c33_1)
def innkeepref14_Sort.fn:Fn:=⟨1,[.tmp 2],.seq (.reg false [o_ 2 (.move (.c (.sl tPlace) []))]) (c33_0)⟩
def c12_2:Cd:=td [9,10,11,12,13,14,15,16,17]
def c12_4:Cd:=td [18,19]
def c12_7:Cd:=td [20,21,22,23,24,25,26,27,28,29,30,31,32,33,34,35,36,37,38,39,40]
def c12_9:Cd:=td [42,43,44,45,46,47,48,49,50,51,52,53,54,55,56,57,58]
def c12_8:Cd:=.seq (.reg true [mv 42 7,
    od 43 (.fieldAddr (.d tWorld) 0 (.t 3)) [0] [],
    od 44 (.fieldAddr (.d tDesc) 0 (.t 43)) [0] [],
    od 45 (.load (.d (.sl (.arr 4 (.int .i64)))) (.t 44)) [0] [],
    od 46 (.fieldAddr (.d tWorld) 1 (.t 3)) [0] [],
    od 47 (.load (.d (.sl (.int .i64))) (.t 46)) [0] [],
    mv 48 1,
    ix 49 (.sl (.int .i64)) 47 48,
    ld 50 (.int .i64) 49,
    od 51 (.fieldAddr (.d tCmd) 1 (.t 5)) [1] [],
    od 52 (.load (.d (.int .i64)) (.t 51)) [1] [],
    o_ 53 (.index (.sl (.arr 4 (.int .i64))) (.t 45) (.t 50)),
    o_ 54 (.index (.arr 4 (.int .i64)) (.t 53) (.t 52)),
    ld 55 (.int .i64) 54,
    o_ 56 (.build tPlace [(0,(.c (.int .i64) (0:Int))),(1,(.t 55))] []),
    od 57 (.slice 3 tPlace [(.t 56)]) [] [3],
    od 58 (.append 4 tPlace (.t 42) (.t 57)) [3] [2,4],
    mv 7 58]) (c12_9)
def c12_18:Cd:=.skip
def c12_6:Cd:=.cond (.t 41) (.seq (td [41]) (c12_8)) (.seq (td [41]) (c12_18))
def c12_12:Cd:=td [59,60,61,62,63,64,65,66,67,68,69,70,71,72,73,74,75,76,77,78,79,80]
def c12_14:Cd:=td [82,83,84,85,86,87]
def c12_13:Cd:=.seq (.reg false [mv 82 7,
    fa 83 tCmd 4 5,
    ld 84 (.int .i64) 83,
    o_ 85 (.build tPlace [(0,(.c (.int .i64) (1:Int))),(1,(.t 84))] []),
    o_ 86 (.slice 5 tPlace [(.t 85)]),
    o_ 87 (.append 6 tPlace (.t 82) (.t 86)),
    mv 7 87]) (c12_14)
def c12_17:Cd:=.skip
def c12_11:Cd:=.cond (.t 81) (.seq (td [81]) (c12_13)) (.seq (td [81]) (c12_17))
def c12_16:Cd:=td [88,89]
def c12_15:Cd:=.ret
def c12_10:Cd:=.seq (.seq (.reg false [mv 88 7,
    o_ 89 (.call (.f 33) [(.t 88)] [.d (.sl tPlace)] [] false),
    mv 6 89]) (c12_16)) (c12_15)
def c12_5:Cd:=.seq (.seq (.seq (.reg false [mv 59 8,
    bc 60 .eql 59 2,
    mv 61 60,
    og 62 (.move (.t 8)) 61 false,
    og 63 (.bin .eql (.t 62) (.c (.int .i64) (7:Int))) 61 false,
    o_ 64 (.pick (.t 61) (.c .bool true) (.t 63)),
    mv 65 64,
    og 66 (.move (.t 8)) 65 false,
    og 67 (.bin .eql (.t 66) (.c (.int .i64) (8:Int))) 65 false,
    o_ 68 (.pick (.t 65) (.c .bool true) (.t 67)),
    mv 69 68,
    og 70 (.fieldAddr (.d tCmd) 4 (.t 5)) 69 true,
    og 71 (.load (.d (.int .i64)) (.t 70)) 69 true,
    og 72 (.bin .geq (.t 71) (.c (.int .i64) (0:Int))) 69 true,
    o_ 73 (.pick (.t 69) (.t 72) (.c .bool false)),
    mv 74 73,
    og 75 (.fieldAddr (.d tCmd) 4 (.t 5)) 74 true,
    og 76 (.load (.d (.int .i64)) (.t 75)) 74 true,
    og 77 (.fieldAddr (.d tWorld) 1 (.t 3)) 74 true,
    og 78 (.load (.d (.sl (.int .i64))) (.t 77)) 74 true,
    og 79 (.len (.t 78)) 74 true,
    og 80 (.bin .lss (.t 76) (.t 79)) 74 true,
    o_ 81 (.pick (.t 74) (.t 80) (.c .bool false))]) (c12_12)) (c12_11)) (c12_10)
def c12_3:Cd:=.seq (.seq (.seq (.reg true [mv 20 8,
    bc 21 .eql 20 1,
    mv 22 21,
    og 23 (.move (.t 8)) 22 false,
    og 24 (.bin .eql (.t 23) (.c (.int .i64) (2:Int))) 22 false,
    o_ 25 (.pick (.t 22) (.c .bool true) (.t 24)),
    mv 26 25,
    ogd 27 (.fieldAddr (.d tWorld) 0 (.t 3)) 26 true [0],
    ogd 28 (.fieldAddr (.d tDesc) 0 (.t 27)) 26 true [0],
    ogd 29 (.load (.d (.sl (.arr 4 (.int .i64)))) (.t 28)) 26 true [0],
    ogd 30 (.fieldAddr (.d tWorld) 1 (.t 3)) 26 true [0],
    ogd 31 (.load (.d (.sl (.int .i64))) (.t 30)) 26 true [0],
    og 32 (.move (.t 1)) 26 true,
    og 33 (.index (.sl (.int .i64)) (.t 31) (.t 32)) 26 true,
    og 34 (.load (.d (.int .i64)) (.t 33)) 26 true,
    ogd 35 (.fieldAddr (.d tCmd) 1 (.t 5)) 26 true [1],
    ogd 36 (.load (.d (.int .i64)) (.t 35)) 26 true [1],
    og 37 (.index (.sl (.arr 4 (.int .i64))) (.t 29) (.t 34)) 26 true,
    og 38 (.index (.arr 4 (.int .i64)) (.t 37) (.t 36)) 26 true,
    og 39 (.load (.d (.int .i64)) (.t 38)) 26 true,
    og 40 (.bin .neq (.t 39) (.c (.int .i64) ((-1):Int))) 26 true,
    o_ 41 (.pick (.t 26) (.t 40) (.c .bool false))]) (c12_7)) (c12_6)) (c12_5)
def c12_1:Cd:=.seq (.seq (.reg false [fa 18 tCmd 0 5,
    ld 19 (.int .i64) 18,
    mv 8 19]) (c12_4)) (c12_3)
def c12_0:Cd:=.seq (.seq (.reg false [fa 9 tWorld 1 3,
    o_ 10 (.load (.d (.sl (.int .i64))) (.t 9)),
    mv 11 1,
    ix 12 (.sl (.int .i64)) 10 11,
    ld 13 (.int .i64) 12,
    o_ 14 (.build tPlace [(0,(.c (.int .i64) (0:Int))),(1,(.t 13))] []),
    mv 15 1,
    o_ 16 (.build tPlace [(0,(.c (.int .i64) (1:Int))),(1,(.t 15))] []),
    o_ 17 (.slice 2 tPlace [(.t 14),(.t 16)]),
    mv 7 17]) (c12_2)) (c12_1)
def innkeepref16_Of.fn:Fn:=⟨3,[.tmp 6],.seq (.reg false [bx 3 0 0,
    bx 5 1 2,
    o_ 6 (.move (.c (.sl tPlace) []))]) (c12_0)⟩
def c37_7:Cd:=td [8,9,10]
def c37_8:Cd:=.skip
def c37_16:Cd:=.exit 0
def c37_6:Cd:=.cond (.t 11) (.seq (td [11]) (c37_8)) (.seq (td [11]) (c37_16))
def c37_11:Cd:=td [14,15,16,17,18,19,20,21,22,23,24,25,26,27,28]
def c37_13:Cd:=.ret
def c37_12:Cd:=.seq (.reg false [o_ 6 (.move (.c .bool true))]) (c37_13)
def c37_14:Cd:=.skip
def c37_10:Cd:=.cond (.t 29) (.seq (td [29]) (c37_12)) (.seq (td [29]) (c37_14))
def c37_15:Cd:=td [12,13]
def c37_9:Cd:=.seq (.reg false [mv 12 7,
    bc 13 .add 12 1,
    mv 7 13]) (c37_15)
def c37_5:Cd:=.seq (.block 1 (.seq (.seq (.reg false [mv 14 0,
    mv 15 7,
    ix 16 (.sl tPlace) 14 15,
    fa 17 tPlace 0 16,
    ld 18 (.int .i64) 17,
    mv 19 1,
    bi 20 .eql 18 19,
    mv 21 20,
    og 22 (.move (.t 0)) 21 true,
    og 23 (.move (.t 7)) 21 true,
    og 24 (.index (.sl tPlace) (.t 22) (.t 23)) 21 true,
    og 25 (.fieldAddr (.d tPlace) 1 (.t 24)) 21 true,
    og 26 (.load (.d (.int .i64)) (.t 25)) 21 true,
    og 27 (.move (.t 2)) 21 true,
    og 28 (.bin .eql (.t 26) (.t 27)) 21 true,
    o_ 29 (.pick (.t 21) (.t 28) (.c .bool false))]) (c37_11)) (c37_10))) (c37_9)
def c37_4:Cd:=.tidy [] [] [] (some 0)
def c37_3:Cd:=.seq (.seq (.seq (.seq (.reg false [mv 8 7,
    mv 9 0,
    le 10 9,
    bi 11 .lss 8 10]) (c37_7)) (c37_6)) (c37_5)) (c37_4)
def c37_2:Cd:=.block 0 (.loop (c37_3))
def c37_17:Cd:=.ret
def c37_1:Cd:=.seq (.reg false [o_ 6 (.move (.c .bool false))]) (c37_17)
def c37_0:Cd:=.seq (.seq (.reg false [ci 7 0]) (c37_2)) (c37_1)
def innkeepref16_Has.fn:Fn:=⟨3,[.tmp 6],.seq (.reg false [o_ 6 (.move (.c .bool false))]) (c37_0)⟩
def c14_7:Cd:=td [12,13,14,15]
def c14_8:Cd:=.skip
def c14_18:Cd:=.exit 0
def c14_6:Cd:=.cond (.t 16) (.seq (td [16]) (c14_8)) (.seq (td [16]) (c14_18))
def c14_11:Cd:=td [19,20,21,22,23,24,25,26,27,28,29,30,31,32,33,34,35,36,37,38,39,40,41,42]
def c14_13:Cd:=td [43,44,45,46,47,48,49]
def c14_15:Cd:=.ret
def c14_14:Cd:=.seq (.reg false [o_ 6 (.move (.c .bool false))]) (c14_15)
def c14_16:Cd:=.skip
def c14_12:Cd:=.cond (.t 50) (.seq (td [50]) (c14_14)) (.seq (td [50]) (c14_16))
def c14_10:Cd:=.seq (.seq (.reg false [mv 43 8,
    nt 44 43,
    mv 45 44,
    og 46 (.move (.t 0)) 45 true,
    og 47 (.move (.t 7)) 45 true,
    og 48 (.call (.f 37) [(.t 46),(.c (.int .i64) (1:Int)),(.t 47)] [.d .bool] [] false) 45 true,
    og 49 (.not (.t 48)) 45 true,
    o_ 50 (.pick (.t 45) (.t 49) (.c .bool false))]) (c14_13)) (c14_12)
def c14_17:Cd:=td [17,18]
def c14_9:Cd:=.seq (.reg false [mv 17 7,
    bc 18 .add 17 1,
    mv 7 18]) (c14_17)
def c14_5:Cd:=.seq (.block 1 (.seq (.seq (.reg true [od 19 (.fieldAddr (.d tWorld) 1 (.t 4)) [0] [],
    od 20 (.load (.d (.sl (.int .i64))) (.t 19)) [0] [],
    mv 21 7,
    ix 22 (.sl (.int .i64)) 20 21,
    ld 23 (.int .i64) 22,
    od 24 (.fieldAddr (.d tWorld) 1 (.t 5)) [1] [],
    od 25 (.load (.d (.sl (.int .i64))) (.t 24)) [1] [],
    mv 26 7,
    ix 27 (.sl (.int .i64)) 25 26,
    ld 28 (.int .i64) 27,
    bi 29 .eql 23 28,
    mv 30 29,
    ogd 31 (.fieldAddr (.d tWorld) 2 (.t 4)) 30 true [0],
    ogd 32 (.load (.d (.sl (.int .i64))) (.t 31)) 30 true [0],
    og 33 (.move (.t 7)) 30 true,
    og 34 (.index (.sl (.int .i64)) (.t 32) (.t 33)) 30 true,
    og 35 (.load (.d (.int .i64)) (.t 34)) 30 true,
    ogd 36 (.fieldAddr (.d tWorld) 2 (.t 5)) 30 true [1],
    ogd 37 (.load (.d (.sl (.int .i64))) (.t 36)) 30 true [1],
    og 38 (.move (.t 7)) 30 true,
    og 39 (.index (.sl (.int .i64)) (.t 37) (.t 38)) 30 true,
    og 40 (.load (.d (.int .i64)) (.t 39)) 30 true,
    og 41 (.bin .eql (.t 35) (.t 40)) 30 true,
    o_ 42 (.pick (.t 30) (.t 41) (.c .bool false)),
    mv 8 42]) (c14_11)) (c14_10))) (c14_9)
def c14_4:Cd:=.tidy [8] [] [] (some 2)
def c14_3:Cd:=.seq (.seq (.seq (.seq (.reg false [mv 12 7,
    fa 13 tWorld 1 4,
    o_ 14 (.load (.d (.sl (.int .i64))) (.t 13)),
    le 15 14,
    bi 16 .lss 12 15]) (c14_7)) (c14_6)) (c14_5)) (c14_4)
def c14_2:Cd:=.block 0 (.loop (c14_3))
def c14_25:Cd:=td [51,52,53,54]
def c14_26:Cd:=.skip
def c14_43:Cd:=.exit 2
def c14_24:Cd:=.cond (.t 55) (.seq (td [55]) (c14_26)) (.seq (td [55]) (c14_43))
def c14_30:Cd:=td [58,59,60,61,62,63,64,65,66,67]
def c14_31:Cd:=.exit 3
def c14_33:Cd:=.skip
def c14_29:Cd:=.cond (.t 68) (.seq (td [68]) (c14_31)) (.seq (td [68]) (c14_33))
def c14_35:Cd:=td [69,70,71]
def c14_37:Cd:=td [72,73,74]
def c14_39:Cd:=td [75,76,77,78,79,80,81,82,83,84,85,86,87,88,89]
def c14_41:Cd:=.ret
def c14_40:Cd:=.seq (.reg false [o_ 6 (.move (.c .bool false))]) (c14_41)
def c14_42:Cd:=.skip
def c14_38:Cd:=.cond (.t 90) (.seq (td [90]) (c14_40)) (.seq (td [90]) (c14_42))
def c14_36:Cd:=.seq (.seq (.reg false [mv 75 0,
    fa 76 tPlace 0 10,
    ld 77 (.int .i64) 76,
    fa 78 tPlace 1 10,
    ld 79 (.int .i64) 78,
    o_ 80 (.call (.f 37) [(.t 75),(.t 77),(.t 79)] [.d .bool] [] false),
    nt 81 80,
    mv 82 81,
    og 83 (.move (.t 0)) 82 false,
    og 84 (.fieldAddr (.d tPlace) 0 (.t 11)) 82 false,
    og 85 (.load (.d (.int .i64)) (.t 84)) 82 false,
    og 86 (.fieldAddr (.d tPlace) 1 (.t 11)) 82 false,
    og 87 (.load (.d (.int .i64)) (.t 86)) 82 false,
    og 88 (.call (.f 37) [(.t 83),(.t 85),(.t 87)] [.d .bool] [] false) 82 false,
    og 89 (.not (.t 88)) 82 false,
    o_ 90 (.pick (.t 82) (.c .bool true) (.t 89))]) (c14_39)) (c14_38)
def c14_34:Cd:=.seq (.seq (.reg false [ld 72 tWorld 5,
    mv 73 9,
    o_ 74 (.call (.f 38) [(.t 72),(.t 73)] [.d tPlace] [] false),
    nb 11 3 tPlace,
    sr tPlace 11 74]) (c14_37)) (c14_36)
def c14_28:Cd:=.seq (.seq (.reg false [ld 69 tWorld 4,
    mv 70 9,
    o_ 71 (.call (.f 38) [(.t 69),(.t 70)] [.d tPlace] [] false),
    nb 10 2 tPlace,
    sr tPlace 10 71]) (c14_35)) (c14_34)
def c14_32:Cd:=td [56,57]
def c14_27:Cd:=.seq (.reg false [mv 56 9,
    bc 57 .add 56 1,
    mv 9 57]) (c14_32)
def c14_23:Cd:=.seq (.block 3 (.seq (.seq (.seq (.reg true [od 58 (.fieldAddr (.d tWorld) 3 (.t 4)) [0] [],
    od 59 (.load (.d (.sl tPlace)) (.t 58)) [0] [],
    mv 60 9,
    ix 61 (.sl tPlace) 59 60,
    ld 62 tPlace 61,
    od 63 (.fieldAddr (.d tWorld) 3 (.t 5)) [1] [],
    od 64 (.load (.d (.sl tPlace)) (.t 63)) [1] [],
    mv 65 9,
    ix 66 (.sl tPlace) 64 65,
    ld 67 tPlace 66,
    o_ 68 (.eqs tPlace false (.t 62) (.t 67))]) (c14_30)) (c14_29)) (c14_28))) (c14_27)
def c14_22:Cd:=.tidy [10,11] [] [] (some 2)
def c14_21:Cd:=.seq (.seq (.seq (.seq (.reg false [mv 51 9,
    fa 52 tWorld 3 4,
    ld 53 (.sl tPlace) 52,
    le 54 53,
    bi 55 .lss 51 54]) (c14_25)) (c14_24)) (c14_23)) (c14_22)
def c14_20:Cd:=.block 2 (.loop (c14_21))
def c14_44:Cd:=.ret
def c14_19:Cd:=.seq (.reg false [o_ 6 (.move (.c .bool true))]) (c14_44)
def c14_1:Cd:=.seq (.seq (.reg false [ci 9 0]) (c14_20)) (c14_19)
def c14_0:Cd:=.seq (.seq (.reg false [ci 7 0]) (c14_2)) (c14_1)
def innkeepref16_Covers.fn:Fn:=⟨3,[.tmp 6],.seq (.reg false [bx 4 0 1,
    bx 5 1 2,
    o_ 6 (.move (.c .bool false))]) (c14_0)⟩
def c3_3:Cd:=td [12,13,14,15,16,17,18,19,20,21,22,23,24,25,26,27,28,29,30,31,32]
def c3_6:Cd:=td [34]
def c3_5:Cd:=.ret
def c3_4:Cd:=.seq (.seq (.reg false [o_ 34 (.call (.f 5) [] [.d .bool] [] false),
    mv 8 34]) (c3_6)) (c3_5)
def c3_7:Cd:=.skip
def c3_2:Cd:=.cond (.t 33) (.seq (td [33]) (c3_4)) (.seq (td [33]) (c3_7))
def c3_9:Cd:=td [35,36,37,38,39,40]
def c3_11:Cd:=td [11,41,42,43,44,45,46,47]
def c3_13:Cd:=td [48,49,50,51,52,53,54,55,56,57,58,59,60,61,62,63,64,65,66,67]
def c3_12:Cd:=.ret
def c3_10:Cd:=.seq (.seq (.reg true [od 48 (.load (.d tWorld) (.t 4)) [0] [],
    mv 49 9,
    od 50 (.load (.d tCmd) (.t 6)) [1] [],
    o_ 51 (.call (.f 11) [(.t 48),(.t 49),(.t 50)] [.d (.sl tPlace)] [] false),
    od 52 (.load (.d tWorld) (.t 4)) [0] [],
    mv 53 9,
    od 54 (.load (.d tCmd) (.t 6)) [1] [],
    o_ 55 (.call (.f 12) [(.t 52),(.t 53),(.t 54)] [.d (.sl tPlace)] [] false),
    o_ 56 (.call (.f 10) [(.t 51),(.t 55)] [.d .bool] [] false),
    mv 57 56,
    og 58 (.move (.t 3)) 57 true,
    ogd 59 (.load (.d tWorld) (.t 4)) 57 true [0],
    ogd 60 (.load (.d tWorld) (.t 10)) 57 true [2],
    og 61 (.call (.f 13) [(.t 58),(.t 59),(.t 60)] [.d .bool] [] false) 57 true,
    og 62 (.move (.t 3)) 57 true,
    ogd 63 (.load (.d tWorld) (.t 4)) 57 true [0],
    ogd 64 (.load (.d tWorld) (.t 10)) 57 true [2],
    og 65 (.call (.f 14) [(.t 62),(.t 63),(.t 64)] [.d .bool] [] false) 57 true,
    og 66 (.eqs .bool false (.t 61) (.t 65)) 57 true,
    o_ 67 (.pick (.t 57) (.t 66) (.c .bool false)),
    mv 8 67]) (c3_13)) (c3_12)
def c3_8:Cd:=.seq (.seq (.reg false [ld 42 tWorld 4,
    mv 43 9,
    ld 44 tCmd 6,
    o_ 45 (.call (.f 9) [(.t 42),(.t 43),(.t 44)] [.d tWorld,.d tReply] [] false),
    mv 41 45,
    xt 46 41 0,
    xt 47 41 1,
    nb 10 2 tWorld,
    nb 11 3 tReply,
    sr tWorld 10 46,
    sr tReply 11 47]) (c3_11)) (c3_10)
def c3_1:Cd:=.seq (.seq (.reg false [mv 35 1,
    o_ 36 (.conv .i64 (.t 35)),
    fa 37 tWorld 1 4,
    o_ 38 (.load (.d (.sl (.int .i64))) (.t 37)),
    le 39 38,
    bi 40 .rem 36 39,
    mv 9 40]) (c3_9)) (c3_8)
def c3_0:Cd:=.seq (.seq (.seq (.reg false [o_ 12 (.call (.f 5) [] [.d .bool] [] false),
    nt 13 12,
    mv 14 13,
    og 15 (.load (.d tWorld) (.t 4)) 14 false,
    og 16 (.call (.f 6) [(.t 15)] [.d .bool] [] false) 14 false,
    og 17 (.not (.t 16)) 14 false,
    o_ 18 (.pick (.t 14) (.c .bool true) (.t 17)),
    mv 19 18,
    og 20 (.load (.d tCmd) (.t 6)) 19 false,
    og 21 (.call (.f 7) [(.t 20)] [.d .bool] [] false) 19 false,
    og 22 (.not (.t 21)) 19 false,
    o_ 23 (.pick (.t 19) (.c .bool true) (.t 22)),
    mv 24 23,
    og 25 (.load (.d tCmd) (.t 6)) 24 false,
    og 26 (.call (.f 8) [(.t 25)] [.d .bool] [] false) 24 false,
    og 27 (.not (.t 26)) 24 false,
    o_ 28 (.pick (.t 24) (.c .bool true) (.t 27)),
    mv 29 28,
    og 30 (.move (.t 3)) 29 false,
    og 31 (.len (.t 30)) 29 false,
    og 32 (.bin .gtr (.t 31) (.c (.int .i64) (40:Int))) 29 false,
    o_ 33 (.pick (.t 29) (.c .bool true) (.t 32))]) (c3_3)) (c3_2)) (c3_1)
def innkeeplaw16_FootTells.fn:Fn:=⟨4,[.tmp 8],.seq (.reg false [bx 4 0 0,
    bx 6 1 2,
    o_ 8 (.move (.c .bool false))]) (c3_0)⟩
def c4_3:Cd:=td [15,16,17,18,19,20,21,22,23,24,25,26,27,28,29,30]
def c4_6:Cd:=td [32]
def c4_5:Cd:=.ret
def c4_4:Cd:=.seq (.seq (.reg false [o_ 32 (.call (.f 5) [] [.d .bool] [] false),
    mv 6 32]) (c4_6)) (c4_5)
def c4_7:Cd:=.skip
def c4_2:Cd:=.cond (.t 31) (.seq (td [31]) (c4_4)) (.seq (td [31]) (c4_7))
def c4_9:Cd:=td [33,34,35,36,37,38]
def c4_11:Cd:=td [39,40,41,42]
def c4_20:Cd:=td [43,44,45]
def c4_21:Cd:=.skip
def c4_30:Cd:=.exit 0
def c4_19:Cd:=.cond (.t 46) (.seq (td [46]) (c4_21)) (.seq (td [46]) (c4_30))
def c4_24:Cd:=td [49,50,51,52,53]
def c4_26:Cd:=td [55,56]
def c4_25:Cd:=.seq (.reg false [mv 55 9,
    bc 56 .add 55 1,
    mv 9 56]) (c4_26)
def c4_29:Cd:=td [57,58]
def c4_28:Cd:=.seq (.reg false [mv 57 10,
    bc 58 .add 57 1,
    mv 10 58]) (c4_29)
def c4_23:Cd:=.cond (.t 54) (.seq (td [54]) (c4_25)) (.seq (td [54]) (c4_28))
def c4_27:Cd:=td [47,48]
def c4_22:Cd:=.seq (.reg false [mv 47 11,
    bc 48 .add 47 1,
    mv 11 48]) (c4_27)
def c4_18:Cd:=.seq (.block 1 (.seq (.seq (.reg false [mv 49 8,
    mv 50 11,
    ix 51 (.sl tPlace) 49 50,
    fa 52 tPlace 0 51,
    ld 53 (.int .i64) 52,
    bc 54 .eql 53 0]) (c4_24)) (c4_23))) (c4_22)
def c4_17:Cd:=.tidy [] [] [] (some 2)
def c4_16:Cd:=.seq (.seq (.seq (.seq (.reg false [mv 43 11,
    mv 44 8,
    le 45 44,
    bi 46 .lss 43 45]) (c4_20)) (c4_19)) (c4_18)) (c4_17)
def c4_15:Cd:=.block 0 (.loop (c4_16))
def c4_32:Cd:=td [59,60,61,62,63,64,65,66]
def c4_34:Cd:=td [67,68,69,70,71,72,73,74,75,76,77,78,79]
def c4_36:Cd:=td [80,81,82,83,84,85,86,87,88,89,90,91,92,93,94]
def c4_38:Cd:=td [95,96,97,98,99,100,101,102,103,104,105,106,107,108,109,110,111,112,113,114,115,116,117,118,119,120,121]
def c4_37:Cd:=.ret
def c4_35:Cd:=.seq (.seq (.reg false [mv 95 9,
    bc 96 .geq 95 1,
    mv 97 96,
    og 98 (.move (.t 9)) 97 true,
    og 99 (.bin .leq (.t 98) (.c (.int .i64) (2:Int))) 97 true,
    o_ 100 (.pick (.t 97) (.t 99) (.c .bool false)),
    mv 101 100,
    og 102 (.move (.t 9)) 101 true,
    og 103 (.bin .eql (.t 102) (.c (.int .i64) (1:Int))) 101 true,
    og 104 (.move (.t 103)) 101 true,
    og 105 (.move (.t 12)) 104 false,
    og 106 (.pick (.t 104) (.c .bool true) (.t 105)) 101 true,
    o_ 107 (.pick (.t 101) (.t 106) (.c .bool false)),
    mv 108 107,
    og 109 (.move (.t 10)) 108 true,
    og 110 (.bin .geq (.t 109) (.c (.int .i64) (1:Int))) 108 true,
    o_ 111 (.pick (.t 108) (.t 110) (.c .bool false)),
    mv 112 111,
    og 113 (.move (.t 10)) 112 true,
    og 114 (.bin .leq (.t 113) (.c (.int .i64) (2:Int))) 112 true,
    o_ 115 (.pick (.t 112) (.t 114) (.c .bool false)),
    mv 116 115,
    og 117 (.move (.t 10)) 116 true,
    og 118 (.bin .eql (.t 117) (.c (.int .i64) (2:Int))) 116 true,
    og 119 (.move (.t 14)) 116 true,
    og 120 (.eqs .bool false (.t 118) (.t 119)) 116 true,
    o_ 121 (.pick (.t 116) (.t 120) (.c .bool false)),
    mv 6 121]) (c4_38)) (c4_37)
def c4_33:Cd:=.seq (.seq (.reg false [mv 80 13,
    mv 81 80,
    og 82 (.fieldAddr (.d tCmd) 4 (.t 5)) 81 true,
    og 83 (.load (.d (.int .i64)) (.t 82)) 81 true,
    og 84 (.fieldAddr (.d tWorld) 1 (.t 3)) 81 true,
    og 85 (.load (.d (.sl (.int .i64))) (.t 84)) 81 true,
    og 86 (.len (.t 85)) 81 true,
    og 87 (.bin .lss (.t 83) (.t 86)) 81 true,
    o_ 88 (.pick (.t 81) (.t 87) (.c .bool false)),
    mv 89 88,
    og 90 (.fieldAddr (.d tCmd) 4 (.t 5)) 89 true,
    og 91 (.load (.d (.int .i64)) (.t 90)) 89 true,
    og 92 (.move (.t 7)) 89 true,
    og 93 (.bin .neq (.t 91) (.t 92)) 89 true,
    o_ 94 (.pick (.t 89) (.t 93) (.c .bool false)),
    mv 14 94]) (c4_36)) (c4_35)
def c4_31:Cd:=.seq (.seq (.reg false [fa 67 tCmd 0 5,
    ld 68 (.int .i64) 67,
    bc 69 .eql 68 2,
    mv 70 69,
    og 71 (.fieldAddr (.d tCmd) 0 (.t 5)) 70 false,
    og 72 (.load (.d (.int .i64)) (.t 71)) 70 false,
    og 73 (.bin .eql (.t 72) (.c (.int .i64) (7:Int))) 70 false,
    o_ 74 (.pick (.t 70) (.c .bool true) (.t 73)),
    mv 75 74,
    og 76 (.fieldAddr (.d tCmd) 0 (.t 5)) 75 false,
    og 77 (.load (.d (.int .i64)) (.t 76)) 75 false,
    og 78 (.bin .eql (.t 77) (.c (.int .i64) (8:Int))) 75 false,
    o_ 79 (.pick (.t 75) (.c .bool true) (.t 78)),
    mv 13 79]) (c4_34)) (c4_33)
def c4_14:Cd:=.seq (.seq (.reg false [fa 59 tCmd 0 5,
    ld 60 (.int .i64) 59,
    bc 61 .eql 60 1,
    mv 62 61,
    og 63 (.fieldAddr (.d tCmd) 0 (.t 5)) 62 false,
    og 64 (.load (.d (.int .i64)) (.t 63)) 62 false,
    og 65 (.bin .eql (.t 64) (.c (.int .i64) (2:Int))) 62 false,
    o_ 66 (.pick (.t 62) (.c .bool true) (.t 65)),
    mv 12 66]) (c4_32)) (c4_31)
def c4_13:Cd:=.seq (.seq (.reg false [ci 11 0]) (c4_15)) (c4_14)
def c4_12:Cd:=.seq (.reg false [ci 10 0]) (c4_13)
def c4_10:Cd:=.seq (.reg false [ci 9 0]) (c4_12)
def c4_8:Cd:=.seq (.seq (.reg false [ld 39 tWorld 3,
    mv 40 7,
    ld 41 tCmd 5,
    o_ 42 (.call (.f 11) [(.t 39),(.t 40),(.t 41)] [.d (.sl tPlace)] [] false),
    mv 8 42]) (c4_11)) (c4_10)
def c4_1:Cd:=.seq (.seq (.reg false [mv 33 1,
    o_ 34 (.conv .i64 (.t 33)),
    fa 35 tWorld 1 3,
    o_ 36 (.load (.d (.sl (.int .i64))) (.t 35)),
    le 37 36,
    bi 38 .rem 34 37,
    mv 7 38]) (c4_9)) (c4_8)
def c4_0:Cd:=.seq (.seq (.seq (.reg false [o_ 15 (.call (.f 5) [] [.d .bool] [] false),
    nt 16 15,
    mv 17 16,
    og 18 (.load (.d tWorld) (.t 3)) 17 false,
    og 19 (.call (.f 6) [(.t 18)] [.d .bool] [] false) 17 false,
    og 20 (.not (.t 19)) 17 false,
    o_ 21 (.pick (.t 17) (.c .bool true) (.t 20)),
    mv 22 21,
    og 23 (.load (.d tCmd) (.t 5)) 22 false,
    og 24 (.call (.f 7) [(.t 23)] [.d .bool] [] false) 22 false,
    og 25 (.not (.t 24)) 22 false,
    o_ 26 (.pick (.t 22) (.c .bool true) (.t 25)),
    mv 27 26,
    og 28 (.load (.d tCmd) (.t 5)) 27 false,
    og 29 (.call (.f 8) [(.t 28)] [.d .bool] [] false) 27 false,
    og 30 (.not (.t 29)) 27 false,
    o_ 31 (.pick (.t 27) (.c .bool true) (.t 30))]) (c4_3)) (c4_2)) (c4_1)
def innkeeplaw16_FootFew.fn:Fn:=⟨3,[.tmp 6],.seq (.reg false [bx 3 0 0,
    bx 5 1 2,
    o_ 6 (.move (.c .bool false))]) (c4_0)⟩
def prog:FuncId→Option Fn
  | 3=>some innkeeplaw16_FootTells.fn
  | 4=>some innkeeplaw16_FootFew.fn
  | 5=>some innkeeplaw16_awake.fn
  | 6=>some innkeeplaw16_fits.fn
  | 7=>some innkeepref03_Few.fn
  | 8=>some innkeepref03_May.fn
  | 9=>some innkeepref13_Do.fn
  | 10=>some innkeepref14_Same.fn
  | 11=>some foot_Of.fn
  | 12=>some innkeepref16_Of.fn
  | 13=>some foot_Covers.fn
  | 14=>some innkeepref16_Covers.fn
  | 15=>some innkeepref06_New.fn
  | 16=>some innkeepref06_Copied.fn
  | 17=>some innkeepref06_Few.fn
  | 18=>some innkeepref06_Right.fn
  | 19=>some innkeepref03_fit.fn
  | 20=>some innkeepref03_row.fn
  | 21=>some innkeepref08_Move.fn
  | 22=>some innkeepref08_Push.fn
  | 23=>some innkeepref09_Get.fn
  | 24=>some innkeepref09_Drop.fn
  | 25=>some innkeepref10_Put.fn
  | 26=>some innkeepref10_Take.fn
  | 27=>some innkeepref11_Give.fn
  | 28=>some innkeepref11_Trade.fn
  | 29=>some innkeepref12_Look.fn
  | 30=>some innkeepref12_Own.fn
  | 31=>some ways_Exit.fn
  | 33=>some innkeepref14_Sort.fn
  | 34=>some foot_Covers_1.fn
  | 35=>some slices_Contains_sapi_Key_api_Key.fn
  | 36=>some tree_Root.fn
  | 37=>some innkeepref16_Has.fn
  | 38=>some innkeepref07_Root.fn
  | 39=>some innkeepref06_May.fn
  | 40=>some innkeepref06_in.fn
  | 41=>some innkeepref01_Is.fn
  | 42=>some innkeepref06_Depth.fn
  | 43=>some innkeepref06_Many.fn
  | 44=>some innkeepref06_Cap.fn
  | 45=>some innkeepref08_pass.fn
  | 46=>some innkeepref07_Room.fn
  | 47=>some innkeepref09_To.fn
  | 48=>some innkeepref10_is.fn
  | 49=>some innkeepref10_Near.fn
  | 50=>some innkeepref07_Within.fn
  | 51=>some innkeepref01_Swap.fn
  | 52=>some innkeepref12_Present.fn
  | 53=>some innkeepref07_Under.fn
  | 56=>some innkeepref14_Less.fn
  | 57=>some slices_Index_sapi_Key_api_Key.fn
  | 59=>some tree_up.fn
  | _=>none
end Go.Proofs.Ytmemggdjnfccfaa.Ghost
