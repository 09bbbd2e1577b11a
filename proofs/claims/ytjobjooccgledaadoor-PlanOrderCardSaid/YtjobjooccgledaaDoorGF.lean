/- The functions as ghost code. Conditions: none; no statement is proved here. -/
import Derived.Test.YtjobjooccgledaaDoorA1
set_option linter.unusedVariables false
set_option linter.unusedSimpArgs false
set_option linter.unusedSectionVars false
set_option linter.unnecessarySimpa false
namespace Go.Proofs.YtjobjooccgledaaDoor.Ghost
open Go
def o_ (d:Nat) (x:GOp):Ln:=⟨some d,x,none,[],[]⟩
def on_ (x:GOp):Ln:=⟨none,x,none,[],[]⟩
def og (d:Nat) (x:GOp) (g:Nat) (b:Bool):Ln:=⟨some d,x,some (g,b),[],[]⟩
def od (d:Nat) (x:GOp) (r w:List Nat):Ln:=⟨some d,x,none,r,w⟩
def ogd (d:Nat) (x:GOp) (g:Nat) (b:Bool) (r:List Nat):Ln:=⟨some d,x,some (g,b),r,[]⟩
def mv (d i:Nat):Ln:=⟨some d,.move (.t i),none,[],[]⟩
def ld (d:Nat) (t:Ty) (i:Nat):Ln:=⟨some d,.load (.d t) (.t i),none,[],[]⟩
def fa (d:Nat) (t:Ty) (j i:Nat):Ln:=⟨some d,.fieldAddr (.d t) j (.t i),none,[],[]⟩
def bi (d:Nat) (b:BinOp) (i j:Nat):Ln:=⟨some d,.bin b (.t i) (.t j),none,[],[]⟩
def bc (d:Nat) (b:BinOp) (i:Nat) (n:Int):Ln:=⟨some d,.bin b (.t i) (.c (.int .i64) n),none,[],[]⟩
def ix (d:Nat) (t:IT) (i j:Nat):Ln:=⟨some d,.index t (.t i) (.t j),none,[],[]⟩
def le (d i:Nat):Ln:=⟨some d,.len (.t i),none,[],[]⟩
def xt (d i j:Nat):Ln:=⟨some d,.extract (.t i) j,none,[],[]⟩
def nt (d i:Nat):Ln:=⟨some d,.not (.t i),none,[],[]⟩
def ci (d:Nat) (n:Int):Ln:=⟨some d,.move (.c (.int .i64) n),none,[],[]⟩
def sr (t:Ty) (i j:Nat):Ln:=⟨none,.store (.d t) (.t i) (.t j),none,[],[]⟩
def nb (d k:Nat) (t:Ty):Ln:=⟨some d,.newbox k t [],none,[],[]⟩
def bx (d k i:Nat):Ln:=⟨some d,.box k (.t i),none,[],[]⟩
def td (l:List Nat):Cd:=.tidy l [] [] none
abbrev tboundsError:Ty:=.st [(.int .i64),(.int .i64),.bool,(.int .u8)]
abbrev terrorAddressString:Ty:=.st [.str,(.int .u64)]
abbrev tDesc:Ty:=.st [(.sl (.arr 4 (.int .i64))),(.sl (.int .i64)),(.sl (.int .i64)),(.sl (.int .i64)),(.sl .bool),(.int .i64),(.int .i64),(.int .i64)]
abbrev tPlace:Ty:=.st [(.int .i64),(.int .i64)]
abbrev tWorld:Ty:=.st [tDesc,(.sl (.int .i64)),(.sl (.int .i64)),(.sl tPlace)]
abbrev tWrite:Ty:=.st [(.int .i64),(.int .i64),(.int .i64),tPlace]
abbrev tCmd:Ty:=.st [(.int .i64),(.int .i64),(.int .i64),(.int .i64),(.int .i64),(.sl (.int .i64)),(.int .i64),(.sl (.int .i64)),(.int .i64)]
abbrev tSeen:Ty:=.st [(.int .i64),tPlace]
abbrev tReply:Ty:=.st [(.int .i64),(.int .i64),(.int .i64),(.sl (.int .i64)),(.sl tSeen),(.int .i64)]
abbrev tSess:Ty:=.st [(.int .i64),(.sl .str),(.int .i64),(.int .i64),(.int .i64),tCmd,(.sl tPlace),(.int .i64),(.sl tWrite),tReply,.bool,(.int .i64),(.int .i64),(.int .i64),(.sl tPlace),(.sl (.int .i64)),(.int .i64)]
def c22_2:Cd:=td [5,6]
def c22_4:Cd:=td [7,8,9,10,11,12]
def c22_6:Cd:=td [13,14,15,16,17,18]
def c22_13:Cd:=td [19,20,21,22]
def c22_14:Cd:=.skip
def c22_18:Cd:=.exit 0
def c22_12:Cd:=.cond (.t 23) (.seq (td [23]) (c22_14)) (.seq (td [23]) (c22_18))
def c22_16:Cd:=td [26,27,28,29,30,31,32,33,34,35,36]
def c22_17:Cd:=td [24,25]
def c22_15:Cd:=.seq (.reg false [mv 24 4,
    bc 25 .add 24 1,
    mv 4 25]) (c22_17)
def c22_11:Cd:=.seq (.block 1 (.seq (.reg true [od 26 (.fieldAddr (.d tWorld) 3 (.t 3)) [2] [],
    od 27 (.load (.d (.sl tPlace)) (.t 26)) [2] [],
    od 28 (.fieldAddr (.d tDesc) 3 (.t 1)) [0] [],
    od 29 (.load (.d (.sl (.int .i64))) (.t 28)) [0] [],
    mv 30 4,
    ix 31 (.sl (.int .i64)) 29 30,
    ld 32 (.int .i64) 31,
    o_ 33 (.build tPlace [(1,(.t 32))] []),
    od 34 (.slice 5 tPlace [(.t 33)]) [] [5],
    od 35 (.append 6 tPlace (.t 27) (.t 34)) [5] [6,9],
    od 36 (.fieldAddr (.d tWorld) 3 (.t 3)) [2] [],
    ⟨none,.store (.d (.sl tPlace)) (.t 36) (.t 35),none,[],[2]⟩]) (c22_16))) (c22_15)
def c22_10:Cd:=.tidy [] [(6,9)] [5] (some 10)
def c22_9:Cd:=.seq (.seq (.seq (.seq (.reg false [mv 19 4,
    fa 20 tDesc 3 1,
    o_ 21 (.load (.d (.sl (.int .i64))) (.t 20)),
    le 22 21,
    bi 23 .lss 19 22]) (c22_13)) (c22_12)) (c22_11)) (c22_10)
def c22_8:Cd:=.block 0 (.loop (c22_9))
def c22_20:Cd:=td [37]
def c22_19:Cd:=.ret
def c22_7:Cd:=.seq (.seq (.reg false [ld 37 tWorld 3,
    sr tWorld 2 37]) (c22_20)) (c22_19)
def c22_5:Cd:=.seq (.seq (.reg false [ci 4 0]) (c22_8)) (c22_7)
def c22_3:Cd:=.seq (.seq (.reg false [fa 13 tWorld 2 3,
    o_ 14 (.load (.d (.sl (.int .i64))) (.t 13)),
    fa 15 tDesc 2 1,
    o_ 16 (.load (.d (.sl (.int .i64))) (.t 15)),
    o_ 17 (.append 4 (.int .i64) (.t 14) (.t 16)),
    fa 18 tWorld 2 3,
    on_ (.store (.d (.sl (.int .i64))) (.t 18) (.t 17))]) (c22_6)) (c22_5)
def c22_1:Cd:=.seq (.seq (.reg false [fa 7 tWorld 1 3,
    o_ 8 (.load (.d (.sl (.int .i64))) (.t 7)),
    fa 9 tDesc 1 1,
    o_ 10 (.load (.d (.sl (.int .i64))) (.t 9)),
    o_ 11 (.append 3 (.int .i64) (.t 8) (.t 10)),
    fa 12 tWorld 1 3,
    on_ (.store (.d (.sl (.int .i64))) (.t 12) (.t 11))]) (c22_4)) (c22_3)
def c22_0:Cd:=.seq (.seq (.reg false [ld 5 tDesc 1,
    o_ 6 (.build tWorld [(0,(.t 5))] [([1],7),([2],8),([3],9)]),
    nb 3 2 tWorld,
    sr tWorld 3 6]) (c22_2)) (c22_1)
def innkeepref06_New.fn:Fn:=⟨1,[.cell 2 (.d tWorld)],.seq (.reg false [bx 1 0 0,
    nb 2 1 tWorld]) (c22_0)⟩
def c21_2:Cd:=td [3,4,5,6,7]
def c21_4:Cd:=td [8,9,10,11,12]
def c21_6:Cd:=td [13,14,15,16,17]
def c21_8:Cd:=td [18]
def c21_7:Cd:=.ret
def c21_5:Cd:=.seq (.seq (.reg false [ld 18 tWorld 1,
    sr tWorld 2 18]) (c21_8)) (c21_7)
def c21_3:Cd:=.seq (.seq (.reg false [o_ 13 (.slice 6 tPlace []),
    fa 14 tWorld 3 1,
    ld 15 (.sl tPlace) 14,
    o_ 16 (.append 7 tPlace (.t 13) (.t 15)),
    fa 17 tWorld 3 1,
    sr (.sl tPlace) 17 16]) (c21_6)) (c21_5)
def c21_1:Cd:=.seq (.seq (.reg false [o_ 8 (.slice 4 (.int .i64) []),
    fa 9 tWorld 2 1,
    o_ 10 (.load (.d (.sl (.int .i64))) (.t 9)),
    o_ 11 (.append 5 (.int .i64) (.t 8) (.t 10)),
    fa 12 tWorld 2 1,
    on_ (.store (.d (.sl (.int .i64))) (.t 12) (.t 11))]) (c21_4)) (c21_3)
def c21_0:Cd:=.seq (.seq (.reg false [o_ 3 (.slice 2 (.int .i64) []),
    fa 4 tWorld 1 1,
    o_ 5 (.load (.d (.sl (.int .i64))) (.t 4)),
    o_ 6 (.append 3 (.int .i64) (.t 3) (.t 5)),
    fa 7 tWorld 1 1,
    on_ (.store (.d (.sl (.int .i64))) (.t 7) (.t 6))]) (c21_2)) (c21_1)
def innkeepref06_Copied.fn:Fn:=⟨1,[.cell 2 (.d tWorld)],.seq (.reg false [bx 1 0 0,
    nb 2 1 tWorld]) (c21_0)⟩
def c11_4:Cd:=td [12]
def c11_9:Cd:=.skip
def c11_19:Cd:=.exit 0
def c11_12:Cd:=td [17,18,19]
def c11_14:Cd:=td [20,21,22,23,24,25]
def c11_16:Cd:=td [27,28,29,30,31,32]
def c11_15:Cd:=.seq (.reg false [mv 27 5,
    mv 28 6,
    mv 29 7,
    o_ 30 (.build tWrite [(0,(.c (.int .i64) (0:Int))),(1,(.t 28)),(2,(.t 29))] []),
    o_ 31 (.slice 2 tWrite [(.t 30)]),
    o_ 32 (.append 3 tWrite (.t 27) (.t 31)),
    mv 5 32]) (c11_16)
def c11_18:Cd:=.skip
def c11_13:Cd:=.cond (.t 26) (.seq (td [26]) (c11_15)) (.seq (td [26]) (c11_18))
def c11_11:Cd:=.seq (.seq (.reg false [fa 20 tWorld 1 2,
    o_ 21 (.load (.d (.sl (.int .i64))) (.t 20)),
    mv 22 6,
    ix 23 (.sl (.int .i64)) 21 22,
    ld 24 (.int .i64) 23,
    mv 25 7,
    bi 26 .neq 24 25]) (c11_14)) (c11_13)
def c11_17:Cd:=td [33]
def c11_10:Cd:=.seq (.reg false [bc 33 .add 15 1,
    mv 15 33]) (c11_17)
def c11_8:Cd:=.seq (.block 1 (.seq (.seq (.reg false [mv 17 15,
    ix 18 (.sl (.int .i64)) 13 15,
    ld 19 (.int .i64) 18,
    mv 6 17,
    mv 7 19]) (c11_12)) (c11_11))) (c11_10)
def c11_7:Cd:=.seq (.cond (.t 16) (.seq (td [16]) (c11_9)) (.seq (td [16]) (c11_19))) (c11_8)
def c11_6:Cd:=.tidy [6,7] [(3,9)] [2] (some 10)
def c11_5:Cd:=.seq (.seq (.reg false [bi 16 .lss 15 14]) (c11_7)) (c11_6)
def c11_3:Cd:=.block 0 (.loop (c11_5))
def c11_22:Cd:=td [34]
def c11_27:Cd:=.skip
def c11_37:Cd:=.exit 2
def c11_30:Cd:=td [39,40,41]
def c11_32:Cd:=td [42,43,44,45,46,47]
def c11_34:Cd:=td [49,50,51,52,53,54]
def c11_33:Cd:=.seq (.reg false [mv 49 5,
    mv 50 8,
    mv 51 9,
    o_ 52 (.build tWrite [(0,(.c (.int .i64) (1:Int))),(1,(.t 50)),(2,(.t 51))] []),
    o_ 53 (.slice 4 tWrite [(.t 52)]),
    o_ 54 (.append 5 tWrite (.t 49) (.t 53)),
    mv 5 54]) (c11_34)
def c11_36:Cd:=.skip
def c11_31:Cd:=.cond (.t 48) (.seq (td [48]) (c11_33)) (.seq (td [48]) (c11_36))
def c11_29:Cd:=.seq (.seq (.reg false [fa 42 tWorld 2 2,
    o_ 43 (.load (.d (.sl (.int .i64))) (.t 42)),
    mv 44 8,
    ix 45 (.sl (.int .i64)) 43 44,
    ld 46 (.int .i64) 45,
    mv 47 9,
    bi 48 .neq 46 47]) (c11_32)) (c11_31)
def c11_35:Cd:=td [55]
def c11_28:Cd:=.seq (.reg false [bc 55 .add 37 1,
    mv 37 55]) (c11_35)
def c11_26:Cd:=.seq (.block 3 (.seq (.seq (.reg false [mv 39 37,
    ix 40 (.sl (.int .i64)) 35 37,
    ld 41 (.int .i64) 40,
    mv 8 39,
    mv 9 41]) (c11_30)) (c11_29))) (c11_28)
def c11_25:Cd:=.seq (.cond (.t 38) (.seq (td [38]) (c11_27)) (.seq (td [38]) (c11_37))) (c11_26)
def c11_24:Cd:=.tidy [8,9] [(5,9)] [4] (some 10)
def c11_23:Cd:=.seq (.seq (.reg false [bi 38 .lss 37 36]) (c11_25)) (c11_24)
def c11_21:Cd:=.block 2 (.loop (c11_23))
def c11_40:Cd:=td [56]
def c11_45:Cd:=.skip
def c11_55:Cd:=.exit 4
def c11_48:Cd:=td [61,62,63]
def c11_50:Cd:=td [64,65,66,67,68,69]
def c11_52:Cd:=td [71,72,73,74,75,76]
def c11_51:Cd:=.seq (.reg false [mv 71 5,
    mv 72 10,
    ld 73 tPlace 11,
    o_ 74 (.build tWrite [(0,(.c (.int .i64) (2:Int))),(1,(.t 72)),(3,(.t 73))] []),
    o_ 75 (.slice 7 tWrite [(.t 74)]),
    o_ 76 (.append 8 tWrite (.t 71) (.t 75)),
    mv 5 76]) (c11_52)
def c11_54:Cd:=.skip
def c11_49:Cd:=.cond (.t 70) (.seq (td [70]) (c11_51)) (.seq (td [70]) (c11_54))
def c11_47:Cd:=.seq (.seq (.reg true [od 64 (.fieldAddr (.d tWorld) 3 (.t 2)) [0] [],
    od 65 (.load (.d (.sl tPlace)) (.t 64)) [0] [],
    mv 66 10,
    ix 67 (.sl tPlace) 65 66,
    ld 68 tPlace 67,
    od 69 (.load (.d tPlace) (.t 11)) [6] [],
    o_ 70 (.eqs tPlace true (.t 68) (.t 69))]) (c11_50)) (c11_49)
def c11_53:Cd:=td [77]
def c11_46:Cd:=.seq (.reg false [bc 77 .add 59 1,
    mv 59 77]) (c11_53)
def c11_44:Cd:=.seq (.block 5 (.seq (.seq (.reg false [mv 61 59,
    ix 62 (.sl tPlace) 57 59,
    ld 63 tPlace 62,
    nb 11 6 tPlace,
    mv 10 61,
    sr tPlace 11 63]) (c11_48)) (c11_47))) (c11_46)
def c11_43:Cd:=.seq (.cond (.t 60) (.seq (td [60]) (c11_45)) (.seq (td [60]) (c11_55))) (c11_44)
def c11_42:Cd:=.tidy [10,11] [(8,9)] [6,7] (some 10)
def c11_41:Cd:=.seq (.seq (.reg false [bi 60 .lss 59 58]) (c11_43)) (c11_42)
def c11_39:Cd:=.block 4 (.loop (c11_41))
def c11_57:Cd:=td [78]
def c11_56:Cd:=.ret
def c11_38:Cd:=.seq (.seq (.reg false [mv 78 5,
    mv 4 78]) (c11_57)) (c11_56)
def c11_20:Cd:=.seq (.seq (.seq (.reg false [fa 56 tWorld 3 3,
    ld 57 (.sl tPlace) 56,
    le 58 57,
    ci 59 0]) (c11_40)) (c11_39)) (c11_38)
def c11_2:Cd:=.seq (.seq (.seq (.reg false [fa 34 tWorld 2 3,
    o_ 35 (.load (.d (.sl (.int .i64))) (.t 34)),
    le 36 35,
    ci 37 0]) (c11_22)) (c11_21)) (c11_20)
def c11_1:Cd:=.seq (.seq (.seq (.reg false [fa 12 tWorld 1 3,
    o_ 13 (.load (.d (.sl (.int .i64))) (.t 12)),
    le 14 13,
    ci 15 0]) (c11_4)) (c11_3)) (c11_2)
def c11_0:Cd:=.seq (.reg false [o_ 5 (.mknil 9 tWrite)]) (c11_1)
def plan_From.fn:Fn:=⟨2,[.tmp 4],.seq (.reg false [bx 2 0 0,
    bx 3 1 1,
    o_ 4 (.move (.c (.sl tWrite) []))]) (c11_0)⟩
def c25_2:Cd:=td [3,4,5,6,7,8,9,10,11,12,13,14]
def c25_4:Cd:=td [15]
def c25_3:Cd:=.ret
def c25_1:Cd:=.seq (.seq (.reg false [ld 15 tWorld 1,
    sr tWorld 2 15]) (c25_4)) (c25_3)
def c25_0:Cd:=.seq (.seq (.reg true [od 3 (.fieldAddr (.d tWorld) 1 (.t 1)) [0] [],
    od 4 (.load (.d (.sl (.int .i64))) (.t 3)) [0] [],
    od 5 (.call (.f 26) [(.t 4)] [.d (.sl (.int .i64))] [((0,[]),2)] false) [] [2],
    od 6 (.fieldAddr (.d tWorld) 2 (.t 1)) [0] [],
    od 7 (.load (.d (.sl (.int .i64))) (.t 6)) [0] [],
    od 8 (.call (.f 26) [(.t 7)] [.d (.sl (.int .i64))] [((0,[]),3)] false) [] [3],
    od 9 (.fieldAddr (.d tWorld) 3 (.t 1)) [0] [],
    od 10 (.load (.d (.sl tPlace)) (.t 9)) [0] [],
    od 11 (.call (.f 27) [(.t 10)] [.d (.sl tPlace)] [((0,[]),4)] false) [] [4],
    od 12 (.fieldAddr (.d tWorld) 1 (.t 1)) [0] [],
    ⟨none,.store (.d (.sl (.int .i64))) (.t 12) (.t 5),none,[],[0]⟩,
    od 13 (.fieldAddr (.d tWorld) 2 (.t 1)) [0] [],
    ⟨none,.store (.d (.sl (.int .i64))) (.t 13) (.t 8),none,[],[0]⟩,
    od 14 (.fieldAddr (.d tWorld) 3 (.t 1)) [0] [],
    ⟨none,.store (.d (.sl tPlace)) (.t 14) (.t 11),none,[],[0]⟩]) (c25_2)) (c25_1)
def desc_Copy.fn:Fn:=⟨1,[.cell 2 (.d tWorld)],.seq (.reg false [bx 1 0 0,
    nb 2 1 tWorld]) (c25_0)⟩
def c19_2:Cd:=td [8,9]
def c19_9:Cd:=.skip
def c19_19:Cd:=.exit 0
def c19_12:Cd:=td [14,15]
def c19_14:Cd:=td [16,17]
def c19_16:Cd:=td [19,20,21,22,23,24,25]
def c19_15:Cd:=.seq (.reg true [od 19 (.load (.d tWorld) (.t 5)) [2] [],
    od 20 (.fieldAddr (.d tSess) 8 (.t 7)) [3] [],
    od 21 (.load (.d (.sl tWrite)) (.t 20)) [3] [],
    od 22 (.fieldAddr (.d tSess) 4 (.t 7)) [3] [],
    od 23 (.load (.d (.int .i64)) (.t 22)) [3] [],
    o_ 24 (.slx tWrite (.t 21) (some (.t 23)) none),
    od 25 (.call (.f 15) [(.t 19),(.t 24)] [.d tWorld] [((0,[1]),5),((0,[3]),7)] false) [] [4,5,6,7],
    ⟨none,.store (.d tWorld) (.t 5) (.t 25),none,[],[2]⟩]) (c19_16)
def c19_18:Cd:=.skip
def c19_13:Cd:=.cond (.t 18) (.seq (td [18]) (c19_15)) (.seq (td [18]) (c19_18))
def c19_11:Cd:=.seq (.seq (.reg false [fa 16 tSess 3 7,
    ld 17 (.int .i64) 16,
    bc 18 .eql 17 5]) (c19_14)) (c19_13)
def c19_17:Cd:=td [26]
def c19_10:Cd:=.seq (.reg false [bc 26 .add 12 1,
    mv 12 26]) (c19_17)
def c19_8:Cd:=.seq (.block 1 (.seq (.seq (.reg false [ix 14 (.sl tSess) 10 12,
    ld 15 tSess 14,
    nb 7 3 tSess,
    sr tSess 7 15]) (c19_12)) (c19_11))) (c19_10)
def c19_7:Cd:=.seq (.cond (.t 13) (.seq (td [13]) (c19_9)) (.seq (td [13]) (c19_19))) (c19_8)
def c19_6:Cd:=.tidy [7] [(5,4),(7,6)] [3] (some 7)
def c19_5:Cd:=.seq (.seq (.reg false [bi 13 .lss 12 11]) (c19_7)) (c19_6)
def c19_4:Cd:=.block 0 (.loop (c19_5))
def c19_21:Cd:=td [27]
def c19_20:Cd:=.ret
def c19_3:Cd:=.seq (.seq (.reg false [ld 27 tWorld 5,
    sr tWorld 4 27]) (c19_21)) (c19_20)
def c19_1:Cd:=.seq (.seq (.reg false [mv 10 1,
    le 11 10,
    ci 12 0]) (c19_4)) (c19_3)
def c19_0:Cd:=.seq (.seq (.reg false [ld 8 tWorld 2,
    o_ 9 (.call (.f 25) [(.t 8)] [.d tWorld] [((0,[1]),4),((0,[3]),6)] false),
    nb 5 2 tWorld,
    sr tWorld 5 9]) (c19_2)) (c19_1)
def plan_Settled.fn:Fn:=⟨2,[.cell 4 (.d tWorld)],.seq (.reg false [bx 2 0 0,
    nb 4 1 tWorld]) (c19_0)⟩
def c10_3:Cd:=td [6,7,8,9]
def c10_5:Cd:=.ret
def c10_4:Cd:=.seq (.reg false [o_ 4 (.move (.c .bool false))]) (c10_5)
def c10_6:Cd:=.skip
def c10_2:Cd:=.cond (.t 10) (.seq (td [10]) (c10_4)) (.seq (td [10]) (c10_6))
def c10_13:Cd:=td [11,12,13]
def c10_14:Cd:=.skip
def c10_22:Cd:=.exit 0
def c10_12:Cd:=.cond (.t 14) (.seq (td [14]) (c10_14)) (.seq (td [14]) (c10_22))
def c10_17:Cd:=td [17,18,19,20,21,22,23,24]
def c10_19:Cd:=.ret
def c10_18:Cd:=.seq (.reg false [o_ 4 (.move (.c .bool false))]) (c10_19)
def c10_20:Cd:=.skip
def c10_16:Cd:=.cond (.t 25) (.seq (td [25]) (c10_18)) (.seq (td [25]) (c10_20))
def c10_21:Cd:=td [15,16]
def c10_15:Cd:=.seq (.reg false [mv 15 5,
    bc 16 .add 15 1,
    mv 5 16]) (c10_21)
def c10_11:Cd:=.seq (.block 1 (.seq (.seq (.reg true [mv 17 0,
    mv 18 5,
    ix 19 (.sl tWrite) 17 18,
    ld 20 tWrite 19,
    mv 21 1,
    mv 22 5,
    ix 23 (.sl tWrite) 21 22,
    ld 24 tWrite 23,
    o_ 25 (.eqs tWrite true (.t 20) (.t 24))]) (c10_17)) (c10_16))) (c10_15)
def c10_10:Cd:=.tidy [] [] [] (some 0)
def c10_9:Cd:=.seq (.seq (.seq (.seq (.reg false [mv 11 5,
    mv 12 0,
    le 13 12,
    bi 14 .lss 11 13]) (c10_13)) (c10_12)) (c10_11)) (c10_10)
def c10_8:Cd:=.block 0 (.loop (c10_9))
def c10_23:Cd:=.ret
def c10_7:Cd:=.seq (.reg false [o_ 4 (.move (.c .bool true))]) (c10_23)
def c10_1:Cd:=.seq (.seq (.reg false [ci 5 0]) (c10_8)) (c10_7)
def c10_0:Cd:=.seq (.seq (.seq (.reg false [mv 6 0,
    le 7 6,
    mv 8 1,
    le 9 8,
    bi 10 .neq 7 9]) (c10_3)) (c10_2)) (c10_1)
def innkeepref18_Same.fn:Fn:=⟨2,[.tmp 4],.seq (.reg false [o_ 4 (.move (.c .bool false))]) (c10_0)⟩
def c23_3:Cd:=td [6,7,8,9]
def c23_5:Cd:=.ret
def c23_4:Cd:=.seq (.reg false [o_ 4 (.move (.c .bool false))]) (c23_5)
def c23_6:Cd:=.skip
def c23_2:Cd:=.cond (.t 10) (.seq (td [10]) (c23_4)) (.seq (td [10]) (c23_6))
def c23_13:Cd:=td [11,12,13]
def c23_14:Cd:=.skip
def c23_22:Cd:=.exit 0
def c23_12:Cd:=.cond (.t 14) (.seq (td [14]) (c23_14)) (.seq (td [14]) (c23_22))
def c23_17:Cd:=td [17,18,19,20,21,22,23,24]
def c23_19:Cd:=.ret
def c23_18:Cd:=.seq (.reg false [o_ 4 (.move (.c .bool false))]) (c23_19)
def c23_20:Cd:=.skip
def c23_16:Cd:=.cond (.t 25) (.seq (td [25]) (c23_18)) (.seq (td [25]) (c23_20))
def c23_21:Cd:=td [15,16]
def c23_15:Cd:=.seq (.reg false [mv 15 5,
    bc 16 .add 15 1,
    mv 5 16]) (c23_21)
def c23_11:Cd:=.seq (.block 1 (.seq (.seq (.reg true [mv 17 0,
    mv 18 5,
    ix 19 (.sl (.int .i64)) 17 18,
    ld 20 (.int .i64) 19,
    mv 21 1,
    mv 22 5,
    ix 23 (.sl (.int .i64)) 21 22,
    ld 24 (.int .i64) 23,
    bi 25 .neq 20 24]) (c23_17)) (c23_16))) (c23_15)
def c23_10:Cd:=.tidy [] [] [] (some 0)
def c23_9:Cd:=.seq (.seq (.seq (.seq (.reg false [mv 11 5,
    mv 12 0,
    le 13 12,
    bi 14 .lss 11 13]) (c23_13)) (c23_12)) (c23_11)) (c23_10)
def c23_8:Cd:=.block 0 (.loop (c23_9))
def c23_23:Cd:=.ret
def c23_7:Cd:=.seq (.reg false [o_ 4 (.move (.c .bool true))]) (c23_23)
def c23_1:Cd:=.seq (.seq (.reg false [ci 5 0]) (c23_8)) (c23_7)
def c23_0:Cd:=.seq (.seq (.seq (.reg false [mv 6 0,
    le 7 6,
    mv 8 1,
    le 9 8,
    bi 10 .neq 7 9]) (c23_3)) (c23_2)) (c23_1)
def innkeepref03_Ints.fn:Fn:=⟨2,[.tmp 4],.seq (.reg false [o_ 4 (.move (.c .bool false))]) (c23_0)⟩
def c24_3:Cd:=td [6,7,8,9]
def c24_5:Cd:=.ret
def c24_4:Cd:=.seq (.reg false [o_ 4 (.move (.c .bool false))]) (c24_5)
def c24_6:Cd:=.skip
def c24_2:Cd:=.cond (.t 10) (.seq (td [10]) (c24_4)) (.seq (td [10]) (c24_6))
def c24_13:Cd:=td [11,12,13]
def c24_14:Cd:=.skip
def c24_22:Cd:=.exit 0
def c24_12:Cd:=.cond (.t 14) (.seq (td [14]) (c24_14)) (.seq (td [14]) (c24_22))
def c24_17:Cd:=td [17,18,19,20,21,22,23,24]
def c24_19:Cd:=.ret
def c24_18:Cd:=.seq (.reg false [o_ 4 (.move (.c .bool false))]) (c24_19)
def c24_20:Cd:=.skip
def c24_16:Cd:=.cond (.t 25) (.seq (td [25]) (c24_18)) (.seq (td [25]) (c24_20))
def c24_21:Cd:=td [15,16]
def c24_15:Cd:=.seq (.reg false [mv 15 5,
    bc 16 .add 15 1,
    mv 5 16]) (c24_21)
def c24_11:Cd:=.seq (.block 1 (.seq (.seq (.reg true [mv 17 0,
    mv 18 5,
    ix 19 (.sl tPlace) 17 18,
    ld 20 tPlace 19,
    mv 21 1,
    mv 22 5,
    ix 23 (.sl tPlace) 21 22,
    ld 24 tPlace 23,
    o_ 25 (.eqs tPlace true (.t 20) (.t 24))]) (c24_17)) (c24_16))) (c24_15)
def c24_10:Cd:=.tidy [] [] [] (some 0)
def c24_9:Cd:=.seq (.seq (.seq (.seq (.reg false [mv 11 5,
    mv 12 0,
    le 13 12,
    bi 14 .lss 11 13]) (c24_13)) (c24_12)) (c24_11)) (c24_10)
def c24_8:Cd:=.block 0 (.loop (c24_9))
def c24_23:Cd:=.ret
def c24_7:Cd:=.seq (.reg false [o_ 4 (.move (.c .bool true))]) (c24_23)
def c24_1:Cd:=.seq (.seq (.reg false [ci 5 0]) (c24_8)) (c24_7)
def c24_0:Cd:=.seq (.seq (.seq (.reg false [mv 6 0,
    le 7 6,
    mv 8 1,
    le 9 8,
    bi 10 .neq 7 9]) (c24_3)) (c24_2)) (c24_1)
def innkeepref06_Places.fn:Fn:=⟨2,[.tmp 4],.seq (.reg false [o_ 4 (.move (.c .bool false))]) (c24_0)⟩
def c14_2:Cd:=td [9,10]
def c14_4:Cd:=td [11,12]
def c14_7:Cd:=td [13,14,15,16,17,18,19,20,21,22,23,24,25,26,27,28,29,30,31,32,33,34,35,36,37,38,39,40,41,42,43,44,45,46,47,48]
def c14_9:Cd:=.ret
def c14_8:Cd:=.seq (.reg false [o_ 4 (.move (.c .bool false))]) (c14_9)
def c14_10:Cd:=.skip
def c14_6:Cd:=.cond (.t 49) (.seq (td [49]) (c14_8)) (.seq (td [49]) (c14_10))
def c14_17:Cd:=td [50,51,52,53]
def c14_18:Cd:=.skip
def c14_26:Cd:=.exit 0
def c14_16:Cd:=.cond (.t 54) (.seq (td [54]) (c14_18)) (.seq (td [54]) (c14_26))
def c14_21:Cd:=td [57,58,59,60,61,62,63,64,65,66]
def c14_23:Cd:=.ret
def c14_22:Cd:=.seq (.reg false [o_ 4 (.move (.c .bool false))]) (c14_23)
def c14_24:Cd:=.skip
def c14_20:Cd:=.cond (.t 67) (.seq (td [67]) (c14_22)) (.seq (td [67]) (c14_24))
def c14_25:Cd:=td [55,56]
def c14_19:Cd:=.seq (.reg false [mv 55 7,
    bc 56 .add 55 1,
    mv 7 56]) (c14_25)
def c14_15:Cd:=.seq (.block 1 (.seq (.seq (.reg true [od 57 (.fieldAddr (.d tDesc) 0 (.t 5)) [2] [],
    od 58 (.load (.d (.sl (.arr 4 (.int .i64)))) (.t 57)) [2] [],
    mv 59 7,
    o_ 60 (.index (.sl (.arr 4 (.int .i64))) (.t 58) (.t 59)),
    o_ 61 (.load (.d (.arr 4 (.int .i64))) (.t 60)),
    od 62 (.fieldAddr (.d tDesc) 0 (.t 6)) [3] [],
    od 63 (.load (.d (.sl (.arr 4 (.int .i64)))) (.t 62)) [3] [],
    mv 64 7,
    o_ 65 (.index (.sl (.arr 4 (.int .i64))) (.t 63) (.t 64)),
    o_ 66 (.load (.d (.arr 4 (.int .i64))) (.t 65)),
    o_ 67 (.eqs (.arr 4 (.int .i64)) true (.t 61) (.t 66))]) (c14_21)) (c14_20))) (c14_19)
def c14_14:Cd:=.tidy [] [] [] (some 4)
def c14_13:Cd:=.seq (.seq (.seq (.seq (.reg false [mv 50 7,
    fa 51 tDesc 0 5,
    o_ 52 (.load (.d (.sl (.arr 4 (.int .i64)))) (.t 51)),
    le 53 52,
    bi 54 .lss 50 53]) (c14_17)) (c14_16)) (c14_15)) (c14_14)
def c14_12:Cd:=.block 0 (.loop (c14_13))
def c14_33:Cd:=td [68,69,70,71]
def c14_34:Cd:=.skip
def c14_42:Cd:=.exit 2
def c14_32:Cd:=.cond (.t 72) (.seq (td [72]) (c14_34)) (.seq (td [72]) (c14_42))
def c14_37:Cd:=td [75,76,77,78,79,80,81,82,83,84]
def c14_39:Cd:=.ret
def c14_38:Cd:=.seq (.reg false [o_ 4 (.move (.c .bool false))]) (c14_39)
def c14_40:Cd:=.skip
def c14_36:Cd:=.cond (.t 85) (.seq (td [85]) (c14_38)) (.seq (td [85]) (c14_40))
def c14_41:Cd:=td [73,74]
def c14_35:Cd:=.seq (.reg false [mv 73 8,
    bc 74 .add 73 1,
    mv 8 74]) (c14_41)
def c14_31:Cd:=.seq (.block 3 (.seq (.seq (.reg true [od 75 (.fieldAddr (.d tDesc) 4 (.t 5)) [2] [],
    od 76 (.load (.d (.sl .bool)) (.t 75)) [2] [],
    mv 77 8,
    ix 78 (.sl .bool) 76 77,
    ld 79 .bool 78,
    od 80 (.fieldAddr (.d tDesc) 4 (.t 6)) [3] [],
    od 81 (.load (.d (.sl .bool)) (.t 80)) [3] [],
    mv 82 8,
    ix 83 (.sl .bool) 81 82,
    ld 84 .bool 83,
    o_ 85 (.eqs .bool true (.t 79) (.t 84))]) (c14_37)) (c14_36))) (c14_35)
def c14_30:Cd:=.tidy [] [] [] (some 4)
def c14_29:Cd:=.seq (.seq (.seq (.seq (.reg false [mv 68 8,
    fa 69 tDesc 4 5,
    ld 70 (.sl .bool) 69,
    le 71 70,
    bi 72 .lss 68 71]) (c14_33)) (c14_32)) (c14_31)) (c14_30)
def c14_28:Cd:=.block 2 (.loop (c14_29))
def c14_44:Cd:=td [86,87,88,89,90,91,92,93,94,95,96,97,98,99,100,101,102,103,104,105,106,107,108,109,110,111,112,113,114,115,116,117,118,119,120,121,122,123,124,125]
def c14_43:Cd:=.ret
def c14_27:Cd:=.seq (.seq (.reg false [fa 86 tDesc 1 5,
    o_ 87 (.load (.d (.sl (.int .i64))) (.t 86)),
    fa 88 tDesc 1 6,
    o_ 89 (.load (.d (.sl (.int .i64))) (.t 88)),
    o_ 90 (.call (.f 23) [(.t 87),(.t 89)] [.d .bool] [] false),
    mv 91 90,
    og 92 (.fieldAddr (.d tDesc) 2 (.t 5)) 91 true,
    og 93 (.load (.d (.sl (.int .i64))) (.t 92)) 91 true,
    og 94 (.fieldAddr (.d tDesc) 2 (.t 6)) 91 true,
    og 95 (.load (.d (.sl (.int .i64))) (.t 94)) 91 true,
    og 96 (.call (.f 23) [(.t 93),(.t 95)] [.d .bool] [] false) 91 true,
    o_ 97 (.pick (.t 91) (.t 96) (.c .bool false)),
    mv 98 97,
    og 99 (.fieldAddr (.d tDesc) 3 (.t 5)) 98 true,
    og 100 (.load (.d (.sl (.int .i64))) (.t 99)) 98 true,
    og 101 (.fieldAddr (.d tDesc) 3 (.t 6)) 98 true,
    og 102 (.load (.d (.sl (.int .i64))) (.t 101)) 98 true,
    og 103 (.call (.f 23) [(.t 100),(.t 102)] [.d .bool] [] false) 98 true,
    o_ 104 (.pick (.t 98) (.t 103) (.c .bool false)),
    mv 105 104,
    og 106 (.fieldAddr (.d tWorld) 1 (.t 2)) 105 true,
    og 107 (.load (.d (.sl (.int .i64))) (.t 106)) 105 true,
    og 108 (.fieldAddr (.d tWorld) 1 (.t 3)) 105 true,
    og 109 (.load (.d (.sl (.int .i64))) (.t 108)) 105 true,
    og 110 (.call (.f 23) [(.t 107),(.t 109)] [.d .bool] [] false) 105 true,
    o_ 111 (.pick (.t 105) (.t 110) (.c .bool false)),
    mv 112 111,
    og 113 (.fieldAddr (.d tWorld) 2 (.t 2)) 112 true,
    og 114 (.load (.d (.sl (.int .i64))) (.t 113)) 112 true,
    og 115 (.fieldAddr (.d tWorld) 2 (.t 3)) 112 true,
    og 116 (.load (.d (.sl (.int .i64))) (.t 115)) 112 true,
    og 117 (.call (.f 23) [(.t 114),(.t 116)] [.d .bool] [] false) 112 true,
    o_ 118 (.pick (.t 112) (.t 117) (.c .bool false)),
    mv 119 118,
    og 120 (.fieldAddr (.d tWorld) 3 (.t 2)) 119 true,
    og 121 (.load (.d (.sl tPlace)) (.t 120)) 119 true,
    og 122 (.fieldAddr (.d tWorld) 3 (.t 3)) 119 true,
    og 123 (.load (.d (.sl tPlace)) (.t 122)) 119 true,
    og 124 (.call (.f 24) [(.t 121),(.t 123)] [.d .bool] [] false) 119 true,
    o_ 125 (.pick (.t 119) (.t 124) (.c .bool false)),
    mv 4 125]) (c14_44)) (c14_43)
def c14_11:Cd:=.seq (.seq (.reg false [ci 8 0]) (c14_28)) (c14_27)
def c14_5:Cd:=.seq (.seq (.reg false [ci 7 0]) (c14_12)) (c14_11)
def c14_3:Cd:=.seq (.seq (.seq (.reg false [fa 13 tDesc 5 5,
    ld 14 (.int .i64) 13,
    fa 15 tDesc 5 6,
    ld 16 (.int .i64) 15,
    bi 17 .neq 14 16,
    mv 18 17,
    og 19 (.fieldAddr (.d tDesc) 6 (.t 5)) 18 false,
    og 20 (.load (.d (.int .i64)) (.t 19)) 18 false,
    og 21 (.fieldAddr (.d tDesc) 6 (.t 6)) 18 false,
    og 22 (.load (.d (.int .i64)) (.t 21)) 18 false,
    og 23 (.bin .neq (.t 20) (.t 22)) 18 false,
    o_ 24 (.pick (.t 18) (.c .bool true) (.t 23)),
    mv 25 24,
    og 26 (.fieldAddr (.d tDesc) 7 (.t 5)) 25 false,
    og 27 (.load (.d (.int .i64)) (.t 26)) 25 false,
    og 28 (.fieldAddr (.d tDesc) 7 (.t 6)) 25 false,
    og 29 (.load (.d (.int .i64)) (.t 28)) 25 false,
    og 30 (.bin .neq (.t 27) (.t 29)) 25 false,
    o_ 31 (.pick (.t 25) (.c .bool true) (.t 30)),
    mv 32 31,
    og 33 (.fieldAddr (.d tDesc) 0 (.t 5)) 32 false,
    og 34 (.load (.d (.sl (.arr 4 (.int .i64)))) (.t 33)) 32 false,
    og 35 (.len (.t 34)) 32 false,
    og 36 (.fieldAddr (.d tDesc) 0 (.t 6)) 32 false,
    og 37 (.load (.d (.sl (.arr 4 (.int .i64)))) (.t 36)) 32 false,
    og 38 (.len (.t 37)) 32 false,
    og 39 (.bin .neq (.t 35) (.t 38)) 32 false,
    o_ 40 (.pick (.t 32) (.c .bool true) (.t 39)),
    mv 41 40,
    og 42 (.fieldAddr (.d tDesc) 4 (.t 5)) 41 false,
    og 43 (.load (.d (.sl .bool)) (.t 42)) 41 false,
    og 44 (.len (.t 43)) 41 false,
    og 45 (.fieldAddr (.d tDesc) 4 (.t 6)) 41 false,
    og 46 (.load (.d (.sl .bool)) (.t 45)) 41 false,
    og 47 (.len (.t 46)) 41 false,
    og 48 (.bin .neq (.t 44) (.t 47)) 41 false,
    o_ 49 (.pick (.t 41) (.c .bool true) (.t 48))]) (c14_7)) (c14_6)) (c14_5)
def c14_1:Cd:=.seq (.seq (.reg false [fa 11 tWorld 0 3,
    ld 12 tDesc 11,
    nb 6 3 tDesc,
    sr tDesc 6 12]) (c14_4)) (c14_3)
def c14_0:Cd:=.seq (.seq (.reg false [fa 9 tWorld 0 2,
    ld 10 tDesc 9,
    nb 5 2 tDesc,
    sr tDesc 5 10]) (c14_2)) (c14_1)
def innkeepref06_Same.fn:Fn:=⟨2,[.tmp 4],.seq (.reg false [bx 2 0 0,
    bx 3 1 1,
    o_ 4 (.move (.c .bool false))]) (c14_0)⟩
def c17_2:Cd:=td [5,6,7,8]
def c17_1:Cd:=.ret
def c17_0:Cd:=.seq (.seq (.reg false [ld 5 tWorld 2,
    ld 6 tWrite 3,
    o_ 7 (.slice 3 tWrite [(.t 6)]),
    o_ 8 (.call (.f 15) [(.t 5),(.t 7)] [.d tWorld] [] false),
    sr tWorld 4 8]) (c17_2)) (c17_1)
def plan_Do.fn:Fn:=⟨2,[.cell 4 (.d tWorld)],.seq (.reg false [bx 2 0 0,
    bx 3 1 1,
    nb 4 2 tWorld]) (c17_0)⟩
def c7_2:Cd:=td [6,7,8,9,10,11,12]
def c7_4:Cd:=td [13,14]
def c7_6:Cd:=td [15,16,17]
def c7_8:Cd:=td [18,19,20]
def c7_10:Cd:=td [21,22,23,24]
def c7_12:Cd:=td [25,26,27]
def c7_15:Cd:=td [28,29]
def c7_17:Cd:=.ret
def c7_16:Cd:=.seq (.reg false [o_ 0 (.move (.c .bool false))]) (c7_17)
def c7_18:Cd:=.skip
def c7_14:Cd:=.cond (.t 30) (.seq (td [30]) (c7_16)) (.seq (td [30]) (c7_18))
def c7_20:Cd:=td [31,32,33,34,35]
def c7_22:Cd:=td [36,37,38]
def c7_24:Cd:=td [39,40,41,42,43,44,45,46,47,48,49,50,51,52,53,54,55,56,57,58,59,60,61,62,63,64,65,66,67,68,69,70,71,72,73,74,75,76,77,78,79,80,81,82,83,84,85]
def c7_23:Cd:=.ret
def c7_21:Cd:=.seq (.seq (.reg true [mv 39 3,
    o_ 40 (.build tWrite [(0,(.c (.int .i64) (0:Int))),(1,(.c (.int .i64) (1:Int))),(2,(.c (.int .i64) (1:Int)))] []),
    o_ 41 (.build tWrite [(0,(.c (.int .i64) (1:Int))),(2,(.c (.int .i64) (9:Int)))] []),
    o_ 42 (.build tPlace [(0,(.c (.int .i64) (1:Int)))] []),
    o_ 43 (.build tWrite [(0,(.c (.int .i64) (2:Int))),(3,(.t 42))] []),
    od 44 (.slice 9 tWrite [(.t 40),(.t 41),(.t 43)]) [] [9],
    od 45 (.call (.f 10) [(.t 39),(.t 44)] [.d .bool] [] false) [9] [],
    mv 46 45,
    ogd 47 (.load (.d tWorld) (.t 1)) 46 true [5],
    og 48 (.move (.t 3)) 46 true,
    og 49 (.call (.f 15) [(.t 47),(.t 48)] [.d tWorld] [] false) 46 true,
    ogd 50 (.load (.d tWorld) (.t 2)) 46 true [6],
    ogd 51 (.call (.f 14) [(.t 49),(.t 50)] [.d .bool] [] false) 46 true [10,11,12],
    o_ 52 (.pick (.t 46) (.t 51) (.c .bool false)),
    mv 53 52,
    ogd 54 (.load (.d tWorld) (.t 1)) 53 true [5],
    og 55 (.move (.t 3)) 53 true,
    og 56 (.index (.sl tWrite) (.t 55) (.c (.int .i64) (1:Int))) 53 true,
    og 57 (.load (.d tWrite) (.t 56)) 53 true,
    og 58 (.call (.f 17) [(.t 54),(.t 57)] [.d tWorld] [] false) 53 true,
    og 59 (.field tWorld 2 (.t 58)) 53 true,
    og 60 (.index (.sl (.int .i64)) (.t 59) (.c (.int .i64) (0:Int))) 53 true,
    og 61 (.load (.d (.int .i64)) (.t 60)) 53 true,
    og 62 (.bin .eql (.t 61) (.c (.int .i64) (9:Int))) 53 true,
    o_ 63 (.pick (.t 53) (.t 62) (.c .bool false)),
    mv 64 63,
    ogd 65 (.fieldAddr (.d tWorld) 1 (.t 5)) 64 true [8],
    ogd 66 (.load (.d (.sl (.int .i64))) (.t 65)) 64 true [8],
    og 67 (.index (.sl (.int .i64)) (.t 66) (.c (.int .i64) (1:Int))) 64 true,
    og 68 (.load (.d (.int .i64)) (.t 67)) 64 true,
    og 69 (.bin .eql (.t 68) (.c (.int .i64) (0:Int))) 64 true,
    o_ 70 (.pick (.t 64) (.t 69) (.c .bool false)),
    mv 71 70,
    ogd 72 (.fieldAddr (.d tWorld) 2 (.t 5)) 71 true [8],
    ogd 73 (.load (.d (.sl (.int .i64))) (.t 72)) 71 true [8],
    og 74 (.index (.sl (.int .i64)) (.t 73) (.c (.int .i64) (0:Int))) 71 true,
    og 75 (.load (.d (.int .i64)) (.t 74)) 71 true,
    og 76 (.bin .eql (.t 75) (.c (.int .i64) (9:Int))) 71 true,
    o_ 77 (.pick (.t 71) (.t 76) (.c .bool false)),
    mv 78 77,
    ogd 79 (.fieldAddr (.d tWorld) 3 (.t 5)) 78 true [8],
    ogd 80 (.load (.d (.sl tPlace)) (.t 79)) 78 true [8],
    og 81 (.index (.sl tPlace) (.t 80) (.c (.int .i64) (0:Int))) 78 true,
    og 82 (.fieldAddr (.d tPlace) 0 (.t 81)) 78 true,
    og 83 (.load (.d (.int .i64)) (.t 82)) 78 true,
    og 84 (.bin .eql (.t 83) (.c (.int .i64) (1:Int))) 78 true,
    o_ 85 (.pick (.t 78) (.t 84) (.c .bool false)),
    mv 0 85]) (c7_24)) (c7_23)
def c7_19:Cd:=.seq (.seq (.reg false [ld 36 tWorld 1,
    mv 37 4,
    o_ 38 (.call (.f 19) [(.t 36),(.t 37)] [.d tWorld] [] false),
    nb 5 8 tWorld,
    sr tWorld 5 38]) (c7_22)) (c7_21)
def c7_13:Cd:=.seq (.seq (.reg false [mv 31 3,
    o_ 32 (.build tSess [(3,(.c (.int .i64) (5:Int))),(8,(.t 31)),(4,(.c (.int .i64) (1:Int)))] []),
    mv 33 3,
    o_ 34 (.build tSess [(3,(.c (.int .i64) (4:Int))),(8,(.t 33))] []),
    o_ 35 (.slice 7 tSess [(.t 32),(.t 34)]),
    mv 4 35]) (c7_20)) (c7_19)
def c7_11:Cd:=.seq (.seq (.seq (.reg false [mv 28 3,
    le 29 28,
    bc 30 .neq 29 3]) (c7_15)) (c7_14)) (c7_13)
def c7_9:Cd:=.seq (.seq (.reg false [ld 25 tWorld 1,
    ld 26 tWorld 2,
    o_ 27 (.call (.f 11) [(.t 25),(.t 26)] [.d (.sl tWrite)] [] false),
    mv 3 27]) (c7_12)) (c7_11)
def c7_7:Cd:=.seq (.seq (.reg false [fa 21 tWorld 3 2,
    ld 22 (.sl tPlace) 21,
    o_ 23 (.build tPlace [(0,(.c (.int .i64) (1:Int)))] []),
    o_ 24 (.index (.sl tPlace) (.t 22) (.c (.int .i64) (0:Int))),
    sr tPlace 24 23]) (c7_10)) (c7_9)
def c7_5:Cd:=.seq (.seq (.reg false [fa 18 tWorld 2 2,
    o_ 19 (.load (.d (.sl (.int .i64))) (.t 18)),
    o_ 20 (.index (.sl (.int .i64)) (.t 19) (.c (.int .i64) (0:Int))),
    on_ (.store (.d (.int .i64)) (.t 20) (.c (.int .i64) (9:Int)))]) (c7_8)) (c7_7)
def c7_3:Cd:=.seq (.seq (.reg false [fa 15 tWorld 1 2,
    o_ 16 (.load (.d (.sl (.int .i64))) (.t 15)),
    o_ 17 (.index (.sl (.int .i64)) (.t 16) (.c (.int .i64) (1:Int))),
    on_ (.store (.d (.int .i64)) (.t 17) (.c (.int .i64) (1:Int)))]) (c7_6)) (c7_5)
def c7_1:Cd:=.seq (.seq (.reg false [ld 13 tWorld 1,
    o_ 14 (.call (.f 21) [(.t 13)] [.d tWorld] [((0,[1]),10),((0,[2]),11),((0,[3]),12)] false),
    nb 2 6 tWorld,
    sr tWorld 2 14]) (c7_4)) (c7_3)
def c7_0:Cd:=.seq (.seq (.reg false [o_ 6 (.make 0 (.arr 4 (.int .i64)) (.c (.int .i64) (2:Int))),
    o_ 7 (.slice 1 (.int .i64) [(.c (.int .i64) (0:Int)),(.c (.int .i64) (0:Int))]),
    o_ 8 (.slice 2 (.int .i64) [(.c (.int .i64) (5:Int)),(.c (.int .i64) (2:Int))]),
    o_ 9 (.slice 3 (.int .i64) [(.c (.int .i64) (0:Int))]),
    o_ 10 (.slice 4 .bool [(.c .bool false)]),
    o_ 11 (.build tDesc [(0,(.t 6)),(1,(.t 7)),(2,(.t 8)),(3,(.t 9)),(4,(.t 10)),(5,(.c (.int .i64) (4:Int))),(6,(.c (.int .i64) (2:Int))),(7,(.c (.int .i64) (1:Int)))] []),
    o_ 12 (.call (.f 22) [(.t 11)] [.d tWorld] [] false),
    nb 1 5 tWorld,
    sr tWorld 1 12]) (c7_2)) (c7_1)
def innkeeplaw18_awake.fn:Fn:=⟨0,[.tmp 0],.seq (.reg false [o_ 0 (.move (.c .bool false))]) (c7_0)⟩
def c8_2:Cd:=td [4,5]
def c8_4:Cd:=td [6,7,8,9,10,11,12,13,14,15,16,17,18,19,20,21,22,23,24,25,26,27,28,29,30,31,32,33,34,35,36,37,38,39,40,41,42,43,44,45,46,47,48,49,50,51]
def c8_3:Cd:=.ret
def c8_1:Cd:=.seq (.seq (.reg false [fa 6 tDesc 0 3,
    o_ 7 (.load (.d (.sl (.arr 4 (.int .i64)))) (.t 6)),
    le 8 7,
    bc 9 .leq 8 20,
    mv 10 9,
    og 11 (.fieldAddr (.d tDesc) 1 (.t 3)) 10 true,
    og 12 (.load (.d (.sl (.int .i64))) (.t 11)) 10 true,
    og 13 (.len (.t 12)) 10 true,
    og 14 (.bin .leq (.t 13) (.c (.int .i64) (20:Int))) 10 true,
    o_ 15 (.pick (.t 10) (.t 14) (.c .bool false)),
    mv 16 15,
    og 17 (.fieldAddr (.d tDesc) 2 (.t 3)) 16 true,
    og 18 (.load (.d (.sl (.int .i64))) (.t 17)) 16 true,
    og 19 (.len (.t 18)) 16 true,
    og 20 (.bin .leq (.t 19) (.c (.int .i64) (20:Int))) 16 true,
    o_ 21 (.pick (.t 16) (.t 20) (.c .bool false)),
    mv 22 21,
    og 23 (.fieldAddr (.d tDesc) 3 (.t 3)) 22 true,
    og 24 (.load (.d (.sl (.int .i64))) (.t 23)) 22 true,
    og 25 (.len (.t 24)) 22 true,
    og 26 (.bin .leq (.t 25) (.c (.int .i64) (40:Int))) 22 true,
    o_ 27 (.pick (.t 22) (.t 26) (.c .bool false)),
    mv 28 27,
    og 29 (.fieldAddr (.d tDesc) 4 (.t 3)) 28 true,
    og 30 (.load (.d (.sl .bool)) (.t 29)) 28 true,
    og 31 (.len (.t 30)) 28 true,
    og 32 (.bin .leq (.t 31) (.c (.int .i64) (40:Int))) 28 true,
    o_ 33 (.pick (.t 28) (.t 32) (.c .bool false)),
    mv 34 33,
    og 35 (.fieldAddr (.d tWorld) 1 (.t 1)) 34 true,
    og 36 (.load (.d (.sl (.int .i64))) (.t 35)) 34 true,
    og 37 (.len (.t 36)) 34 true,
    og 38 (.bin .leq (.t 37) (.c (.int .i64) (40:Int))) 34 true,
    o_ 39 (.pick (.t 34) (.t 38) (.c .bool false)),
    mv 40 39,
    og 41 (.fieldAddr (.d tWorld) 2 (.t 1)) 40 true,
    og 42 (.load (.d (.sl (.int .i64))) (.t 41)) 40 true,
    og 43 (.len (.t 42)) 40 true,
    og 44 (.bin .leq (.t 43) (.c (.int .i64) (40:Int))) 40 true,
    o_ 45 (.pick (.t 40) (.t 44) (.c .bool false)),
    mv 46 45,
    og 47 (.fieldAddr (.d tWorld) 3 (.t 1)) 46 true,
    og 48 (.load (.d (.sl tPlace)) (.t 47)) 46 true,
    og 49 (.len (.t 48)) 46 true,
    og 50 (.bin .leq (.t 49) (.c (.int .i64) (40:Int))) 46 true,
    o_ 51 (.pick (.t 46) (.t 50) (.c .bool false)),
    mv 2 51]) (c8_4)) (c8_3)
def c8_0:Cd:=.seq (.seq (.reg false [fa 4 tWorld 0 1,
    ld 5 tDesc 4,
    nb 3 1 tDesc,
    sr tDesc 3 5]) (c8_2)) (c8_1)
def innkeepref06_Few.fn:Fn:=⟨1,[.tmp 2],.seq (.reg false [bx 1 0 0,
    o_ 2 (.move (.c .bool false))]) (c8_0)⟩
def c9_2:Cd:=td [3,4,5,6,7,8,9,10,11,12,13,14,15,16,17,18,19,20,21,22,23,24,25,26,27,28,29,30]
def c9_1:Cd:=.ret
def c9_0:Cd:=.seq (.seq (.reg false [fa 3 tWorld 1 1,
    o_ 4 (.load (.d (.sl (.int .i64))) (.t 3)),
    le 5 4,
    fa 6 tWorld 0 1,
    fa 7 tDesc 1 6,
    o_ 8 (.load (.d (.sl (.int .i64))) (.t 7)),
    le 9 8,
    bi 10 .eql 5 9,
    mv 11 10,
    og 12 (.fieldAddr (.d tWorld) 2 (.t 1)) 11 true,
    og 13 (.load (.d (.sl (.int .i64))) (.t 12)) 11 true,
    og 14 (.len (.t 13)) 11 true,
    og 15 (.fieldAddr (.d tWorld) 0 (.t 1)) 11 true,
    og 16 (.fieldAddr (.d tDesc) 1 (.t 15)) 11 true,
    og 17 (.load (.d (.sl (.int .i64))) (.t 16)) 11 true,
    og 18 (.len (.t 17)) 11 true,
    og 19 (.bin .eql (.t 14) (.t 18)) 11 true,
    o_ 20 (.pick (.t 11) (.t 19) (.c .bool false)),
    mv 21 20,
    og 22 (.fieldAddr (.d tWorld) 3 (.t 1)) 21 true,
    og 23 (.load (.d (.sl tPlace)) (.t 22)) 21 true,
    og 24 (.len (.t 23)) 21 true,
    og 25 (.fieldAddr (.d tWorld) 0 (.t 1)) 21 true,
    og 26 (.fieldAddr (.d tDesc) 3 (.t 25)) 21 true,
    og 27 (.load (.d (.sl (.int .i64))) (.t 26)) 21 true,
    og 28 (.len (.t 27)) 21 true,
    og 29 (.bin .eql (.t 24) (.t 28)) 21 true,
    o_ 30 (.pick (.t 21) (.t 29) (.c .bool false)),
    mv 2 30]) (c9_2)) (c9_1)
def innkeepref18_Full.fn:Fn:=⟨1,[.tmp 2],.seq (.reg false [bx 1 0 0,
    o_ 2 (.move (.c .bool false))]) (c9_0)⟩
def c12_8:Cd:=td [9,10,11,12]
def c12_9:Cd:=.skip
def c12_17:Cd:=.exit 0
def c12_7:Cd:=.cond (.t 13) (.seq (td [13]) (c12_9)) (.seq (td [13]) (c12_17))
def c12_12:Cd:=td [16,17,18,19,20,21,22,23,24,25]
def c12_14:Cd:=td [27,28,29,30,31,32,33,34,35,36]
def c12_13:Cd:=.seq (.reg false [mv 27 5,
    mv 28 6,
    fa 29 tWorld 1 3,
    o_ 30 (.load (.d (.sl (.int .i64))) (.t 29)),
    mv 31 6,
    ix 32 (.sl (.int .i64)) 30 31,
    ld 33 (.int .i64) 32,
    o_ 34 (.build tWrite [(0,(.c (.int .i64) (0:Int))),(1,(.t 28)),(2,(.t 33))] []),
    o_ 35 (.slice 2 tWrite [(.t 34)]),
    o_ 36 (.append 3 tWrite (.t 27) (.t 35)),
    mv 5 36]) (c12_14)
def c12_16:Cd:=.skip
def c12_11:Cd:=.cond (.t 26) (.seq (td [26]) (c12_13)) (.seq (td [26]) (c12_16))
def c12_15:Cd:=td [14,15]
def c12_10:Cd:=.seq (.reg false [mv 14 6,
    bc 15 .add 14 1,
    mv 6 15]) (c12_15)
def c12_6:Cd:=.seq (.block 1 (.seq (.seq (.reg true [od 16 (.fieldAddr (.d tWorld) 1 (.t 2)) [0] [],
    od 17 (.load (.d (.sl (.int .i64))) (.t 16)) [0] [],
    mv 18 6,
    ix 19 (.sl (.int .i64)) 17 18,
    ld 20 (.int .i64) 19,
    od 21 (.fieldAddr (.d tWorld) 1 (.t 3)) [1] [],
    od 22 (.load (.d (.sl (.int .i64))) (.t 21)) [1] [],
    mv 23 6,
    ix 24 (.sl (.int .i64)) 22 23,
    ld 25 (.int .i64) 24,
    bi 26 .neq 20 25]) (c12_12)) (c12_11))) (c12_10)
def c12_5:Cd:=.tidy [] [(3,8)] [2] (some 9)
def c12_4:Cd:=.seq (.seq (.seq (.seq (.reg false [mv 9 6,
    fa 10 tWorld 1 2,
    o_ 11 (.load (.d (.sl (.int .i64))) (.t 10)),
    le 12 11,
    bi 13 .lss 9 12]) (c12_8)) (c12_7)) (c12_6)) (c12_5)
def c12_3:Cd:=.block 0 (.loop (c12_4))
def c12_24:Cd:=td [37,38,39,40]
def c12_25:Cd:=.skip
def c12_33:Cd:=.exit 2
def c12_23:Cd:=.cond (.t 41) (.seq (td [41]) (c12_25)) (.seq (td [41]) (c12_33))
def c12_28:Cd:=td [44,45,46,47,48,49,50,51,52,53]
def c12_30:Cd:=td [55,56,57,58,59,60,61,62,63,64]
def c12_29:Cd:=.seq (.reg false [mv 55 5,
    mv 56 7,
    fa 57 tWorld 2 3,
    o_ 58 (.load (.d (.sl (.int .i64))) (.t 57)),
    mv 59 7,
    ix 60 (.sl (.int .i64)) 58 59,
    ld 61 (.int .i64) 60,
    o_ 62 (.build tWrite [(0,(.c (.int .i64) (1:Int))),(1,(.t 56)),(2,(.t 61))] []),
    o_ 63 (.slice 4 tWrite [(.t 62)]),
    o_ 64 (.append 5 tWrite (.t 55) (.t 63)),
    mv 5 64]) (c12_30)
def c12_32:Cd:=.skip
def c12_27:Cd:=.cond (.t 54) (.seq (td [54]) (c12_29)) (.seq (td [54]) (c12_32))
def c12_31:Cd:=td [42,43]
def c12_26:Cd:=.seq (.reg false [mv 42 7,
    bc 43 .add 42 1,
    mv 7 43]) (c12_31)
def c12_22:Cd:=.seq (.block 3 (.seq (.seq (.reg true [od 44 (.fieldAddr (.d tWorld) 2 (.t 2)) [0] [],
    od 45 (.load (.d (.sl (.int .i64))) (.t 44)) [0] [],
    mv 46 7,
    ix 47 (.sl (.int .i64)) 45 46,
    ld 48 (.int .i64) 47,
    od 49 (.fieldAddr (.d tWorld) 2 (.t 3)) [1] [],
    od 50 (.load (.d (.sl (.int .i64))) (.t 49)) [1] [],
    mv 51 7,
    ix 52 (.sl (.int .i64)) 50 51,
    ld 53 (.int .i64) 52,
    bi 54 .neq 48 53]) (c12_28)) (c12_27))) (c12_26)
def c12_21:Cd:=.tidy [] [(5,8)] [4] (some 9)
def c12_20:Cd:=.seq (.seq (.seq (.seq (.reg false [mv 37 7,
    fa 38 tWorld 2 2,
    o_ 39 (.load (.d (.sl (.int .i64))) (.t 38)),
    le 40 39,
    bi 41 .lss 37 40]) (c12_24)) (c12_23)) (c12_22)) (c12_21)
def c12_19:Cd:=.block 2 (.loop (c12_20))
def c12_40:Cd:=td [65,66,67,68]
def c12_41:Cd:=.skip
def c12_49:Cd:=.exit 4
def c12_39:Cd:=.cond (.t 69) (.seq (td [69]) (c12_41)) (.seq (td [69]) (c12_49))
def c12_44:Cd:=td [72,73,74,75,76,77,78,79,80,81]
def c12_46:Cd:=td [83,84,85,86,87,88,89,90,91,92]
def c12_45:Cd:=.seq (.reg false [mv 83 5,
    mv 84 8,
    fa 85 tWorld 3 3,
    ld 86 (.sl tPlace) 85,
    mv 87 8,
    ix 88 (.sl tPlace) 86 87,
    ld 89 tPlace 88,
    o_ 90 (.build tWrite [(0,(.c (.int .i64) (2:Int))),(1,(.t 84)),(3,(.t 89))] []),
    o_ 91 (.slice 6 tWrite [(.t 90)]),
    o_ 92 (.append 7 tWrite (.t 83) (.t 91)),
    mv 5 92]) (c12_46)
def c12_48:Cd:=.skip
def c12_43:Cd:=.cond (.t 82) (.seq (td [82]) (c12_45)) (.seq (td [82]) (c12_48))
def c12_47:Cd:=td [70,71]
def c12_42:Cd:=.seq (.reg false [mv 70 8,
    bc 71 .add 70 1,
    mv 8 71]) (c12_47)
def c12_38:Cd:=.seq (.block 5 (.seq (.seq (.reg true [od 72 (.fieldAddr (.d tWorld) 3 (.t 2)) [0] [],
    od 73 (.load (.d (.sl tPlace)) (.t 72)) [0] [],
    mv 74 8,
    ix 75 (.sl tPlace) 73 74,
    ld 76 tPlace 75,
    od 77 (.fieldAddr (.d tWorld) 3 (.t 3)) [1] [],
    od 78 (.load (.d (.sl tPlace)) (.t 77)) [1] [],
    mv 79 8,
    ix 80 (.sl tPlace) 78 79,
    ld 81 tPlace 80,
    o_ 82 (.eqs tPlace true (.t 76) (.t 81))]) (c12_44)) (c12_43))) (c12_42)
def c12_37:Cd:=.tidy [] [(7,8)] [6] (some 9)
def c12_36:Cd:=.seq (.seq (.seq (.seq (.reg false [mv 65 8,
    fa 66 tWorld 3 2,
    ld 67 (.sl tPlace) 66,
    le 68 67,
    bi 69 .lss 65 68]) (c12_40)) (c12_39)) (c12_38)) (c12_37)
def c12_35:Cd:=.block 4 (.loop (c12_36))
def c12_51:Cd:=td [93]
def c12_50:Cd:=.ret
def c12_34:Cd:=.seq (.seq (.reg false [mv 93 5,
    mv 4 93]) (c12_51)) (c12_50)
def c12_18:Cd:=.seq (.seq (.reg false [ci 8 0]) (c12_35)) (c12_34)
def c12_2:Cd:=.seq (.seq (.reg false [ci 7 0]) (c12_19)) (c12_18)
def c12_1:Cd:=.seq (.seq (.reg false [ci 6 0]) (c12_3)) (c12_2)
def c12_0:Cd:=.seq (.reg false [o_ 5 (.mknil 8 tWrite)]) (c12_1)
def innkeepref18_From.fn:Fn:=⟨2,[.tmp 4],.seq (.reg false [bx 2 0 0,
    bx 3 1 1,
    o_ 4 (.move (.c (.sl tWrite) []))]) (c12_0)⟩
def c13_2:Cd:=td [5,6,7,8,9,10,11,12,13,14,15,16,17,18,19,20,21,22,23,24,25,26,27,28,29,30,31,32,33,34,35,36,37,38,39,40,41,42,43,44,45,46]
def c13_1:Cd:=.ret
def c13_0:Cd:=.seq (.seq (.reg false [fa 5 tWrite 1 3,
    ld 6 (.int .i64) 5,
    bc 7 .geq 6 0,
    mv 8 7,
    og 9 (.fieldAddr (.d tWrite) 0 (.t 3)) 8 true,
    og 10 (.load (.d (.int .i64)) (.t 9)) 8 true,
    og 11 (.bin .eql (.t 10) (.c (.int .i64) (0:Int))) 8 true,
    og 12 (.move (.t 11)) 8 true,
    og 13 (.fieldAddr (.d tWrite) 1 (.t 3)) 12 true,
    og 14 (.load (.d (.int .i64)) (.t 13)) 12 true,
    og 15 (.fieldAddr (.d tWorld) 1 (.t 2)) 12 true,
    og 16 (.load (.d (.sl (.int .i64))) (.t 15)) 12 true,
    og 17 (.len (.t 16)) 12 true,
    og 18 (.bin .lss (.t 14) (.t 17)) 12 true,
    og 19 (.pick (.t 12) (.t 18) (.c .bool false)) 8 true,
    og 20 (.move (.t 19)) 8 true,
    og 21 (.fieldAddr (.d tWrite) 0 (.t 3)) 20 false,
    og 22 (.load (.d (.int .i64)) (.t 21)) 20 false,
    og 23 (.bin .eql (.t 22) (.c (.int .i64) (1:Int))) 20 false,
    og 24 (.move (.t 23)) 20 false,
    og 25 (.fieldAddr (.d tWrite) 1 (.t 3)) 24 true,
    og 26 (.load (.d (.int .i64)) (.t 25)) 24 true,
    og 27 (.fieldAddr (.d tWorld) 2 (.t 2)) 24 true,
    og 28 (.load (.d (.sl (.int .i64))) (.t 27)) 24 true,
    og 29 (.len (.t 28)) 24 true,
    og 30 (.bin .lss (.t 26) (.t 29)) 24 true,
    og 31 (.pick (.t 24) (.t 30) (.c .bool false)) 20 false,
    og 32 (.pick (.t 20) (.c .bool true) (.t 31)) 8 true,
    og 33 (.move (.t 32)) 8 true,
    og 34 (.fieldAddr (.d tWrite) 0 (.t 3)) 33 false,
    og 35 (.load (.d (.int .i64)) (.t 34)) 33 false,
    og 36 (.bin .eql (.t 35) (.c (.int .i64) (2:Int))) 33 false,
    og 37 (.move (.t 36)) 33 false,
    og 38 (.fieldAddr (.d tWrite) 1 (.t 3)) 37 true,
    og 39 (.load (.d (.int .i64)) (.t 38)) 37 true,
    og 40 (.fieldAddr (.d tWorld) 3 (.t 2)) 37 true,
    og 41 (.load (.d (.sl tPlace)) (.t 40)) 37 true,
    og 42 (.len (.t 41)) 37 true,
    og 43 (.bin .lss (.t 39) (.t 42)) 37 true,
    og 44 (.pick (.t 37) (.t 43) (.c .bool false)) 33 false,
    og 45 (.pick (.t 33) (.c .bool true) (.t 44)) 8 true,
    o_ 46 (.pick (.t 8) (.t 45) (.c .bool false)),
    mv 4 46]) (c13_2)) (c13_1)
def innkeepref18_May.fn:Fn:=⟨2,[.tmp 4],.seq (.reg false [bx 2 0 0,
    bx 3 1 1,
    o_ 4 (.move (.c .bool false))]) (c13_0)⟩
def c18_2:Cd:=td [6,7]
def c18_5:Cd:=td [8,9]
def c18_7:Cd:=td [11,12,13,14,15,16,17]
def c18_6:Cd:=.seq (.reg false [fa 11 tWorld 1 5,
    o_ 12 (.load (.d (.sl (.int .i64))) (.t 11)),
    fa 13 tWrite 1 3,
    ld 14 (.int .i64) 13,
    fa 15 tWrite 2 3,
    ld 16 (.int .i64) 15,
    ix 17 (.sl (.int .i64)) 12 14,
    sr (.int .i64) 17 16]) (c18_7)
def c18_22:Cd:=.skip
def c18_4:Cd:=.cond (.t 10) (.seq (td [10]) (c18_6)) (.seq (td [10]) (c18_22))
def c18_10:Cd:=td [18,19]
def c18_12:Cd:=td [21,22,23,24,25,26,27]
def c18_11:Cd:=.seq (.reg false [fa 21 tWorld 2 5,
    o_ 22 (.load (.d (.sl (.int .i64))) (.t 21)),
    fa 23 tWrite 1 3,
    ld 24 (.int .i64) 23,
    fa 25 tWrite 2 3,
    ld 26 (.int .i64) 25,
    ix 27 (.sl (.int .i64)) 22 24,
    sr (.int .i64) 27 26]) (c18_12)
def c18_21:Cd:=.skip
def c18_9:Cd:=.cond (.t 20) (.seq (td [20]) (c18_11)) (.seq (td [20]) (c18_21))
def c18_15:Cd:=td [28,29]
def c18_17:Cd:=td [31,32,33,34,35,36,37]
def c18_16:Cd:=.seq (.reg false [fa 31 tWorld 3 5,
    ld 32 (.sl tPlace) 31,
    fa 33 tWrite 1 3,
    ld 34 (.int .i64) 33,
    fa 35 tWrite 3 3,
    ld 36 tPlace 35,
    ix 37 (.sl tPlace) 32 34,
    sr tPlace 37 36]) (c18_17)
def c18_20:Cd:=.skip
def c18_14:Cd:=.cond (.t 30) (.seq (td [30]) (c18_16)) (.seq (td [30]) (c18_20))
def c18_19:Cd:=td [38]
def c18_18:Cd:=.ret
def c18_13:Cd:=.seq (.seq (.reg false [ld 38 tWorld 5,
    sr tWorld 4 38]) (c18_19)) (c18_18)
def c18_8:Cd:=.seq (.seq (.seq (.reg false [fa 28 tWrite 0 3,
    ld 29 (.int .i64) 28,
    bc 30 .eql 29 2]) (c18_15)) (c18_14)) (c18_13)
def c18_3:Cd:=.seq (.seq (.seq (.reg false [fa 18 tWrite 0 3,
    ld 19 (.int .i64) 18,
    bc 20 .eql 19 1]) (c18_10)) (c18_9)) (c18_8)
def c18_1:Cd:=.seq (.seq (.seq (.reg false [fa 8 tWrite 0 3,
    ld 9 (.int .i64) 8,
    bc 10 .eql 9 0]) (c18_5)) (c18_4)) (c18_3)
def c18_0:Cd:=.seq (.seq (.reg false [ld 6 tWorld 2,
    o_ 7 (.call (.f 21) [(.t 6)] [.d tWorld] [((0,[1]),4),((0,[2]),5),((0,[3]),6)] false),
    nb 5 3 tWorld,
    sr tWorld 5 7]) (c18_2)) (c18_1)
def innkeepref18_Do.fn:Fn:=⟨2,[.cell 4 (.d tWorld)],.seq (.reg false [bx 2 0 0,
    bx 3 1 1,
    nb 4 2 tWorld]) (c18_0)⟩
def c16_2:Cd:=td [7,8]
def c16_9:Cd:=td [9,10,11]
def c16_10:Cd:=.skip
def c16_14:Cd:=.exit 0
def c16_8:Cd:=.cond (.t 12) (.seq (td [12]) (c16_10)) (.seq (td [12]) (c16_14))
def c16_12:Cd:=td [15,16,17,18,19,20]
def c16_13:Cd:=td [13,14]
def c16_11:Cd:=.seq (.reg false [mv 13 6,
    bc 14 .add 13 1,
    mv 6 14]) (c16_13)
def c16_7:Cd:=.seq (.block 1 (.seq (.reg true [od 15 (.load (.d tWorld) (.t 5)) [2] [],
    mv 16 1,
    mv 17 6,
    ix 18 (.sl tWrite) 16 17,
    ld 19 tWrite 18,
    o_ 20 (.call (.f 18) [(.t 15),(.t 19)] [.d tWorld] [] false),
    ⟨none,.store (.d tWorld) (.t 5) (.t 20),none,[],[2]⟩]) (c16_12))) (c16_11)
def c16_6:Cd:=.tidy [] [] [] (some 3)
def c16_5:Cd:=.seq (.seq (.seq (.seq (.reg false [mv 9 6,
    mv 10 1,
    le 11 10,
    bi 12 .lss 9 11]) (c16_9)) (c16_8)) (c16_7)) (c16_6)
def c16_4:Cd:=.block 0 (.loop (c16_5))
def c16_16:Cd:=td [21]
def c16_15:Cd:=.ret
def c16_3:Cd:=.seq (.seq (.reg false [ld 21 tWorld 5,
    sr tWorld 4 21]) (c16_16)) (c16_15)
def c16_1:Cd:=.seq (.seq (.reg false [ci 6 0]) (c16_4)) (c16_3)
def c16_0:Cd:=.seq (.seq (.reg false [ld 7 tWorld 2,
    o_ 8 (.call (.f 21) [(.t 7)] [.d tWorld] [] false),
    nb 5 2 tWorld,
    sr tWorld 5 8]) (c16_2)) (c16_1)
def innkeepref18_All.fn:Fn:=⟨2,[.cell 4 (.d tWorld)],.seq (.reg false [bx 2 0 0,
    nb 4 1 tWorld]) (c16_0)⟩
def c3_3:Cd:=td [8,9,10,11,12,13,14,15,16,17,18,19,20,21,22,23,24,25,26,27,28,29,30,31,32,33,34,35,36,37,38,39,40,41,42,43,44,45,46,47,48,49,50,51]
def c3_6:Cd:=td [53]
def c3_5:Cd:=.ret
def c3_4:Cd:=.seq (.seq (.reg false [o_ 53 (.call (.f 7) [] [.d .bool] [] false),
    mv 6 53]) (c3_6)) (c3_5)
def c3_7:Cd:=.skip
def c3_2:Cd:=.cond (.t 52) (.seq (td [52]) (c3_4)) (.seq (td [52]) (c3_7))
def c3_9:Cd:=td [54,55,56]
def c3_12:Cd:=td [57,58,59,60,61,62,63]
def c3_14:Cd:=.ret
def c3_13:Cd:=.seq (.reg false [o_ 6 (.move (.c .bool false))]) (c3_14)
def c3_15:Cd:=.skip
def c3_11:Cd:=.cond (.t 64) (.seq (td [64]) (c3_13)) (.seq (td [64]) (c3_15))
def c3_22:Cd:=td [65,66,67]
def c3_23:Cd:=.skip
def c3_31:Cd:=.exit 0
def c3_21:Cd:=.cond (.t 68) (.seq (td [68]) (c3_23)) (.seq (td [68]) (c3_31))
def c3_26:Cd:=td [71,72,73,74,75,76]
def c3_28:Cd:=.ret
def c3_27:Cd:=.seq (.reg false [o_ 6 (.move (.c .bool true))]) (c3_28)
def c3_29:Cd:=.skip
def c3_25:Cd:=.cond (.t 77) (.seq (td [77]) (c3_27)) (.seq (td [77]) (c3_29))
def c3_30:Cd:=td [69,70]
def c3_24:Cd:=.seq (.reg false [mv 69 7,
    bc 70 .add 69 1,
    mv 7 70]) (c3_30)
def c3_20:Cd:=.seq (.block 1 (.seq (.seq (.reg true [od 71 (.load (.d tWorld) (.t 3)) [0] [],
    mv 72 2,
    mv 73 7,
    ix 74 (.sl tWrite) 72 73,
    ld 75 tWrite 74,
    o_ 76 (.call (.f 13) [(.t 71),(.t 75)] [.d .bool] [] false),
    nt 77 76]) (c3_26)) (c3_25))) (c3_24)
def c3_19:Cd:=.tidy [] [] [] (some 2)
def c3_18:Cd:=.seq (.seq (.seq (.seq (.reg false [mv 65 7,
    mv 66 2,
    le 67 66,
    bi 68 .lss 65 67]) (c3_22)) (c3_21)) (c3_20)) (c3_19)
def c3_17:Cd:=.block 0 (.loop (c3_18))
def c3_33:Cd:=td [78,79,80,81,82,83,84,85,86,87,88,89,90,91,92,93,94,95,96,97,98,99,100,101,102]
def c3_32:Cd:=.ret
def c3_16:Cd:=.seq (.seq (.reg true [od 78 (.load (.d tWorld) (.t 3)) [0] [],
    mv 79 2,
    o_ 80 (.call (.f 15) [(.t 78),(.t 79)] [.d tWorld] [] false),
    od 81 (.load (.d tWorld) (.t 3)) [0] [],
    mv 82 2,
    o_ 83 (.call (.f 16) [(.t 81),(.t 82)] [.d tWorld] [] false),
    o_ 84 (.call (.f 14) [(.t 80),(.t 83)] [.d .bool] [] false),
    mv 85 84,
    og 86 (.move (.t 2)) 85 true,
    og 87 (.len (.t 86)) 85 true,
    og 88 (.bin .eql (.t 87) (.c (.int .i64) (0:Int))) 85 true,
    og 89 (.move (.t 88)) 85 true,
    ogd 90 (.load (.d tWorld) (.t 3)) 89 false [0],
    og 91 (.move (.t 2)) 89 false,
    og 92 (.index (.sl tWrite) (.t 91) (.c (.int .i64) (0:Int))) 89 false,
    og 93 (.load (.d tWrite) (.t 92)) 89 false,
    og 94 (.call (.f 17) [(.t 90),(.t 93)] [.d tWorld] [] false) 89 false,
    ogd 95 (.load (.d tWorld) (.t 3)) 89 false [0],
    og 96 (.move (.t 2)) 89 false,
    og 97 (.index (.sl tWrite) (.t 96) (.c (.int .i64) (0:Int))) 89 false,
    og 98 (.load (.d tWrite) (.t 97)) 89 false,
    og 99 (.call (.f 18) [(.t 95),(.t 98)] [.d tWorld] [] false) 89 false,
    og 100 (.call (.f 14) [(.t 94),(.t 99)] [.d .bool] [] false) 89 false,
    og 101 (.pick (.t 89) (.c .bool true) (.t 100)) 85 true,
    o_ 102 (.pick (.t 85) (.t 101) (.c .bool false)),
    mv 6 102]) (c3_33)) (c3_32)
def c3_10:Cd:=.seq (.seq (.reg false [ci 7 0]) (c3_17)) (c3_16)
def c3_8:Cd:=.seq (.seq (.seq (.reg true [od 57 (.load (.d tWorld) (.t 3)) [0] [],
    od 58 (.load (.d tWorld) (.t 4)) [1] [],
    o_ 59 (.call (.f 11) [(.t 57),(.t 58)] [.d (.sl tWrite)] [] false),
    od 60 (.load (.d tWorld) (.t 3)) [0] [],
    od 61 (.load (.d tWorld) (.t 4)) [1] [],
    o_ 62 (.call (.f 12) [(.t 60),(.t 61)] [.d (.sl tWrite)] [] false),
    o_ 63 (.call (.f 10) [(.t 59),(.t 62)] [.d .bool] [] false),
    nt 64 63]) (c3_12)) (c3_11)) (c3_10)
def c3_1:Cd:=.seq (.seq (.reg false [fa 54 tWorld 0 3,
    ld 55 tDesc 54,
    fa 56 tWorld 0 4,
    sr tDesc 56 55]) (c3_9)) (c3_8)
def c3_0:Cd:=.seq (.seq (.seq (.reg false [o_ 8 (.call (.f 7) [] [.d .bool] [] false),
    nt 9 8,
    mv 10 9,
    og 11 (.load (.d tWorld) (.t 3)) 10 false,
    og 12 (.call (.f 8) [(.t 11)] [.d .bool] [] false) 10 false,
    og 13 (.not (.t 12)) 10 false,
    o_ 14 (.pick (.t 10) (.c .bool true) (.t 13)),
    mv 15 14,
    og 16 (.load (.d tWorld) (.t 4)) 15 false,
    og 17 (.call (.f 8) [(.t 16)] [.d .bool] [] false) 15 false,
    og 18 (.not (.t 17)) 15 false,
    o_ 19 (.pick (.t 15) (.c .bool true) (.t 18)),
    mv 20 19,
    og 21 (.load (.d tWorld) (.t 3)) 20 false,
    og 22 (.call (.f 9) [(.t 21)] [.d .bool] [] false) 20 false,
    og 23 (.not (.t 22)) 20 false,
    o_ 24 (.pick (.t 20) (.c .bool true) (.t 23)),
    mv 25 24,
    og 26 (.load (.d tWorld) (.t 4)) 25 false,
    og 27 (.call (.f 9) [(.t 26)] [.d .bool] [] false) 25 false,
    og 28 (.not (.t 27)) 25 false,
    o_ 29 (.pick (.t 25) (.c .bool true) (.t 28)),
    mv 30 29,
    og 31 (.fieldAddr (.d tWorld) 1 (.t 3)) 30 false,
    og 32 (.load (.d (.sl (.int .i64))) (.t 31)) 30 false,
    og 33 (.len (.t 32)) 30 false,
    og 34 (.fieldAddr (.d tWorld) 1 (.t 4)) 30 false,
    og 35 (.load (.d (.sl (.int .i64))) (.t 34)) 30 false,
    og 36 (.len (.t 35)) 30 false,
    og 37 (.bin .neq (.t 33) (.t 36)) 30 false,
    o_ 38 (.pick (.t 30) (.c .bool true) (.t 37)),
    mv 39 38,
    og 40 (.fieldAddr (.d tWorld) 3 (.t 3)) 39 false,
    og 41 (.load (.d (.sl tPlace)) (.t 40)) 39 false,
    og 42 (.len (.t 41)) 39 false,
    og 43 (.fieldAddr (.d tWorld) 3 (.t 4)) 39 false,
    og 44 (.load (.d (.sl tPlace)) (.t 43)) 39 false,
    og 45 (.len (.t 44)) 39 false,
    og 46 (.bin .neq (.t 42) (.t 45)) 39 false,
    o_ 47 (.pick (.t 39) (.c .bool true) (.t 46)),
    mv 48 47,
    og 49 (.move (.t 2)) 48 false,
    og 50 (.len (.t 49)) 48 false,
    og 51 (.bin .gtr (.t 50) (.c (.int .i64) (60:Int))) 48 false,
    o_ 52 (.pick (.t 48) (.c .bool true) (.t 51))]) (c3_3)) (c3_2)) (c3_1)
def innkeeplaw18_PlanTells.fn:Fn:=⟨3,[.tmp 6],.seq (.reg false [bx 3 0 0,
    bx 4 1 1,
    o_ 6 (.move (.c .bool false))]) (c3_0)⟩
def c20_2:Cd:=td [7,8]
def c20_9:Cd:=td [9,10,11]
def c20_10:Cd:=.skip
def c20_18:Cd:=.exit 0
def c20_8:Cd:=.cond (.t 12) (.seq (td [12]) (c20_10)) (.seq (td [12]) (c20_18))
def c20_13:Cd:=td [15,16,17,18,19]
def c20_15:Cd:=td [21,22,23,24,25,26,27,28,29,30,31,32,33]
def c20_14:Cd:=.seq (.reg true [od 21 (.load (.d tWorld) (.t 5)) [2] [],
    mv 22 1,
    mv 23 6,
    ix 24 (.sl tSess) 22 23,
    fa 25 tSess 8 24,
    ld 26 (.sl tWrite) 25,
    mv 27 1,
    mv 28 6,
    ix 29 (.sl tSess) 27 28,
    fa 30 tSess 4 29,
    ld 31 (.int .i64) 30,
    o_ 32 (.slx tWrite (.t 26) (some (.t 31)) none),
    o_ 33 (.call (.f 16) [(.t 21),(.t 32)] [.d tWorld] [] false),
    ⟨none,.store (.d tWorld) (.t 5) (.t 33),none,[],[2]⟩]) (c20_15)
def c20_17:Cd:=.skip
def c20_12:Cd:=.cond (.t 20) (.seq (td [20]) (c20_14)) (.seq (td [20]) (c20_17))
def c20_16:Cd:=td [13,14]
def c20_11:Cd:=.seq (.reg false [mv 13 6,
    bc 14 .add 13 1,
    mv 6 14]) (c20_16)
def c20_7:Cd:=.seq (.block 1 (.seq (.seq (.reg false [mv 15 1,
    mv 16 6,
    ix 17 (.sl tSess) 15 16,
    fa 18 tSess 3 17,
    ld 19 (.int .i64) 18,
    bc 20 .eql 19 5]) (c20_13)) (c20_12))) (c20_11)
def c20_6:Cd:=.tidy [] [] [] (some 3)
def c20_5:Cd:=.seq (.seq (.seq (.seq (.reg false [mv 9 6,
    mv 10 1,
    le 11 10,
    bi 12 .lss 9 11]) (c20_9)) (c20_8)) (c20_7)) (c20_6)
def c20_4:Cd:=.block 0 (.loop (c20_5))
def c20_20:Cd:=td [34]
def c20_19:Cd:=.ret
def c20_3:Cd:=.seq (.seq (.reg false [ld 34 tWorld 5,
    sr tWorld 4 34]) (c20_20)) (c20_19)
def c20_1:Cd:=.seq (.seq (.reg false [ci 6 0]) (c20_4)) (c20_3)
def c20_0:Cd:=.seq (.seq (.reg false [ld 7 tWorld 2,
    o_ 8 (.call (.f 21) [(.t 7)] [.d tWorld] [] false),
    nb 5 2 tWorld,
    sr tWorld 5 8]) (c20_2)) (c20_1)
def innkeepref18_Settled.fn:Fn:=⟨2,[.cell 4 (.d tWorld)],.seq (.reg false [bx 2 0 0,
    nb 4 1 tWorld]) (c20_0)⟩
def c4_3:Cd:=td [15,16,17,18,19,20,21,22,23,24,25,26,27,28,29,30,31,32,33,34,35]
def c4_6:Cd:=td [37]
def c4_5:Cd:=.ret
def c4_4:Cd:=.seq (.seq (.reg false [o_ 37 (.call (.f 7) [] [.d .bool] [] false),
    mv 8 37]) (c4_6)) (c4_5)
def c4_7:Cd:=.skip
def c4_2:Cd:=.cond (.t 36) (.seq (td [36]) (c4_4)) (.seq (td [36]) (c4_7))
def c4_14:Cd:=td [38,39,40]
def c4_15:Cd:=.skip
def c4_23:Cd:=.exit 0
def c4_13:Cd:=.cond (.t 41) (.seq (td [41]) (c4_15)) (.seq (td [41]) (c4_23))
def c4_18:Cd:=td [44,45,46,47,48,49]
def c4_20:Cd:=.ret
def c4_19:Cd:=.seq (.reg false [o_ 8 (.move (.c .bool true))]) (c4_20)
def c4_21:Cd:=.skip
def c4_17:Cd:=.cond (.t 50) (.seq (td [50]) (c4_19)) (.seq (td [50]) (c4_21))
def c4_22:Cd:=td [42,43]
def c4_16:Cd:=.seq (.reg false [mv 42 9,
    bc 43 .add 42 1,
    mv 9 43]) (c4_22)
def c4_12:Cd:=.seq (.block 1 (.seq (.seq (.reg true [od 44 (.load (.d tWorld) (.t 4)) [0] [],
    mv 45 1,
    mv 46 9,
    ix 47 (.sl tWrite) 45 46,
    ld 48 tWrite 47,
    o_ 49 (.call (.f 13) [(.t 44),(.t 48)] [.d .bool] [] false),
    nt 50 49]) (c4_18)) (c4_17))) (c4_16)
def c4_11:Cd:=.tidy [] [] [] (some 1)
def c4_10:Cd:=.seq (.seq (.seq (.seq (.reg false [mv 38 9,
    mv 39 1,
    le 40 39,
    bi 41 .lss 38 40]) (c4_14)) (c4_13)) (c4_12)) (c4_11)
def c4_9:Cd:=.block 0 (.loop (c4_10))
def c4_26:Cd:=td [51]
def c4_33:Cd:=td [52,53,54]
def c4_34:Cd:=.skip
def c4_50:Cd:=.exit 2
def c4_32:Cd:=.cond (.t 55) (.seq (td [55]) (c4_34)) (.seq (td [55]) (c4_50))
def c4_37:Cd:=td [58,59,60,61,62,63,64,65,66]
def c4_39:Cd:=td [67,68,69,70,71,72]
def c4_41:Cd:=td [73,74,75]
def c4_44:Cd:=td [76]
def c4_46:Cd:=td [78,79,80,81,82,83]
def c4_45:Cd:=.seq (.reg false [mv 78 10,
    mv 79 14,
    mv 80 1,
    o_ 81 (.build tSess [(3,(.t 79)),(8,(.t 80))] []),
    o_ 82 (.slice 4 tSess [(.t 81)]),
    o_ 83 (.append 5 tSess (.t 78) (.t 82)),
    mv 10 83]) (c4_46)
def c4_49:Cd:=.skip
def c4_43:Cd:=.cond (.t 77) (.seq (td [77]) (c4_45)) (.seq (td [77]) (c4_49))
def c4_47:Cd:=td [84,85,86,87,88]
def c4_42:Cd:=.seq (.reg true [od 84 (.load (.d tWorld) (.t 11)) [1] [],
    mv 85 1,
    mv 86 13,
    o_ 87 (.slx tWrite (.t 85) (some (.t 86)) none),
    o_ 88 (.call (.f 15) [(.t 84),(.t 87)] [.d tWorld] [] false),
    ⟨none,.store (.d tWorld) (.t 11) (.t 88),none,[],[1]⟩]) (c4_47)
def c4_40:Cd:=.seq (.seq (.seq (.reg false [mv 76 14,
    bc 77 .neq 76 5]) (c4_44)) (c4_43)) (c4_42)
def c4_38:Cd:=.seq (.seq (.reg false [mv 73 3,
    o_ 74 (.conv .i64 (.t 73)),
    bc 75 .rem 74 13,
    mv 14 75]) (c4_41)) (c4_40)
def c4_36:Cd:=.seq (.seq (.reg false [mv 67 10,
    mv 68 1,
    mv 69 13,
    o_ 70 (.build tSess [(3,(.c (.int .i64) (5:Int))),(8,(.t 68)),(4,(.t 69))] []),
    o_ 71 (.slice 2 tSess [(.t 70)]),
    o_ 72 (.append 3 tSess (.t 67) (.t 71)),
    mv 10 72]) (c4_39)) (c4_38)
def c4_48:Cd:=td [56,57]
def c4_35:Cd:=.seq (.reg false [mv 56 12,
    bc 57 .add 56 1,
    mv 12 57]) (c4_48)
def c4_31:Cd:=.seq (.block 3 (.seq (.seq (.reg false [mv 58 2,
    mv 59 12,
    ix 60 (.sl (.int .u8)) 58 59,
    ld 61 (.int .u8) 60,
    o_ 62 (.conv .i64 (.t 61)),
    mv 63 1,
    le 64 63,
    bc 65 .add 64 1,
    bi 66 .rem 62 65,
    mv 13 66]) (c4_37)) (c4_36))) (c4_35)
def c4_30:Cd:=.tidy [13,14] [(3,6),(5,6)] [2,3,4] (some 7)
def c4_29:Cd:=.seq (.seq (.seq (.seq (.reg false [mv 52 12,
    mv 53 2,
    le 54 53,
    bi 55 .lss 52 54]) (c4_33)) (c4_32)) (c4_31)) (c4_30)
def c4_28:Cd:=.block 2 (.loop (c4_29))
def c4_52:Cd:=td [89,90,91,92,93,94,95,96,97,98,99,100,101,102,103,104,105,106,107,108]
def c4_51:Cd:=.ret
def c4_27:Cd:=.seq (.seq (.reg true [od 89 (.load (.d tWorld) (.t 4)) [0] [],
    mv 90 10,
    od 91 (.call (.f 19) [(.t 89),(.t 90)] [.d tWorld] [] false) [] [6],
    od 92 (.load (.d tWorld) (.t 11)) [1] [],
    o_ 93 (.call (.f 14) [(.t 91),(.t 92)] [.d .bool] [] false),
    mv 94 93,
    ogd 95 (.load (.d tWorld) (.t 4)) 94 true [0],
    og 96 (.move (.t 10)) 94 true,
    ogd 97 (.call (.f 19) [(.t 95),(.t 96)] [.d tWorld] [] false) 94 true [6],
    ogd 98 (.load (.d tWorld) (.t 4)) 94 true [0],
    og 99 (.move (.t 10)) 94 true,
    ogd 100 (.call (.f 20) [(.t 98),(.t 99)] [.d tWorld] [] false) 94 true [6],
    og 101 (.call (.f 14) [(.t 97),(.t 100)] [.d .bool] [] false) 94 true,
    o_ 102 (.pick (.t 94) (.t 101) (.c .bool false)),
    mv 103 102,
    ogd 104 (.load (.d tWorld) (.t 4)) 103 true [0],
    og 105 (.call (.f 19) [(.t 104),(.c (.sl tSess) ([]:List (den tSess)))] [.d tWorld] [] false) 103 true,
    ogd 106 (.load (.d tWorld) (.t 4)) 103 true [0],
    og 107 (.call (.f 14) [(.t 105),(.t 106)] [.d .bool] [] false) 103 true,
    o_ 108 (.pick (.t 103) (.t 107) (.c .bool false)),
    mv 8 108]) (c4_52)) (c4_51)
def c4_25:Cd:=.seq (.seq (.reg false [ci 12 0]) (c4_28)) (c4_27)
def c4_24:Cd:=.seq (.seq (.reg false [ld 51 tWorld 4,
    nb 11 1 tWorld,
    sr tWorld 11 51]) (c4_26)) (c4_25)
def c4_8:Cd:=.seq (.reg false [o_ 10 (.mknil 6 tSess)]) (c4_24)
def c4_1:Cd:=.seq (.seq (.reg false [ci 9 0]) (c4_9)) (c4_8)
def c4_0:Cd:=.seq (.seq (.seq (.reg false [o_ 15 (.call (.f 7) [] [.d .bool] [] false),
    nt 16 15,
    mv 17 16,
    og 18 (.load (.d tWorld) (.t 4)) 17 false,
    og 19 (.call (.f 8) [(.t 18)] [.d .bool] [] false) 17 false,
    og 20 (.not (.t 19)) 17 false,
    o_ 21 (.pick (.t 17) (.c .bool true) (.t 20)),
    mv 22 21,
    og 23 (.load (.d tWorld) (.t 4)) 22 false,
    og 24 (.call (.f 9) [(.t 23)] [.d .bool] [] false) 22 false,
    og 25 (.not (.t 24)) 22 false,
    o_ 26 (.pick (.t 22) (.c .bool true) (.t 25)),
    mv 27 26,
    og 28 (.move (.t 1)) 27 false,
    og 29 (.len (.t 28)) 27 false,
    og 30 (.bin .gtr (.t 29) (.c (.int .i64) (40:Int))) 27 false,
    o_ 31 (.pick (.t 27) (.c .bool true) (.t 30)),
    mv 32 31,
    og 33 (.move (.t 2)) 32 false,
    og 34 (.len (.t 33)) 32 false,
    og 35 (.bin .gtr (.t 34) (.c (.int .i64) (6:Int))) 32 false,
    o_ 36 (.pick (.t 32) (.c .bool true) (.t 35))]) (c4_3)) (c4_2)) (c4_1)
def innkeeplaw18_PlanSettles.fn:Fn:=⟨4,[.tmp 8],.seq (.reg false [bx 4 0 0,
    o_ 8 (.move (.c .bool false))]) (c4_0)⟩
def c5_3:Cd:=td [11,12,13,14,15,16,17,18,19,20,21,22,23,24,25,26]
def c5_6:Cd:=td [28]
def c5_5:Cd:=.ret
def c5_4:Cd:=.seq (.seq (.reg false [o_ 28 (.call (.f 7) [] [.d .bool] [] false),
    mv 4 28]) (c5_6)) (c5_5)
def c5_7:Cd:=.skip
def c5_2:Cd:=.cond (.t 27) (.seq (td [27]) (c5_4)) (.seq (td [27]) (c5_7))
def c5_14:Cd:=td [29,30,31]
def c5_15:Cd:=.skip
def c5_23:Cd:=.exit 0
def c5_13:Cd:=.cond (.t 32) (.seq (td [32]) (c5_15)) (.seq (td [32]) (c5_23))
def c5_18:Cd:=td [35,36,37,38,39,40]
def c5_20:Cd:=.ret
def c5_19:Cd:=.seq (.reg false [o_ 4 (.move (.c .bool true))]) (c5_20)
def c5_21:Cd:=.skip
def c5_17:Cd:=.cond (.t 41) (.seq (td [41]) (c5_19)) (.seq (td [41]) (c5_21))
def c5_22:Cd:=td [33,34]
def c5_16:Cd:=.seq (.reg false [mv 33 5,
    bc 34 .add 33 1,
    mv 5 34]) (c5_22)
def c5_12:Cd:=.seq (.block 1 (.seq (.seq (.reg true [od 35 (.load (.d tWorld) (.t 2)) [0] [],
    mv 36 1,
    mv 37 5,
    ix 38 (.sl tWrite) 36 37,
    ld 39 tWrite 38,
    o_ 40 (.call (.f 13) [(.t 35),(.t 39)] [.d .bool] [] false),
    nt 41 40]) (c5_18)) (c5_17))) (c5_16)
def c5_11:Cd:=.tidy [] [] [] (some 1)
def c5_10:Cd:=.seq (.seq (.seq (.seq (.reg false [mv 29 5,
    mv 30 1,
    le 31 30,
    bi 32 .lss 29 31]) (c5_14)) (c5_13)) (c5_12)) (c5_11)
def c5_9:Cd:=.block 0 (.loop (c5_10))
def c5_25:Cd:=td [42,43]
def c5_27:Cd:=td [44,45,46]
def c5_29:Cd:=td [47,48,49,50,51]
def c5_36:Cd:=td [52,53,54,55]
def c5_37:Cd:=.skip
def c5_43:Cd:=.exit 2
def c5_35:Cd:=.cond (.t 56) (.seq (td [56]) (c5_37)) (.seq (td [56]) (c5_43))
def c5_40:Cd:=td [59,60,61,62]
def c5_41:Cd:=td [63,64,65,66]
def c5_39:Cd:=.seq (.reg false [fa 63 tWorld 1 8,
    o_ 64 (.load (.d (.sl (.int .i64))) (.t 63)),
    mv 65 9,
    ix 66 (.sl (.int .i64)) 64 65,
    on_ (.store (.d (.int .i64)) (.t 66) (.c (.int .i64) (77:Int)))]) (c5_41)
def c5_42:Cd:=td [57,58]
def c5_38:Cd:=.seq (.reg false [mv 57 9,
    bc 58 .add 57 1,
    mv 9 58]) (c5_42)
def c5_34:Cd:=.seq (.block 3 (.seq (.seq (.reg false [fa 59 tWorld 1 7,
    o_ 60 (.load (.d (.sl (.int .i64))) (.t 59)),
    mv 61 9,
    ix 62 (.sl (.int .i64)) 60 61,
    on_ (.store (.d (.int .i64)) (.t 62) (.c (.int .i64) (77:Int)))]) (c5_40)) (c5_39))) (c5_38)
def c5_33:Cd:=.tidy [] [] [] (some 9)
def c5_32:Cd:=.seq (.seq (.seq (.seq (.reg false [mv 52 9,
    fa 53 tWorld 1 7,
    o_ 54 (.load (.d (.sl (.int .i64))) (.t 53)),
    le 55 54,
    bi 56 .lss 52 55]) (c5_36)) (c5_35)) (c5_34)) (c5_33)
def c5_31:Cd:=.block 2 (.loop (c5_32))
def c5_50:Cd:=td [67,68,69,70]
def c5_51:Cd:=.skip
def c5_57:Cd:=.exit 4
def c5_49:Cd:=.cond (.t 71) (.seq (td [71]) (c5_51)) (.seq (td [71]) (c5_57))
def c5_54:Cd:=td [74,75,76,77,78]
def c5_55:Cd:=td [79,80,81,82,83]
def c5_53:Cd:=.seq (.reg false [fa 79 tWorld 3 8,
    ld 80 (.sl tPlace) 79,
    mv 81 10,
    ix 82 (.sl tPlace) 80 81,
    fa 83 tPlace 1 82,
    on_ (.store (.d (.int .i64)) (.t 83) (.c (.int .i64) (77:Int)))]) (c5_55)
def c5_56:Cd:=td [72,73]
def c5_52:Cd:=.seq (.reg false [mv 72 10,
    bc 73 .add 72 1,
    mv 10 73]) (c5_56)
def c5_48:Cd:=.seq (.block 5 (.seq (.seq (.reg false [fa 74 tWorld 3 7,
    ld 75 (.sl tPlace) 74,
    mv 76 10,
    ix 77 (.sl tPlace) 75 76,
    fa 78 tPlace 1 77,
    on_ (.store (.d (.int .i64)) (.t 78) (.c (.int .i64) (77:Int)))]) (c5_54)) (c5_53))) (c5_52)
def c5_47:Cd:=.tidy [] [] [] (some 9)
def c5_46:Cd:=.seq (.seq (.seq (.seq (.reg false [mv 67 10,
    fa 68 tWorld 3 7,
    ld 69 (.sl tPlace) 68,
    le 70 69,
    bi 71 .lss 67 70]) (c5_50)) (c5_49)) (c5_48)) (c5_47)
def c5_45:Cd:=.block 4 (.loop (c5_46))
def c5_59:Cd:=td [84,85,86]
def c5_58:Cd:=.ret
def c5_44:Cd:=.seq (.seq (.reg false [ld 84 tWorld 6,
    ld 85 tWorld 2,
    o_ 86 (.call (.f 14) [(.t 84),(.t 85)] [.d .bool] [] false),
    mv 4 86]) (c5_59)) (c5_58)
def c5_30:Cd:=.seq (.seq (.reg false [ci 10 0]) (c5_45)) (c5_44)
def c5_28:Cd:=.seq (.seq (.reg false [ci 9 0]) (c5_31)) (c5_30)
def c5_26:Cd:=.seq (.seq (.reg false [ld 47 tWorld 6,
    mv 48 1,
    o_ 49 (.build tSess [(3,(.c (.int .i64) (5:Int))),(8,(.t 48))] []),
    o_ 50 (.slice 3 tSess [(.t 49)]),
    o_ 51 (.call (.f 19) [(.t 47),(.t 50)] [.d tWorld] [((0,[1]),6),((0,[3]),8)] false),
    nb 8 4 tWorld,
    sr tWorld 8 51]) (c5_29)) (c5_28)
def c5_24:Cd:=.seq (.seq (.reg false [ld 44 tWorld 6,
    mv 45 1,
    o_ 46 (.call (.f 15) [(.t 44),(.t 45)] [.d tWorld] [((0,[1]),5),((0,[3]),7)] false),
    nb 7 2 tWorld,
    sr tWorld 7 46]) (c5_27)) (c5_26)
def c5_8:Cd:=.seq (.seq (.reg false [ld 42 tWorld 2,
    o_ 43 (.call (.f 21) [(.t 42)] [.d tWorld] [] false),
    nb 6 1 tWorld,
    sr tWorld 6 43]) (c5_25)) (c5_24)
def c5_1:Cd:=.seq (.seq (.reg false [ci 5 0]) (c5_9)) (c5_8)
def c5_0:Cd:=.seq (.seq (.seq (.reg false [o_ 11 (.call (.f 7) [] [.d .bool] [] false),
    nt 12 11,
    mv 13 12,
    og 14 (.load (.d tWorld) (.t 2)) 13 false,
    og 15 (.call (.f 8) [(.t 14)] [.d .bool] [] false) 13 false,
    og 16 (.not (.t 15)) 13 false,
    o_ 17 (.pick (.t 13) (.c .bool true) (.t 16)),
    mv 18 17,
    og 19 (.load (.d tWorld) (.t 2)) 18 false,
    og 20 (.call (.f 9) [(.t 19)] [.d .bool] [] false) 18 false,
    og 21 (.not (.t 20)) 18 false,
    o_ 22 (.pick (.t 18) (.c .bool true) (.t 21)),
    mv 23 22,
    og 24 (.move (.t 1)) 23 false,
    og 25 (.len (.t 24)) 23 false,
    og 26 (.bin .gtr (.t 25) (.c (.int .i64) (40:Int))) 23 false,
    o_ 27 (.pick (.t 23) (.c .bool true) (.t 26))]) (c5_3)) (c5_2)) (c5_1)
def innkeeplaw18_PlanKeeps.fn:Fn:=⟨2,[.tmp 4],.seq (.reg false [bx 2 0 0,
    o_ 4 (.move (.c .bool false))]) (c5_0)⟩
def c6_3:Cd:=td [10,11,12,13,14,15,16,17,18,19,20,21,22,23,24,25,26,27,28,29,30,31,32,33,34,35,36,37,38,39,40,41,42,43,44,45,46,47,48]
def c6_6:Cd:=td [50]
def c6_5:Cd:=.ret
def c6_4:Cd:=.seq (.seq (.reg false [o_ 50 (.call (.f 7) [] [.d .bool] [] false),
    mv 6 50]) (c6_6)) (c6_5)
def c6_7:Cd:=.skip
def c6_2:Cd:=.cond (.t 49) (.seq (td [49]) (c6_4)) (.seq (td [49]) (c6_7))
def c6_9:Cd:=td [51,52,53]
def c6_11:Cd:=td [54,55,56]
def c6_19:Cd:=td [57,58,59]
def c6_20:Cd:=.skip
def c6_24:Cd:=.exit 0
def c6_18:Cd:=.cond (.t 60) (.seq (td [60]) (c6_20)) (.seq (td [60]) (c6_24))
def c6_22:Cd:=td [63,64,65,66,67,68,69,70,71,72,73,74,75]
def c6_23:Cd:=td [61,62]
def c6_21:Cd:=.seq (.reg false [mv 61 9,
    bc 62 .add 61 1,
    mv 9 62]) (c6_23)
def c6_17:Cd:=.seq (.block 1 (.seq (.reg false [mv 63 8,
    mv 64 7,
    mv 65 9,
    mv 66 2,
    o_ 67 (.conv .i64 (.t 66)),
    bi 68 .add 65 67,
    mv 69 7,
    le 70 69,
    bi 71 .rem 68 70,
    ix 72 (.sl tWrite) 64 71,
    ld 73 tWrite 72,
    o_ 74 (.slice 2 tWrite [(.t 73)]),
    o_ 75 (.append 3 tWrite (.t 63) (.t 74)),
    mv 8 75]) (c6_22))) (c6_21)
def c6_16:Cd:=.tidy [] [(3,4)] [2] (some 5)
def c6_15:Cd:=.seq (.seq (.seq (.seq (.reg false [mv 57 9,
    mv 58 7,
    le 59 58,
    bi 60 .lss 57 59]) (c6_19)) (c6_18)) (c6_17)) (c6_16)
def c6_14:Cd:=.block 0 (.loop (c6_15))
def c6_26:Cd:=td [76,77,78,79,80,81,82,83,84,85,86,87,88,89,90,91,92,93,94,95,96,97,98,99,100,101,102,103,104,105]
def c6_25:Cd:=.ret
def c6_13:Cd:=.seq (.seq (.reg true [od 76 (.load (.d tWorld) (.t 3)) [0] [],
    mv 77 7,
    o_ 78 (.call (.f 15) [(.t 76),(.t 77)] [.d tWorld] [] false),
    od 79 (.load (.d tWorld) (.t 4)) [1] [],
    o_ 80 (.call (.f 14) [(.t 78),(.t 79)] [.d .bool] [] false),
    mv 81 80,
    ogd 82 (.load (.d tWorld) (.t 3)) 81 true [0],
    og 83 (.move (.t 8)) 81 true,
    ⟨some 84,.call (.f 15) [(.t 82),(.t 83)] [.d tWorld] [] false,some (81,true),[],[4]⟩,
    ogd 85 (.load (.d tWorld) (.t 4)) 81 true [1],
    og 86 (.call (.f 14) [(.t 84),(.t 85)] [.d .bool] [] false) 81 true,
    o_ 87 (.pick (.t 81) (.t 86) (.c .bool false)),
    mv 88 87,
    ogd 89 (.load (.d tWorld) (.t 3)) 88 true [0],
    og 90 (.move (.t 7)) 88 true,
    og 91 (.call (.f 15) [(.t 89),(.t 90)] [.d tWorld] [] false) 88 true,
    og 92 (.move (.t 8)) 88 true,
    ogd 93 (.call (.f 15) [(.t 91),(.t 92)] [.d tWorld] [] false) 88 true [4],
    ogd 94 (.load (.d tWorld) (.t 4)) 88 true [1],
    og 95 (.call (.f 14) [(.t 93),(.t 94)] [.d .bool] [] false) 88 true,
    o_ 96 (.pick (.t 88) (.t 95) (.c .bool false)),
    mv 97 96,
    ogd 98 (.load (.d tWorld) (.t 4)) 97 true [1],
    ogd 99 (.load (.d tWorld) (.t 3)) 97 true [0],
    og 100 (.call (.f 11) [(.t 98),(.t 99)] [.d (.sl tWrite)] [] false) 97 true,
    og 101 (.len (.t 100)) 97 true,
    og 102 (.move (.t 7)) 97 true,
    og 103 (.len (.t 102)) 97 true,
    og 104 (.bin .eql (.t 101) (.t 103)) 97 true,
    o_ 105 (.pick (.t 97) (.t 104) (.c .bool false)),
    mv 6 105]) (c6_26)) (c6_25)
def c6_12:Cd:=.seq (.seq (.reg false [ci 9 0]) (c6_14)) (c6_13)
def c6_10:Cd:=.seq (.reg false [o_ 8 (.mknil 4 tWrite)]) (c6_12)
def c6_8:Cd:=.seq (.seq (.reg false [ld 54 tWorld 3,
    ld 55 tWorld 4,
    o_ 56 (.call (.f 11) [(.t 54),(.t 55)] [.d (.sl tWrite)] [] false),
    mv 7 56]) (c6_11)) (c6_10)
def c6_1:Cd:=.seq (.seq (.reg false [fa 51 tWorld 0 3,
    ld 52 tDesc 51,
    fa 53 tWorld 0 4,
    sr tDesc 53 52]) (c6_9)) (c6_8)
def c6_0:Cd:=.seq (.seq (.seq (.reg false [o_ 10 (.call (.f 7) [] [.d .bool] [] false),
    nt 11 10,
    mv 12 11,
    og 13 (.load (.d tWorld) (.t 3)) 12 false,
    og 14 (.call (.f 8) [(.t 13)] [.d .bool] [] false) 12 false,
    og 15 (.not (.t 14)) 12 false,
    o_ 16 (.pick (.t 12) (.c .bool true) (.t 15)),
    mv 17 16,
    og 18 (.load (.d tWorld) (.t 4)) 17 false,
    og 19 (.call (.f 8) [(.t 18)] [.d .bool] [] false) 17 false,
    og 20 (.not (.t 19)) 17 false,
    o_ 21 (.pick (.t 17) (.c .bool true) (.t 20)),
    mv 22 21,
    og 23 (.load (.d tWorld) (.t 3)) 22 false,
    og 24 (.call (.f 9) [(.t 23)] [.d .bool] [] false) 22 false,
    og 25 (.not (.t 24)) 22 false,
    o_ 26 (.pick (.t 22) (.c .bool true) (.t 25)),
    mv 27 26,
    og 28 (.load (.d tWorld) (.t 4)) 27 false,
    og 29 (.call (.f 9) [(.t 28)] [.d .bool] [] false) 27 false,
    og 30 (.not (.t 29)) 27 false,
    o_ 31 (.pick (.t 27) (.c .bool true) (.t 30)),
    mv 32 31,
    og 33 (.fieldAddr (.d tWorld) 1 (.t 3)) 32 false,
    og 34 (.load (.d (.sl (.int .i64))) (.t 33)) 32 false,
    og 35 (.len (.t 34)) 32 false,
    og 36 (.fieldAddr (.d tWorld) 1 (.t 4)) 32 false,
    og 37 (.load (.d (.sl (.int .i64))) (.t 36)) 32 false,
    og 38 (.len (.t 37)) 32 false,
    og 39 (.bin .neq (.t 35) (.t 38)) 32 false,
    o_ 40 (.pick (.t 32) (.c .bool true) (.t 39)),
    mv 41 40,
    og 42 (.fieldAddr (.d tWorld) 3 (.t 3)) 41 false,
    og 43 (.load (.d (.sl tPlace)) (.t 42)) 41 false,
    og 44 (.len (.t 43)) 41 false,
    og 45 (.fieldAddr (.d tWorld) 3 (.t 4)) 41 false,
    og 46 (.load (.d (.sl tPlace)) (.t 45)) 41 false,
    og 47 (.len (.t 46)) 41 false,
    og 48 (.bin .neq (.t 44) (.t 47)) 41 false,
    o_ 49 (.pick (.t 41) (.c .bool true) (.t 48))]) (c6_3)) (c6_2)) (c6_1)
def innkeeplaw18_PlanOrder.fn:Fn:=⟨3,[.tmp 6],.seq (.reg false [bx 3 0 0,
    bx 4 1 1,
    o_ 6 (.move (.c .bool false))]) (c6_0)⟩
def prog:FuncId→Option Fn
  | 3=>some innkeeplaw18_PlanTells.fn
  | 4=>some innkeeplaw18_PlanSettles.fn
  | 5=>some innkeeplaw18_PlanKeeps.fn
  | 6=>some innkeeplaw18_PlanOrder.fn
  | 7=>some innkeeplaw18_awake.fn
  | 8=>some innkeepref06_Few.fn
  | 9=>some innkeepref18_Full.fn
  | 10=>some innkeepref18_Same.fn
  | 11=>some plan_From.fn
  | 12=>some innkeepref18_From.fn
  | 13=>some innkeepref18_May.fn
  | 14=>some innkeepref06_Same.fn
  | 16=>some innkeepref18_All.fn
  | 17=>some plan_Do.fn
  | 18=>some innkeepref18_Do.fn
  | 19=>some plan_Settled.fn
  | 20=>some innkeepref18_Settled.fn
  | 21=>some innkeepref06_Copied.fn
  | 22=>some innkeepref06_New.fn
  | 23=>some innkeepref03_Ints.fn
  | 24=>some innkeepref06_Places.fn
  | 25=>some desc_Copy.fn
  | _=>none
end Go.Proofs.YtjobjooccgledaaDoor.Ghost
