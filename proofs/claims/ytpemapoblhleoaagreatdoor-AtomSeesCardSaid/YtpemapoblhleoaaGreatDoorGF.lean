/- The functions as ghost code. Conditions: none; no statement is proved here. -/
import Derived.Test.YtpemapoblhleoaaGreatDoorA1
set_option linter.unusedVariables false
set_option linter.unusedSimpArgs false
set_option linter.unusedSectionVars false
set_option linter.unnecessarySimpa false
namespace Go.Proofs.YtpemapoblhleoaaGreatDoor.Ghost
open Go
def o_ (d:Nat) (x:GOp):Ln:=⟨some d,x,none,[],[]⟩
def on_ (x:GOp):Ln:=⟨none,x,none,[],[]⟩
def og (d:Nat) (x:GOp) (g:Nat) (b:Bool):Ln:=⟨some d,x,some (g,b),[],[]⟩
def od (d:Nat) (x:GOp) (r w:List Nat):Ln:=⟨some d,x,none,r,w⟩
def ogd (d:Nat) (x:GOp) (g:Nat) (b:Bool) (r:List Nat):Ln:=⟨some d,x,some (g,b),r,[]⟩
def mv (d i:Nat):Ln:=⟨some d,.move (.t i),none,[],[]⟩
def ld (d:Nat) (t:Ty) (i:Nat):Ln:=⟨some d,.load (.d t) (.t i),none,[],[]⟩
def fa (d:Nat) (t:Ty) (j i:Nat):Ln:=⟨some d,.fieldAddr (.d t) j (.t i),none,[],[]⟩
def bi (d:Nat) (b:BinOp) (i j:Nat):Ln:=⟨some d,.bin b (.t i) (.t j),none,[],[]⟩
def bc (d:Nat) (b:BinOp) (i:Nat) (n:Int):Ln:=⟨some d,.bin b (.t i) (.c (.int .i64) n),none,[],[]⟩
def ix (d:Nat) (t:IT) (i j:Nat):Ln:=⟨some d,.index t (.t i) (.t j),none,[],[]⟩
def le (d i:Nat):Ln:=⟨some d,.len (.t i),none,[],[]⟩
def xt (d i j:Nat):Ln:=⟨some d,.extract (.t i) j,none,[],[]⟩
def nt (d i:Nat):Ln:=⟨some d,.not (.t i),none,[],[]⟩
def ci (d:Nat) (n:Int):Ln:=⟨some d,.move (.c (.int .i64) n),none,[],[]⟩
def sr (t:Ty) (i j:Nat):Ln:=⟨none,.store (.d t) (.t i) (.t j),none,[],[]⟩
def nb (d k:Nat) (t:Ty):Ln:=⟨some d,.newbox k t [],none,[],[]⟩
def bx (d k i:Nat):Ln:=⟨some d,.box k (.t i),none,[],[]⟩
def td (l:List Nat):Cd:=.tidy l [] [] none
abbrev Z4:Ty:=.st [(.sl (.arr 4 (.int .i64))),(.sl (.int .i64)),(.sl (.int .i64)),(.sl (.int .i64)),(.sl .bool),(.int .i64),(.int .i64),(.int .i64)]
abbrev Zb:Ty:=.st [(.int .i64),(.int .i64)]
abbrev Za:Ty:=.st [Z4,(.sl (.int .i64)),(.sl (.int .i64)),(.sl Zb)]
abbrev Zw:Ty:=.st [(.int .i64),(.int .i64),(.int .i64),(.int .i64),(.int .i64),(.sl (.int .i64)),(.int .i64),(.sl (.int .i64)),(.int .i64)]
abbrev Z2:Ty:=.st [(.int .i64),Zb]
abbrev Zn:Ty:=.st [(.int .i64),(.int .i64),(.int .i64),(.sl (.int .i64)),(.sl Z2),(.int .i64)]
abbrev Ob:Ty:=.st [(.int .i64),Zw,(.int .i64),(.int .i64),Zn]
abbrev G9:Ty:=.st [(.int .i64),(.int .i64),(.int .i64),(.int .i64),(.int .i64),(.int .i64),(.int .i64)]
def BIx:Cd:=td [5,6]
def BIz:Cd:=td [7,8,9,10,11,12]
def BI1:Cd:=td [13,14,15,16,17,18]
def AXj:Cd:=td [19,20,21,22]
def AXk:Cd:=.skip
def AXo:Cd:=.exit 0
def AXi:Cd:=.cond (.t 23) (.seq (td [23]) (AXk)) (.seq (td [23]) (AXo))
def AXm:Cd:=td [26,27,28,29,30,31,32,33,34,35,36]
def AXn:Cd:=td [24,25]
def AXl:Cd:=.seq (.reg false [mv 24 4,
    bc 25 .add 24 1,
    mv 4 25]) (AXn)
def AXh:Cd:=.seq (.block 1 (.seq (.reg true [od 26 (.fieldAddr (.d Za) 3 (.t 3)) [2] [],
    od 27 (.load (.d (.sl Zb)) (.t 26)) [2] [],
    od 28 (.fieldAddr (.d Z4) 3 (.t 1)) [0] [],
    od 29 (.load (.d (.sl (.int .i64))) (.t 28)) [0] [],
    mv 30 4,
    ix 31 (.sl (.int .i64)) 29 30,
    ld 32 (.int .i64) 31,
    o_ 33 (.build Zb [(1,(.t 32))] []),
    od 34 (.slice 5 Zb [(.t 33)]) [] [5],
    od 35 (.append 6 Zb (.t 27) (.t 34)) [5] [6,9],
    od 36 (.fieldAddr (.d Za) 3 (.t 3)) [2] [],
    ⟨none,.store (.d (.sl Zb)) (.t 36) (.t 35),none,[],[2]⟩]) (AXm))) (AXl)
def AXg:Cd:=.tidy [] [(6,9)] [5] (some 10)
def BI4:Cd:=.seq (.seq (.seq (.seq (.reg false [mv 19 4,
    fa 20 Z4 3 1,
    o_ 21 (.load (.d (.sl (.int .i64))) (.t 20)),
    le 22 21,
    bi 23 .lss 19 22]) (AXj)) (AXi)) (AXh)) (AXg)
def BI3:Cd:=.block 0 (.loop (BI4))
def AXq:Cd:=td [37]
def AXp:Cd:=.ret
def BI2:Cd:=.seq (.seq (.reg false [ld 37 Za 3,
    sr Za 2 37]) (AXq)) (AXp)
def BI0:Cd:=.seq (.seq (.reg false [ci 4 0]) (BI3)) (BI2)
def BIy:Cd:=.seq (.seq (.reg false [fa 13 Za 2 3,
    o_ 14 (.load (.d (.sl (.int .i64))) (.t 13)),
    fa 15 Z4 2 1,
    o_ 16 (.load (.d (.sl (.int .i64))) (.t 15)),
    o_ 17 (.append 4 (.int .i64) (.t 14) (.t 16)),
    fa 18 Za 2 3,
    on_ (.store (.d (.sl (.int .i64))) (.t 18) (.t 17))]) (BI1)) (BI0)
def BIw:Cd:=.seq (.seq (.reg false [fa 7 Za 1 3,
    o_ 8 (.load (.d (.sl (.int .i64))) (.t 7)),
    fa 9 Z4 1 1,
    o_ 10 (.load (.d (.sl (.int .i64))) (.t 9)),
    o_ 11 (.append 3 (.int .i64) (.t 8) (.t 10)),
    fa 12 Za 1 3,
    on_ (.store (.d (.sl (.int .i64))) (.t 12) (.t 11))]) (BIz)) (BIy)
def BIv:Cd:=.seq (.seq (.reg false [ld 5 Z4 1,
    o_ 6 (.build Za [(0,(.t 5))] [([1],7),([2],8),([3],9)]),
    nb 3 2 Za,
    sr Za 3 6]) (BIx)) (BIw)
def Jr.fn:Fn:=⟨1,[.cell 2 (.d Za)],.seq (.reg false [bx 1 0 0,
    nb 2 1 Za]) (BIv)⟩
def BRh:Cd:=td [5,6,7,8,9,10,11]
def BRj:Cd:=.ret
def BRi:Cd:=.seq (.reg false [o_ 4 (.move (.c .str (⟨#[]⟩:ByteArray)))]) (BRj)
def BRk:Cd:=.skip
def BRg:Cd:=.cond (.t 12) (.seq (td [12]) (BRi)) (.seq (td [12]) (BRk))
def BRm:Cd:=td [13,14,15,16]
def BRl:Cd:=.ret
def BRf:Cd:=.seq (.seq (.reg false [mv 13 0,
    mv 14 1,
    ix 15 (.sl .str) 13 14,
    ld 16 .str 15,
    mv 4 16]) (BRm)) (BRl)
def BRe:Cd:=.seq (.seq (.seq (.reg false [mv 5 1,
    bc 6 .lss 5 0,
    mv 7 6,
    og 8 (.move (.t 1)) 7 false,
    og 9 (.move (.t 0)) 7 false,
    og 10 (.len (.t 9)) 7 false,
    og 11 (.bin .geq (.t 8) (.t 10)) 7 false,
    o_ 12 (.pick (.t 7) (.c .bool true) (.t 11))]) (BRh)) (BRg)) (BRf)
def Kp.fn:Fn:=⟨2,[.tmp 4],.seq (.reg false [o_ 4 (.move (.c .str (⟨#[]⟩:ByteArray)))]) (BRe)⟩
def BLr:Cd:=td [3,4,5]
def BLq:Cd:=.ret
def BLp:Cd:=.seq (.seq (.reg false [o_ 3 (.slicearr 11 .str (.g 0)),
    mv 4 0,
    o_ 5 (.call (.f 81) [(.t 3),(.t 4)] [.d .str] [] false),
    mv 2 5]) (BLr)) (BLq)
def K9.fn:Fn:=⟨1,[.tmp 2],.seq (.reg false [o_ 2 (.move (.c .str (⟨#[]⟩:ByteArray)))]) (BLp)⟩
def BLx:Cd:=td [4,5,6]
def BL0:Cd:=td [7]
def BL2:Cd:=td [10]
def BL4:Cd:=td [11,12,13]
def BL3:Cd:=.seq (.reg false [fa 11 Zw 1 1,
    ld 12 (.int .i64) 11,
    fa 13 Zw 1 3,
    sr (.int .i64) 13 12]) (BL4)
def BB1:Cd:=td [15]
def BB3:Cd:=td [16,17,18,19,20,21]
def BB2:Cd:=.seq (.reg true [od 16 (.fieldAddr (.d Zw) 4 (.t 1)) [0] [],
    od 17 (.load (.d (.int .i64)) (.t 16)) [0] [],
    od 18 (.fieldAddr (.d Zw) 1 (.t 1)) [0] [],
    od 19 (.load (.d (.int .i64)) (.t 18)) [0] [],
    od 20 (.fieldAddr (.d Zw) 4 (.t 3)) [2] [],
    ⟨none,.store (.d (.int .i64)) (.t 20) (.t 17),none,[],[2]⟩,
    od 21 (.fieldAddr (.d Zw) 1 (.t 3)) [2] [],
    ⟨none,.store (.d (.int .i64)) (.t 21) (.t 19),none,[],[2]⟩]) (BB3)
def BB7:Cd:=td [23]
def BCo:Cd:=td [24]
def BB6:Cd:=.cond (.t 22) (.skip) (.seq (.reg false [bc 24 .eql 8 4,
    mv 22 24]) (BCo))
def BB8:Cd:=td [25,26,27]
def BCb:Cd:=td [29]
def BCn:Cd:=td [30]
def BCa:Cd:=.cond (.t 28) (.skip) (.seq (.reg false [bc 30 .eql 8 6,
    mv 28 30]) (BCn))
def BCc:Cd:=td [31,32,33,34,35,36]
def BCe:Cd:=td [38]
def BCg:Cd:=td [39,40,41,42,43,44]
def BCf:Cd:=.seq (.reg true [od 39 (.fieldAddr (.d Zw) 2 (.t 1)) [0] [],
    od 40 (.load (.d (.int .i64)) (.t 39)) [0] [],
    od 41 (.fieldAddr (.d Zw) 4 (.t 1)) [0] [],
    od 42 (.load (.d (.int .i64)) (.t 41)) [0] [],
    od 43 (.fieldAddr (.d Zw) 2 (.t 3)) [2] [],
    ⟨none,.store (.d (.int .i64)) (.t 43) (.t 40),none,[],[2]⟩,
    od 44 (.fieldAddr (.d Zw) 4 (.t 3)) [2] [],
    ⟨none,.store (.d (.int .i64)) (.t 44) (.t 42),none,[],[2]⟩]) (BCg)
def BCj:Cd:=td [46]
def BCl:Cd:=td [47,48,49,50,51,52,53,54,55,56,57,58,59,60,61]
def BCk:Cd:=.seq (.reg true [od 47 (.fieldAddr (.d Zw) 4 (.t 1)) [0] [],
    od 48 (.load (.d (.int .i64)) (.t 47)) [0] [],
    od 49 (.fieldAddr (.d Zw) 5 (.t 1)) [0] [],
    od 50 (.load (.d (.sl (.int .i64))) (.t 49)) [0] [],
    od 51 (.fieldAddr (.d Zw) 6 (.t 1)) [0] [],
    od 52 (.load (.d (.int .i64)) (.t 51)) [0] [],
    od 53 (.fieldAddr (.d Zw) 7 (.t 1)) [0] [],
    od 54 (.load (.d (.sl (.int .i64))) (.t 53)) [0] [],
    od 55 (.fieldAddr (.d Zw) 8 (.t 1)) [0] [],
    od 56 (.load (.d (.int .i64)) (.t 55)) [0] [],
    od 57 (.fieldAddr (.d Zw) 4 (.t 3)) [2] [],
    ⟨none,.store (.d (.int .i64)) (.t 57) (.t 48),none,[],[2]⟩,
    od 58 (.fieldAddr (.d Zw) 5 (.t 3)) [2] [],
    ⟨none,.store (.d (.sl (.int .i64))) (.t 58) (.t 50),none,[],[2]⟩,
    od 59 (.fieldAddr (.d Zw) 6 (.t 3)) [2] [],
    ⟨none,.store (.d (.int .i64)) (.t 59) (.t 52),none,[],[2]⟩,
    od 60 (.fieldAddr (.d Zw) 7 (.t 3)) [2] [],
    ⟨none,.store (.d (.sl (.int .i64))) (.t 60) (.t 54),none,[],[2]⟩,
    od 61 (.fieldAddr (.d Zw) 8 (.t 3)) [2] [],
    ⟨none,.store (.d (.int .i64)) (.t 61) (.t 56),none,[],[2]⟩]) (BCl)
def BCm:Cd:=.skip
def BCi:Cd:=.cond (.t 45) (.seq (td [45]) (BCk)) (.seq (td [45]) (BCm))
def BCh:Cd:=.seq (.seq (.reg false [bc 46 .eql 8 8,
    mv 45 46]) (BCj)) (BCi)
def BCd:Cd:=.cond (.t 37) (.seq (td [37]) (BCf)) (.seq (td [37]) (BCh))
def BB9:Cd:=.cond (.t 28) (.seq (.reg true [od 31 (.fieldAddr (.d Zw) 2 (.t 1)) [0] [],
    od 32 (.load (.d (.int .i64)) (.t 31)) [0] [],
    od 33 (.fieldAddr (.d Zw) 3 (.t 1)) [0] [],
    od 34 (.load (.d (.int .i64)) (.t 33)) [0] [],
    od 35 (.fieldAddr (.d Zw) 2 (.t 3)) [2] [],
    ⟨none,.store (.d (.int .i64)) (.t 35) (.t 32),none,[],[2]⟩,
    od 36 (.fieldAddr (.d Zw) 3 (.t 3)) [2] [],
    ⟨none,.store (.d (.int .i64)) (.t 36) (.t 34),none,[],[2]⟩]) (BCc)) (.seq (.seq (.reg false [bc 38 .eql 8 7,
    mv 37 38]) (BCe)) (BCd))
def BB5:Cd:=.cond (.t 22) (.seq (.reg false [fa 25 Zw 2 1,
    ld 26 (.int .i64) 25,
    fa 27 Zw 2 3,
    sr (.int .i64) 27 26]) (BB8)) (.seq (.seq (.seq (.reg false [bc 29 .eql 8 5,
    mv 28 29]) (BCb)) (BCa)) (BB9))
def BB4:Cd:=.seq (.seq (.seq (.reg false [bc 23 .eql 8 3,
    mv 22 23]) (BB7)) (BB6)) (BB5)
def BB0:Cd:=.cond (.t 14) (.seq (td [14]) (BB2)) (.seq (td [14]) (BB4))
def BBz:Cd:=.seq (.seq (.reg false [bc 15 .eql 8 2,
    mv 14 15]) (BB1)) (BB0)
def BL1:Cd:=.cond (.t 9) (.seq (td [9]) (BL3)) (.seq (td [9]) (BBz))
def BLz:Cd:=.block 0 (.seq (.seq (.reg false [bc 10 .eql 8 1,
    mv 9 10]) (BL2)) (BL1))
def BBy:Cd:=td [62]
def BBx:Cd:=.ret
def BLy:Cd:=.seq (.seq (.reg false [ld 62 Zw 3,
    sr Zw 2 62]) (BBy)) (BBx)
def BLw:Cd:=.seq (.seq (.seq (.reg false [fa 7 Zw 0 1,
    ld 8 (.int .i64) 7]) (BL0)) (BLz)) (BLy)
def BLv:Cd:=.seq (.seq (.reg false [fa 4 Zw 0 1,
    ld 5 (.int .i64) 4,
    o_ 6 (.build Zw [(0,(.t 5))] []),
    nb 3 2 Zw,
    sr Zw 3 6]) (BLx)) (BLw)
def Y9.fn:Fn:=⟨1,[.cell 2 (.d Zw)],.seq (.reg false [bx 1 0 0,
    nb 2 1 Zw]) (BLv)⟩
def BRp:Cd:=td [3,4,5,6,7,8,9,10,11,12,13,14,15,16,17]
def BRo:Cd:=.ret
def BRn:Cd:=.seq (.seq (.reg false [fa 3 Zw 0 1,
    ld 4 (.int .i64) 3,
    fa 5 Zw 1 1,
    ld 6 (.int .i64) 5,
    fa 7 Zw 2 1,
    ld 8 (.int .i64) 7,
    fa 9 Zw 3 1,
    ld 10 (.int .i64) 9,
    fa 11 Zw 4 1,
    ld 12 (.int .i64) 11,
    fa 13 Zw 6 1,
    ld 14 (.int .i64) 13,
    fa 15 Zw 8 1,
    ld 16 (.int .i64) 15,
    o_ 17 (.build G9 [(0,(.t 4)),(1,(.t 6)),(2,(.t 8)),(3,(.t 10)),(4,(.t 12)),(5,(.t 14)),(6,(.t 16))] []),
    sr G9 2 17]) (BRp)) (BRo)
def Ue.fn:Fn:=⟨1,[.cell 2 (.d G9)],.seq (.reg false [bx 1 0 0,
    nb 2 1 G9]) (BRn)⟩
def BRt:Cd:=td [6,7,8,9]
def BRv:Cd:=.ret
def BRu:Cd:=.seq (.reg false [o_ 4 (.move (.c .bool false))]) (BRv)
def BRw:Cd:=.skip
def BRs:Cd:=.cond (.t 10) (.seq (td [10]) (BRu)) (.seq (td [10]) (BRw))
def BRy:Cd:=td [11]
def BFk:Cd:=.skip
def BFu:Cd:=.exit 0
def BFn:Cd:=td [15]
def BFp:Cd:=td [16,17,18,19,20,21,22,23]
def BFr:Cd:=.ret
def BFq:Cd:=.seq (.reg false [o_ 4 (.move (.c .bool false))]) (BFr)
def BFs:Cd:=.skip
def BFo:Cd:=.cond (.t 24) (.seq (td [24]) (BFq)) (.seq (td [24]) (BFs))
def BFm:Cd:=.seq (.seq (.reg true [mv 16 0,
    mv 17 5,
    ix 18 (.sl (.int .i64)) 16 17,
    ld 19 (.int .i64) 18,
    mv 20 1,
    mv 21 5,
    ix 22 (.sl (.int .i64)) 20 21,
    ld 23 (.int .i64) 22,
    bi 24 .neq 19 23]) (BFp)) (BFo)
def BFt:Cd:=td [25]
def BFl:Cd:=.seq (.reg false [bc 25 .add 13 1,
    mv 13 25]) (BFt)
def BFj:Cd:=.seq (.block 1 (.seq (.seq (.reg false [mv 15 13,
    mv 5 15]) (BFn)) (BFm))) (BFl)
def BFi:Cd:=.seq (.cond (.t 14) (.seq (td [14]) (BFk)) (.seq (td [14]) (BFu))) (BFj)
def BFh:Cd:=.tidy [5] [] [] (some 0)
def AKs:Cd:=.seq (.seq (.reg false [bi 14 .lss 13 12]) (BFi)) (BFh)
def BRx:Cd:=.block 0 (.loop (AKs))
def BFv:Cd:=.ret
def ARm:Cd:=.seq (.reg false [o_ 4 (.move (.c .bool true))]) (BFv)
def BRr:Cd:=.seq (.seq (.seq (.reg false [mv 11 0,
    le 12 11,
    ci 13 0]) (BRy)) (BRx)) (ARm)
def BRq:Cd:=.seq (.seq (.seq (.reg false [mv 6 0,
    le 7 6,
    mv 8 1,
    le 9 8,
    bi 10 .neq 7 9]) (BRt)) (BRs)) (BRr)
def Zo.fn:Fn:=⟨2,[.tmp 4],.seq (.reg false [o_ 4 (.move (.c .bool false))]) (BRq)⟩
def BLu:Cd:=td [5,6,7,8,9,10,11,12,13,14,15,16,17,18,19,20,21,22,23]
def BLt:Cd:=.ret
def BLs:Cd:=.seq (.seq (.reg true [od 5 (.load (.d Zw) (.t 2)) [0] [],
    o_ 6 (.call (.f 82) [(.t 5)] [.d G9] [] false),
    od 7 (.load (.d Zw) (.t 3)) [1] [],
    o_ 8 (.call (.f 82) [(.t 7)] [.d G9] [] false),
    o_ 9 (.eqs G9 false (.t 6) (.t 8)),
    mv 10 9,
    ogd 11 (.fieldAddr (.d Zw) 5 (.t 2)) 10 true [0],
    ogd 12 (.load (.d (.sl (.int .i64))) (.t 11)) 10 true [0],
    ogd 13 (.fieldAddr (.d Zw) 5 (.t 3)) 10 true [1],
    ogd 14 (.load (.d (.sl (.int .i64))) (.t 13)) 10 true [1],
    og 15 (.call (.f 83) [(.t 12),(.t 14)] [.d .bool] [] false) 10 true,
    o_ 16 (.pick (.t 10) (.t 15) (.c .bool false)),
    mv 17 16,
    ogd 18 (.fieldAddr (.d Zw) 7 (.t 2)) 17 true [0],
    ogd 19 (.load (.d (.sl (.int .i64))) (.t 18)) 17 true [0],
    ogd 20 (.fieldAddr (.d Zw) 7 (.t 3)) 17 true [1],
    ogd 21 (.load (.d (.sl (.int .i64))) (.t 20)) 17 true [1],
    og 22 (.call (.f 83) [(.t 19),(.t 21)] [.d .bool] [] false) 17 true,
    o_ 23 (.pick (.t 17) (.t 22) (.c .bool false)),
    mv 4 23]) (BLu)) (BLt)
def Ha.fn:Fn:=⟨2,[.tmp 4],.seq (.reg false [bx 2 0 0,
    bx 3 1 1,
    o_ 4 (.move (.c .bool false))]) (BLs)⟩
def BL7:Cd:=td [3,4,5]
def BL6:Cd:=.ret
def BL5:Cd:=.seq (.seq (.reg false [o_ 3 (.slicearr 4 .str (.g 1)),
    mv 4 0,
    o_ 5 (.call (.f 81) [(.t 3),(.t 4)] [.d .str] [] false),
    mv 2 5]) (BL7)) (BL6)
def Gg.fn:Fn:=⟨1,[.tmp 2],.seq (.reg false [o_ 2 (.move (.c .str (⟨#[]⟩:ByteArray)))]) (BL5)⟩
def BMa:Cd:=td [3,4,5,6,7,8]
def BL9:Cd:=.ret
def BL8:Cd:=.seq (.seq (.reg false [mv 3 0,
    bc 4 .geq 3 0,
    mv 5 4,
    og 6 (.move (.t 0)) 5 true,
    og 7 (.bin .leq (.t 6) (.c (.int .i64) (1073741824:Int))) 5 true,
    o_ 8 (.pick (.t 5) (.t 7) (.c .bool false)),
    mv 2 8]) (BMa)) (BL9)
def Ka.fn:Fn:=⟨1,[.tmp 2],.seq (.reg false [o_ 2 (.move (.c .bool false))]) (BL8)⟩
def BR4:Cd:=td [3,4,5]
def BR3:Cd:=.ret
def BR2:Cd:=.seq (.seq (.reg false [mv 3 0,
    o_ 4 (.call (.f 49) [(.t 3)] [.d .bool] [] false),
    nt 5 4,
    mv 2 5]) (BR4)) (BR3)
def V2.fn:Fn:=⟨1,[.tmp 2],.seq (.reg false [o_ 2 (.move (.c .bool false))]) (BR2)⟩
def AU0:Cd:=td [6]
def AU4:Cd:=.skip
def APf:Cd:=.exit 0
def AO7:Cd:=td [10]
def AO9:Cd:=td [11,12,13,14,15]
def APc:Cd:=td [17]
def APb:Cd:=.ret
def APa:Cd:=.seq (.seq (.reg false [mv 17 5,
    mv 4 17]) (APc)) (APb)
def APd:Cd:=.skip
def AO8:Cd:=.cond (.t 16) (.seq (td [16]) (APa)) (.seq (td [16]) (APd))
def AO6:Cd:=.seq (.seq (.reg false [mv 11 1,
    mv 12 0,
    mv 13 5,
    ix 14 (.sl (.int .i64)) 12 13,
    ld 15 (.int .i64) 14,
    o_ 16 (.call (.t 11) [(.t 15)] [.d .bool] [] false)]) (AO9)) (AO8)
def APe:Cd:=td [18]
def AU5:Cd:=.seq (.reg false [bc 18 .add 8 1,
    mv 8 18]) (APe)
def AU3:Cd:=.seq (.block 1 (.seq (.seq (.reg false [mv 10 8,
    mv 5 10]) (AO7)) (AO6))) (AU5)
def AU2:Cd:=.seq (.cond (.t 9) (.seq (td [9]) (AU4)) (.seq (td [9]) (APf))) (AU3)
def AU1:Cd:=.tidy [5] [] [] (some 0)
def ABg:Cd:=.seq (.seq (.reg false [bi 9 .lss 8 7]) (AU2)) (AU1)
def AUz:Cd:=.block 0 (.loop (ABg))
def APg:Cd:=.ret
def ABf:Cd:=.seq (.reg false [o_ 4 (.move (.c (.int .i64) ((-1):Int)))]) (APg)
def AUy:Cd:=.seq (.seq (.seq (.reg false [mv 6 0,
    le 7 6,
    ci 8 0]) (AU0)) (AUz)) (ABf)
def Zk.fn:Fn:=⟨2,[.tmp 4],.seq (.reg false [ci 4 0]) (AUy)⟩
def BR1:Cd:=td [5,6,7,8]
def BR0:Cd:=.ret
def BRz:Cd:=.seq (.seq (.reg false [mv 5 0,
    mv 6 1,
    o_ 7 (.call (.f 127) [(.t 5),(.t 6)] [.d (.int .i64)] [] false),
    bc 8 .geq 7 0,
    mv 4 8]) (BR1)) (BR0)
def Z7.fn:Fn:=⟨2,[.tmp 4],.seq (.reg false [o_ 4 (.move (.c .bool false))]) (BRz)⟩
def BMd:Cd:=td [3,4,5,6,7,8,9,10]
def BMc:Cd:=.ret
def BMb:Cd:=.seq (.seq (.reg false [mv 3 0,
    le 4 3,
    bc 5 .leq 4 16,
    mv 6 5,
    og 7 (.move (.t 0)) 6 true,
    og 8 (.call (.f 84) [(.t 7),(.f 85)] [.d .bool] [] false) 6 true,
    og 9 (.not (.t 8)) 6 true,
    o_ 10 (.pick (.t 6) (.t 9) (.c .bool false)),
    mv 2 10]) (BMd)) (BMc)
def Hy.fn:Fn:=⟨1,[.tmp 2],.seq (.reg false [o_ 2 (.move (.c .bool false))]) (BMb)⟩
def BJm:Cd:=td [3,4,5,6,7,8,9,10,11,12,13,14,15,16,17,18,19,20,21,22,23,24,25,26,27,28,29,30,31,32,33,34,35,36,37,38,39,40,41,42,43,44,45,46,47,48,49,50,51,52,53]
def BJl:Cd:=.ret
def BJk:Cd:=.seq (.seq (.reg true [od 3 (.fieldAddr (.d Zw) 0 (.t 1)) [0] [],
    od 4 (.load (.d (.int .i64)) (.t 3)) [0] [],
    o_ 5 (.call (.f 45) [(.t 4)] [.d .str] [] false),
    o_ 6 (.eqs .str true (.t 5) (.c .str (⟨#[]⟩:ByteArray))),
    mv 7 6,
    ogd 8 (.load (.d Zw) (.t 1)) 7 true [0],
    ogd 9 (.load (.d Zw) (.t 1)) 7 true [0],
    og 10 (.call (.f 47) [(.t 9)] [.d Zw] [] false) 7 true,
    og 11 (.call (.f 46) [(.t 8),(.t 10)] [.d .bool] [] false) 7 true,
    o_ 12 (.pick (.t 7) (.t 11) (.c .bool false)),
    mv 13 12,
    ogd 14 (.fieldAddr (.d Zw) 1 (.t 1)) 13 true [0],
    ogd 15 (.load (.d (.int .i64)) (.t 14)) 13 true [0],
    og 16 (.call (.f 48) [(.t 15)] [.d .str] [] false) 13 true,
    og 17 (.eqs .str true (.t 16) (.c .str (⟨#[]⟩:ByteArray))) 13 true,
    o_ 18 (.pick (.t 13) (.t 17) (.c .bool false)),
    mv 19 18,
    ogd 20 (.fieldAddr (.d Zw) 2 (.t 1)) 19 true [0],
    ogd 21 (.load (.d (.int .i64)) (.t 20)) 19 true [0],
    og 22 (.call (.f 49) [(.t 21)] [.d .bool] [] false) 19 true,
    o_ 23 (.pick (.t 19) (.t 22) (.c .bool false)),
    mv 24 23,
    ogd 25 (.fieldAddr (.d Zw) 3 (.t 1)) 24 true [0],
    ogd 26 (.load (.d (.int .i64)) (.t 25)) 24 true [0],
    og 27 (.call (.f 49) [(.t 26)] [.d .bool] [] false) 24 true,
    o_ 28 (.pick (.t 24) (.t 27) (.c .bool false)),
    mv 29 28,
    ogd 30 (.fieldAddr (.d Zw) 4 (.t 1)) 29 true [0],
    ogd 31 (.load (.d (.int .i64)) (.t 30)) 29 true [0],
    og 32 (.call (.f 49) [(.t 31)] [.d .bool] [] false) 29 true,
    o_ 33 (.pick (.t 29) (.t 32) (.c .bool false)),
    mv 34 33,
    ogd 35 (.fieldAddr (.d Zw) 6 (.t 1)) 34 true [0],
    ogd 36 (.load (.d (.int .i64)) (.t 35)) 34 true [0],
    og 37 (.call (.f 49) [(.t 36)] [.d .bool] [] false) 34 true,
    o_ 38 (.pick (.t 34) (.t 37) (.c .bool false)),
    mv 39 38,
    ogd 40 (.fieldAddr (.d Zw) 8 (.t 1)) 39 true [0],
    ogd 41 (.load (.d (.int .i64)) (.t 40)) 39 true [0],
    og 42 (.call (.f 49) [(.t 41)] [.d .bool] [] false) 39 true,
    o_ 43 (.pick (.t 39) (.t 42) (.c .bool false)),
    mv 44 43,
    ogd 45 (.fieldAddr (.d Zw) 5 (.t 1)) 44 true [0],
    ogd 46 (.load (.d (.sl (.int .i64))) (.t 45)) 44 true [0],
    og 47 (.call (.f 50) [(.t 46)] [.d .bool] [] false) 44 true,
    o_ 48 (.pick (.t 44) (.t 47) (.c .bool false)),
    mv 49 48,
    ogd 50 (.fieldAddr (.d Zw) 7 (.t 1)) 49 true [0],
    ogd 51 (.load (.d (.sl (.int .i64))) (.t 50)) 49 true [0],
    og 52 (.call (.f 50) [(.t 51)] [.d .bool] [] false) 49 true,
    o_ 53 (.pick (.t 49) (.t 52) (.c .bool false)),
    mv 2 53]) (BJm)) (BJl)
def K1.fn:Fn:=⟨1,[.tmp 2],.seq (.reg false [bx 1 0 0,
    o_ 2 (.move (.c .bool false))]) (BJk)⟩
def AVs:Cd:=td [5]
def AVr:Cd:=.ret
def AVq:Cd:=.seq (.seq (.reg false [o_ 5 (.func 138 [(.t 2),(.t 3)]),
    mv 4 5]) (AVs)) (AVr)
def H4.fn:Fn:=⟨2,[.tmp 4],.seq (.reg false [bx 2 0 0,
    bx 3 1 1,
    o_ 4 (.move .nf)]) (AVq)⟩
def AVn:Cd:=td [6,7,8,9]
def AVp:Cd:=td [10,11,12,13,14,15]
def AVo:Cd:=.ret
def AVm:Cd:=.seq (.seq (.reg false [mv 10 5,
    mv 11 5,
    le 12 11,
    bc 13 .sub 12 1,
    ix 14 (.sl Zb) 10 13,
    ld 15 Zb 14,
    sr Zb 4 15]) (AVp)) (AVo)
def AVl:Cd:=.seq (.seq (.reg false [ld 6 Za 2,
    mv 7 1,
    o_ 8 (.call (.f 131) [(.t 6),(.t 7)] [.clo 138 [.ref Za,.ref (.int .i64)]] [] false),
    o_ 9 (.call (.f 132) [(.t 8)] [.d (.sl Zb)] [] false),
    mv 5 9]) (AVn)) (AVm)
def Vs.fn:Fn:=⟨2,[.cell 4 (.d Zb)],.seq (.reg false [bx 2 0 0,
    nb 4 1 Zb]) (AVl)⟩
def AUt:Cd:=td [8]
def AUx:Cd:=.skip
def AO3:Cd:=.exit 0
def AOw:Cd:=td [13,14,15]
def AOy:Cd:=td [16,17,18,19]
def AO0:Cd:=td [21,22,23,24,25,26]
def AOz:Cd:=.seq (.reg false [mv 21 5,
    mv 22 6,
    ld 23 Zb 7,
    o_ 24 (.build Z2 [(0,(.t 22)),(1,(.t 23))] []),
    o_ 25 (.slice 3 Z2 [(.t 24)]),
    o_ 26 (.append 4 Z2 (.t 21) (.t 25)),
    mv 5 26]) (AO0)
def AO2:Cd:=.skip
def AOx:Cd:=.cond (.t 20) (.seq (td [20]) (AOz)) (.seq (td [20]) (AO2))
def AOv:Cd:=.seq (.seq (.reg true [od 16 (.load (.d Za) (.t 2)) [0] [],
    mv 17 6,
    o_ 18 (.call (.f 130) [(.t 16),(.t 17)] [.d Zb] [] false),
    od 19 (.load (.d Zb) (.t 3)) [1] [],
    o_ 20 (.eqs Zb false (.t 18) (.t 19))]) (AOy)) (AOx)
def AO1:Cd:=td [27]
def AOu:Cd:=.seq (.reg false [bc 27 .add 11 1,
    mv 11 27]) (AO1)
def AUw:Cd:=.seq (.block 1 (.seq (.seq (.reg false [mv 13 11,
    ix 14 (.sl Zb) 9 11,
    ld 15 Zb 14,
    nb 7 2 Zb,
    mv 6 13,
    sr Zb 7 15]) (AOw)) (AOv))) (AOu)
def AUv:Cd:=.seq (.cond (.t 12) (.seq (td [12]) (AUx)) (.seq (td [12]) (AO3))) (AUw)
def AUu:Cd:=.tidy [6,7] [(4,5)] [2,3] (some 6)
def AJ5:Cd:=.seq (.seq (.reg false [bi 12 .lss 11 10]) (AUv)) (AUu)
def AUs:Cd:=.block 0 (.loop (AJ5))
def AO5:Cd:=td [28]
def AO4:Cd:=.ret
def AJ4:Cd:=.seq (.seq (.reg false [mv 28 5,
    mv 4 28]) (AO5)) (AO4)
def AUr:Cd:=.seq (.seq (.seq (.reg false [fa 8 Za 3 2,
    ld 9 (.sl Zb) 8,
    le 10 9,
    ci 11 0]) (AUt)) (AUs)) (AJ4)
def AUq:Cd:=.seq (.reg false [o_ 5 (.mknil 5 Z2)]) (AUr)
def Xo.fn:Fn:=⟨2,[.tmp 4],.seq (.reg false [bx 2 0 0,
    bx 3 1 1,
    o_ 4 (.move (.c (.sl Z2) []))]) (AUq)⟩
def BQ2:Cd:=td [5,6,7,8,9,10,11,12,13,14]
def BQ1:Cd:=.ret
def BQ0:Cd:=.seq (.seq (.reg true [od 5 (.fieldAddr (.d Za) 2 (.t 2)) [0] [],
    od 6 (.load (.d (.sl (.int .i64))) (.t 5)) [0] [],
    mv 7 1,
    ix 8 (.sl (.int .i64)) 6 7,
    ld 9 (.int .i64) 8,
    od 10 (.load (.d Za) (.t 2)) [0] [],
    mv 11 1,
    o_ 12 (.build Zb [(0,(.c (.int .i64) (1:Int))),(1,(.t 11))] []),
    o_ 13 (.call (.f 125) [(.t 10),(.t 12)] [.d (.sl Z2)] [] false),
    o_ 14 (.build Zn [(1,(.c (.int .i64) (10:Int))),(5,(.t 9)),(4,(.t 13))] []),
    ⟨none,.store (.d Zn) (.t 4) (.t 14),none,[],[1]⟩]) (BQ2)) (BQ1)
def V6.fn:Fn:=⟨2,[.cell 4 (.d Zn)],.seq (.reg false [bx 2 0 0,
    nb 4 1 Zn]) (BQ0)⟩
def AUf:Cd:=td [6]
def AUh:Cd:=td [9,10,11,12,13]
def AUg:Cd:=.ret
def AUe:Cd:=.seq (.seq (.reg true [od 9 (.load (.d Za) (.t 4)) [0] [],
    o_ 10 (.load (.v false 1) (.t 3)),
    od 11 (.load (.d Za) (.t 4)) [0] [],
    mv 12 1,
    o_ 13 (.call (.t 10) [(.t 11),(.t 12)] [.d Zn] [] false),
    ⟨none,.store (.d Za) (.t 7) (.t 9),none,[],[2]⟩,
    ⟨none,.store (.d Zn) (.t 8) (.t 13),none,[],[3]⟩]) (AUh)) (AUg)
def Yz.fn:Fn:=⟨4,[.cell 7 (.d Za),.cell 8 (.d Zn)],.seq (.seq (.reg false [bx 4 0 0,
    bx 6 1 2,
    nb 7 2 Za,
    nb 8 3 Zn]) (AUf)) (AUe)⟩
def AUl:Cd:=td [7,8]
def AUp:Cd:=.skip
def AOr:Cd:=.exit 0
def AOk:Cd:=td [12]
def AOm:Cd:=td [13,14,15,16,17,18]
def AOo:Cd:=td [20,21,22,23]
def AOn:Cd:=.seq (.reg false [mv 20 5,
    mv 21 6,
    o_ 22 (.slice 1 (.int .i64) [(.t 21)]),
    o_ 23 (.append 2 (.int .i64) (.t 20) (.t 22)),
    mv 5 23]) (AOo)
def AOq:Cd:=.skip
def AOl:Cd:=.cond (.t 19) (.seq (td [19]) (AOn)) (.seq (td [19]) (AOq))
def AOj:Cd:=.seq (.seq (.reg false [fa 13 Za 1 2,
    o_ 14 (.load (.d (.sl (.int .i64))) (.t 13)),
    mv 15 6,
    ix 16 (.sl (.int .i64)) 14 15,
    ld 17 (.int .i64) 16,
    mv 18 1,
    bi 19 .eql 17 18]) (AOm)) (AOl)
def AOp:Cd:=td [24]
def AOi:Cd:=.seq (.reg false [bc 24 .add 10 1,
    mv 10 24]) (AOp)
def AUo:Cd:=.seq (.block 1 (.seq (.seq (.reg false [mv 12 10,
    mv 6 12]) (AOk)) (AOj))) (AOi)
def AUn:Cd:=.seq (.cond (.t 11) (.seq (td [11]) (AUp)) (.seq (td [11]) (AOr))) (AUo)
def AUm:Cd:=.tidy [6] [(2,3)] [1] (some 4)
def AJ3:Cd:=.seq (.seq (.reg false [bi 11 .lss 10 9]) (AUn)) (AUm)
def AUk:Cd:=.block 0 (.loop (AJ3))
def AOt:Cd:=td [25]
def AOs:Cd:=.ret
def AJ2:Cd:=.seq (.seq (.reg false [mv 25 5,
    mv 4 25]) (AOt)) (AOs)
def AUj:Cd:=.seq (.seq (.seq (.reg false [fa 7 Za 1 2,
    o_ 8 (.load (.d (.sl (.int .i64))) (.t 7)),
    le 9 8,
    ci 10 0]) (AUl)) (AUk)) (AJ2)
def AUi:Cd:=.seq (.reg false [o_ 5 (.mknil 3 (.int .i64))]) (AUj)
def Z8.fn:Fn:=⟨2,[.tmp 4],.seq (.reg false [bx 2 0 0,
    o_ 4 (.move (.c (.sl (.int .i64)) []))]) (AUi)⟩
def BOv:Cd:=td [6,7,8,9,10]
def BOx:Cd:=td [11,12,13,14,15,16,17,18,19]
def BOw:Cd:=.ret
def BOu:Cd:=.seq (.seq (.reg true [mv 11 5,
    od 12 (.load (.d Za) (.t 2)) [0] [],
    mv 13 5,
    o_ 14 (.call (.f 124) [(.t 12),(.t 13)] [.d (.sl (.int .i64))] [] false),
    od 15 (.load (.d Za) (.t 2)) [0] [],
    mv 16 5,
    o_ 17 (.build Zb [(0,(.c (.int .i64) (0:Int))),(1,(.t 16))] []),
    o_ 18 (.call (.f 125) [(.t 15),(.t 17)] [.d (.sl Z2)] [] false),
    o_ 19 (.build Zn [(1,(.c (.int .i64) (9:Int))),(2,(.t 11)),(3,(.t 14)),(4,(.t 18))] []),
    ⟨none,.store (.d Zn) (.t 4) (.t 19),none,[],[1]⟩]) (BOx)) (BOw)
def BOt:Cd:=.seq (.seq (.reg false [fa 6 Za 1 2,
    o_ 7 (.load (.d (.sl (.int .i64))) (.t 6)),
    mv 8 1,
    ix 9 (.sl (.int .i64)) 7 8,
    ld 10 (.int .i64) 9,
    mv 5 10]) (BOv)) (BOu)
def Vh.fn:Fn:=⟨2,[.cell 4 (.d Zn)],.seq (.reg false [bx 2 0 0,
    nb 4 1 Zn]) (BOt)⟩
def ATe:Cd:=td [5,6,7,8,9,10,11,12,13]
def ATd:Cd:=.ret
def ATc:Cd:=.seq (.seq (.reg false [mv 5 1,
    bc 6 .geq 5 0,
    mv 7 6,
    og 8 (.move (.t 1)) 7 true,
    og 9 (.fieldAddr (.d Za) 1 (.t 2)) 7 true,
    og 10 (.load (.d (.sl (.int .i64))) (.t 9)) 7 true,
    og 11 (.len (.t 10)) 7 true,
    og 12 (.bin .lss (.t 8) (.t 11)) 7 true,
    o_ 13 (.pick (.t 7) (.t 12) (.c .bool false)),
    mv 4 13]) (ATe)) (ATd)
def Y2.fn:Fn:=⟨2,[.tmp 4],.seq (.reg false [bx 2 0 0,
    o_ 4 (.move (.c .bool false))]) (ATc)⟩
def ATb:Cd:=td [5,6,7,8,9,10,11,12,13]
def ATa:Cd:=.ret
def AS9:Cd:=.seq (.seq (.reg false [mv 5 1,
    bc 6 .geq 5 0,
    mv 7 6,
    og 8 (.move (.t 1)) 7 true,
    og 9 (.fieldAddr (.d Za) 3 (.t 2)) 7 true,
    og 10 (.load (.d (.sl Zb)) (.t 9)) 7 true,
    og 11 (.len (.t 10)) 7 true,
    og 12 (.bin .lss (.t 8) (.t 11)) 7 true,
    o_ 13 (.pick (.t 7) (.t 12) (.c .bool false)),
    mv 4 13]) (ATb)) (ATa)
def Ks.fn:Fn:=⟨2,[.tmp 4],.seq (.reg false [bx 2 0 0,
    o_ 4 (.move (.c .bool false))]) (AS9)⟩
def ATq:Cd:=td [4,5,6,7]
def ATp:Cd:=.ret
def ATo:Cd:=.seq (.seq (.reg false [ld 4 Za 1,
    mv 5 0,
    o_ 6 (.call (.f 113) [(.t 4),(.t 5)] [.d .bool] [] false),
    nt 7 6,
    mv 3 7]) (ATq)) (ATp)
def Y0.fn:Fn:=⟨2,[.tmp 3],.seq (.reg false [o_ 3 (.move (.c .bool false))]) (ATo)⟩
def ATt:Cd:=td [6]
def ATy:Cd:=.skip
def AN4:Cd:=.exit 0
def ANv:Cd:=td [11,12]
def ANy:Cd:=td [13,14]
def AN0:Cd:=.ret
def ANz:Cd:=.seq (.reg false [o_ 2 (.move (.c .bool true))]) (AN0)
def AN1:Cd:=.skip
def ANx:Cd:=.cond (.t 15) (.seq (td [15]) (ANz)) (.seq (td [15]) (AN1))
def AN2:Cd:=td [16,17]
def ANw:Cd:=.seq (.reg false [mv 16 3,
    mv 17 5,
    on_ (.mapset (.int .i64) .bool (.t 16) (.t 17) (.c .bool true))]) (AN2)
def ANu:Cd:=.seq (.seq (.seq (.reg false [mv 13 3,
    mv 14 5,
    o_ 15 (.lookup (.int .i64) .bool (.t 13) (.t 14))]) (ANy)) (ANx)) (ANw)
def AN3:Cd:=td [18]
def ANt:Cd:=.seq (.reg false [bc 18 .add 9 1,
    mv 9 18]) (AN3)
def ATx:Cd:=.seq (.block 1 (.seq (.seq (.reg false [ix 11 (.sl (.int .i64)) 7 9,
    ld 12 (.int .i64) 11,
    mv 5 12]) (ANv)) (ANu))) (ANt)
def ATw:Cd:=.seq (.cond (.t 10) (.seq (td [10]) (ATy)) (.seq (td [10]) (AN4))) (ATx)
def ATv:Cd:=.tidy [5] [] [] (some 1)
def AJ1:Cd:=.seq (.seq (.reg false [bi 10 .lss 9 8]) (ATw)) (ATv)
def ATu:Cd:=.block 0 (.loop (AJ1))
def AN5:Cd:=.ret
def AJ0:Cd:=.seq (.reg false [o_ 2 (.move (.c .bool false))]) (AN5)
def ATs:Cd:=.seq (.seq (.reg false [mv 7 0,
    le 8 7,
    ci 9 0]) (ATu)) (AJ0)
def ATr:Cd:=.seq (.seq (.reg false [o_ 6 (.mkmap 0 (.int .i64) .bool),
    mv 3 6]) (ATt)) (ATs)
def Xk.fn:Fn:=⟨1,[.tmp 2],.seq (.reg false [o_ 2 (.move (.c .bool false))]) (ATr)⟩
def ATh:Cd:=td [3,4]
def ATg:Cd:=.ret
def ATf:Cd:=.seq (.seq (.reg false [mv 3 0,
    o_ 4 (.build Zb [(0,(.c (.int .i64) (1:Int))),(1,(.t 3))] []),
    sr Zb 2 4]) (ATh)) (ATg)
def Yn.fn:Fn:=⟨1,[.cell 2 (.d Zb)],.seq (.reg false [nb 2 0 Zb]) (ATf)⟩
def ATn:Cd:=td [5,6,7,8,9,10,11,12]
def ATm:Cd:=.ret
def ATl:Cd:=.seq (.seq (.reg true [fa 5 Za 3 1,
    ld 6 (.sl Zb) 5,
    mv 7 0,
    ix 8 (.sl Zb) 6 7,
    ld 9 Zb 8,
    ld 10 (.int .i64) 2,
    o_ 11 (.call (.f 115) [(.t 10)] [.d Zb] [] false),
    o_ 12 (.eqs Zb true (.t 9) (.t 11)),
    mv 4 12]) (ATn)) (ATm)
def Yi.fn:Fn:=⟨3,[.tmp 4],.seq (.reg false [o_ 4 (.move (.c .bool false))]) (ATl)⟩
def ATk:Cd:=td [6,7,8]
def ATj:Cd:=.ret
def ATi:Cd:=.seq (.seq (.reg false [mv 6 0,
    o_ 7 (.func 118 [(.t 2),(.t 4)]),
    o_ 8 (.call (.f 84) [(.t 6),(.t 7)] [.d .bool] [] false),
    mv 5 8]) (ATk)) (ATj)
def Yq.fn:Fn:=⟨3,[.tmp 5],.seq (.reg false [bx 4 0 1,
    o_ 5 (.move (.c .bool false))]) (ATi)⟩
def AVw:Cd:=td [8]
def AV0:Cd:=.skip
def AP5:Cd:=.exit 0
def APy:Cd:=td [13,14,15]
def AP0:Cd:=td [16,17]
def AP2:Cd:=td [19,20,21,22]
def AP1:Cd:=.seq (.reg false [mv 19 5,
    mv 20 6,
    o_ 21 (.slice 3 (.int .i64) [(.t 20)]),
    o_ 22 (.append 4 (.int .i64) (.t 19) (.t 21)),
    mv 5 22]) (AP2)
def AP4:Cd:=.skip
def APz:Cd:=.cond (.t 18) (.seq (td [18]) (AP1)) (.seq (td [18]) (AP4))
def APx:Cd:=.seq (.seq (.reg false [ld 16 Zb 3,
    ld 17 Zb 7,
    o_ 18 (.eqs Zb false (.t 16) (.t 17))]) (AP0)) (APz)
def AP3:Cd:=td [23]
def APw:Cd:=.seq (.reg false [bc 23 .add 11 1,
    mv 11 23]) (AP3)
def AVz:Cd:=.seq (.block 1 (.seq (.seq (.reg false [mv 13 11,
    ix 14 (.sl Zb) 9 11,
    ld 15 Zb 14,
    nb 7 2 Zb,
    mv 6 13,
    sr Zb 7 15]) (APy)) (APx))) (APw)
def AVy:Cd:=.seq (.cond (.t 12) (.seq (td [12]) (AV0)) (.seq (td [12]) (AP5))) (AVz)
def AVx:Cd:=.tidy [6,7] [(4,5)] [2,3] (some 6)
def AJ7:Cd:=.seq (.seq (.reg false [bi 12 .lss 11 10]) (AVy)) (AVx)
def AVv:Cd:=.block 0 (.loop (AJ7))
def AP7:Cd:=td [24]
def AP6:Cd:=.ret
def AJ6:Cd:=.seq (.seq (.reg false [mv 24 5,
    mv 4 24]) (AP7)) (AP6)
def AVu:Cd:=.seq (.seq (.seq (.reg false [fa 8 Za 3 2,
    ld 9 (.sl Zb) 8,
    le 10 9,
    ci 11 0]) (AVw)) (AVv)) (AJ6)
def AVt:Cd:=.seq (.reg false [o_ 5 (.mknil 5 (.int .i64))]) (AVu)
def Yp.fn:Fn:=⟨2,[.tmp 4],.seq (.reg false [bx 2 0 0,
    bx 3 1 1,
    o_ 4 (.move (.c (.sl (.int .i64)) []))]) (AVt)⟩
def ASk:Cd:=td [6,7,8,9,10,11,12,13,14,15]
def ASm:Cd:=td [16,17,18,19,20,21,22,23,24]
def ASl:Cd:=.ret
def ASj:Cd:=.seq (.seq (.reg true [od 16 (.fieldAddr (.d Zb) 0 (.t 3)) [1] [],
    od 17 (.load (.d (.int .i64)) (.t 16)) [1] [],
    od 18 (.index (.arr 3 (.int .i64)) (.t 5) (.t 17)) [2] [],
    od 19 (.load (.d (.int .i64)) (.t 18)) [2] [],
    od 20 (.load (.d Za) (.t 2)) [0] [],
    od 21 (.load (.d Zb) (.t 3)) [1] [],
    o_ 22 (.call (.f 133) [(.t 20),(.t 21)] [.d (.sl (.int .i64))] [] false),
    le 23 22,
    bi 24 .sub 19 23,
    mv 4 24]) (ASm)) (ASl)
def ASi:Cd:=.seq (.seq (.reg false [fa 6 Za 0 2,
    fa 7 Z4 5 6,
    ld 8 (.int .i64) 7,
    fa 9 Za 0 2,
    fa 10 Z4 6 9,
    ld 11 (.int .i64) 10,
    fa 12 Za 0 2,
    fa 13 Z4 7 12,
    ld 14 (.int .i64) 13,
    o_ 15 (.build (.arr 3 (.int .i64)) [(0,(.t 8)),(1,(.t 11)),(2,(.t 14))] []),
    o_ 5 (.newbox 2 (.arr 3 (.int .i64)) []),
    on_ (.store (.d (.arr 3 (.int .i64))) (.t 5) (.t 15))]) (ASk)) (ASj)
def Qz.fn:Fn:=⟨2,[.tmp 4],.seq (.reg false [bx 2 0 0,
    bx 3 1 1,
    ci 4 0]) (ASi)⟩
def AV3:Cd:=td [3,4,5,6,7,8]
def AV2:Cd:=.ret
def AV1:Cd:=.seq (.seq (.reg false [mv 3 0,
    bc 4 .geq 3 0,
    mv 5 4,
    og 6 (.move (.t 0)) 5 true,
    og 7 (.bin .leq (.t 6) (.c (.int .i64) (1073741824:Int))) 5 true,
    o_ 8 (.pick (.t 5) (.t 7) (.c .bool false)),
    mv 2 8]) (AV3)) (AV2)
def Hz.fn:Fn:=⟨1,[.tmp 2],.seq (.reg false [o_ 2 (.move (.c .bool false))]) (AV1)⟩
def AT2:Cd:=td [12,13,14,15,16,17]
def AT5:Cd:=td [18,19]
def AT4:Cd:=.ret
def AT3:Cd:=.seq (.seq (.reg false [mv 18 0,
    mv 19 1,
    mv 8 18,
    mv 9 19,
    ci 10 1]) (AT5)) (AT4)
def AT8:Cd:=td [21,22,23,24,25,26,27,28]
def AN8:Cd:=td [29,30]
def AN7:Cd:=.ret
def AN6:Cd:=.seq (.seq (.reg false [mv 29 0,
    mv 30 1,
    mv 8 29,
    mv 9 30,
    ci 10 10]) (AN8)) (AN7)
def AOb:Cd:=td [32,33,34,35,36,37,38,39,40,41,42,43,44,45,46,47]
def AOe:Cd:=td [48,49]
def AOd:Cd:=.ret
def AOc:Cd:=.seq (.seq (.reg false [mv 48 0,
    mv 49 1,
    mv 8 48,
    mv 9 49,
    ci 10 11]) (AOe)) (AOd)
def AOf:Cd:=.skip
def AOa:Cd:=.cond (.t 31) (.seq (td [31]) (AOc)) (.seq (td [31]) (AOf))
def AN9:Cd:=.seq (.seq (.reg false [mv 32 0,
    mv 33 2,
    bi 34 .sub 32 33,
    mv 35 3,
    bi 36 .add 34 35,
    o_ 37 (.call (.f 135) [(.t 36)] [.d .bool] [] false),
    nt 38 37,
    mv 39 38,
    og 40 (.move (.t 1)) 39 false,
    og 41 (.move (.t 3)) 39 false,
    og 42 (.bin .sub (.t 40) (.t 41)) 39 false,
    og 43 (.move (.t 2)) 39 false,
    og 44 (.bin .add (.t 42) (.t 43)) 39 false,
    og 45 (.call (.f 135) [(.t 44)] [.d .bool] [] false) 39 false,
    og 46 (.not (.t 45)) 39 false,
    o_ 47 (.pick (.t 39) (.c .bool true) (.t 46)),
    mv 31 47]) (AOb)) (AOa)
def AT7:Cd:=.cond (.t 20) (.seq (td [20]) (AN6)) (.seq (td [20]) (AN9))
def AT6:Cd:=.seq (.seq (.reg false [mv 21 2,
    mv 22 0,
    bi 23 .gtr 21 22,
    mv 24 23,
    og 25 (.move (.t 3)) 24 false,
    og 26 (.move (.t 1)) 24 false,
    og 27 (.bin .gtr (.t 25) (.t 26)) 24 false,
    o_ 28 (.pick (.t 24) (.c .bool true) (.t 27)),
    mv 20 28]) (AT8)) (AT7)
def AT1:Cd:=.cond (.t 11) (.seq (td [11]) (AT3)) (.seq (td [11]) (AT6))
def AOh:Cd:=td [50,51,52,53,54,55,56,57,58,59]
def AOg:Cd:=.ret
def AT0:Cd:=.seq (.seq (.reg false [mv 50 0,
    mv 51 2,
    bi 52 .sub 50 51,
    mv 53 3,
    bi 54 .add 52 53,
    mv 55 1,
    mv 56 3,
    bi 57 .sub 55 56,
    mv 58 2,
    bi 59 .add 57 58,
    mv 8 54,
    mv 9 59,
    ci 10 0]) (AOh)) (AOg)
def ATz:Cd:=.seq (.block 0 (.seq (.seq (.reg false [mv 12 2,
    bc 13 .lss 12 0,
    mv 14 13,
    og 15 (.move (.t 3)) 14 false,
    og 16 (.bin .lss (.t 15) (.c (.int .i64) (0:Int))) 14 false,
    o_ 17 (.pick (.t 14) (.c .bool true) (.t 16)),
    mv 11 17]) (AT2)) (AT1))) (AT0)
def V3.fn:Fn:=⟨4,[.tmp 8,.tmp 9,.tmp 10],.seq (.reg false [ci 8 0,
    ci 9 0,
    ci 10 0]) (ATz)⟩
def AUb:Cd:=td [3,4,5,6,7,8,9,10,11,12,13,14]
def AUd:Cd:=td [15]
def AUc:Cd:=.ret
def AUa:Cd:=.seq (.seq (.reg false [ld 15 Za 1,
    sr Za 2 15]) (AUd)) (AUc)
def AT9:Cd:=.seq (.seq (.reg true [od 3 (.fieldAddr (.d Za) 1 (.t 1)) [0] [],
    od 4 (.load (.d (.sl (.int .i64))) (.t 3)) [0] [],
    od 5 (.call (.f 136) [(.t 4)] [.d (.sl (.int .i64))] [((0,[]),2)] false) [] [2],
    od 6 (.fieldAddr (.d Za) 2 (.t 1)) [0] [],
    od 7 (.load (.d (.sl (.int .i64))) (.t 6)) [0] [],
    od 8 (.call (.f 136) [(.t 7)] [.d (.sl (.int .i64))] [((0,[]),3)] false) [] [3],
    od 9 (.fieldAddr (.d Za) 3 (.t 1)) [0] [],
    od 10 (.load (.d (.sl Zb)) (.t 9)) [0] [],
    od 11 (.call (.f 137) [(.t 10)] [.d (.sl Zb)] [((0,[]),4)] false) [] [4],
    od 12 (.fieldAddr (.d Za) 1 (.t 1)) [0] [],
    ⟨none,.store (.d (.sl (.int .i64))) (.t 12) (.t 5),none,[],[0]⟩,
    od 13 (.fieldAddr (.d Za) 2 (.t 1)) [0] [],
    ⟨none,.store (.d (.sl (.int .i64))) (.t 13) (.t 8),none,[],[0]⟩,
    od 14 (.fieldAddr (.d Za) 3 (.t 1)) [0] [],
    ⟨none,.store (.d (.sl Zb)) (.t 14) (.t 11),none,[],[0]⟩]) (AUb)) (AUa)
def Jb.fn:Fn:=⟨1,[.cell 2 (.d Za)],.seq (.reg false [bx 1 0 0,
    nb 2 1 Za]) (AT9)⟩
def BOi:Cd:=td [20,21,22,23,24,25,26,27]
def BOk:Cd:=td [28]
def BOn:Cd:=td [30,31,32,33,34,35,36,37,38]
def BDf:Cd:=td [39]
def BOp:Cd:=.ret
def BOo:Cd:=.seq (.seq (.reg false [ld 39 Za 3,
    sr Za 6 39,
    ci 7 3]) (BDf)) (BOp)
def BDi:Cd:=td [41,42,43]
def BDl:Cd:=td [44]
def BDk:Cd:=.ret
def BDj:Cd:=.seq (.seq (.reg false [ld 44 Za 3,
    sr Za 6 44,
    ci 7 12]) (BDl)) (BDk)
def BDo:Cd:=td [46,47,48,49,50,51,52,53,54,55,56]
def BDr:Cd:=td [57]
def BDq:Cd:=.ret
def BDp:Cd:=.seq (.seq (.reg false [ld 57 Za 3,
    sr Za 6 57,
    ci 7 5]) (BDr)) (BDq)
def BDu:Cd:=td [59,60]
def BDx:Cd:=td [61]
def BDw:Cd:=.ret
def BDv:Cd:=.seq (.seq (.reg false [ld 61 Za 3,
    sr Za 6 61,
    ci 7 13]) (BDx)) (BDw)
def BD0:Cd:=td [63,64,65,66,67,68,69,70,71,72,73,74]
def BD3:Cd:=td [75]
def BD2:Cd:=.ret
def BD1:Cd:=.seq (.seq (.reg false [ld 75 Za 3,
    sr Za 6 75,
    ci 7 5]) (BD3)) (BD2)
def BD4:Cd:=.skip
def BDz:Cd:=.cond (.t 62) (.seq (td [62]) (BD1)) (.seq (td [62]) (BD4))
def BDy:Cd:=.seq (.seq (.reg false [mv 63 10,
    fa 64 Zw 5 5,
    o_ 65 (.load (.d (.sl (.int .i64))) (.t 64)),
    mv 66 1,
    o_ 67 (.call (.t 63) [(.t 65),(.t 66)] [.d .bool] [] false),
    mv 68 67,
    og 69 (.move (.t 10)) 68 false,
    og 70 (.fieldAddr (.d Zw) 7 (.t 5)) 68 false,
    og 71 (.load (.d (.sl (.int .i64))) (.t 70)) 68 false,
    og 72 (.move (.t 8)) 68 false,
    og 73 (.call (.t 69) [(.t 71),(.t 72)] [.d .bool] [] false) 68 false,
    o_ 74 (.pick (.t 68) (.c .bool true) (.t 73)),
    mv 62 74]) (BD0)) (BDz)
def BDt:Cd:=.cond (.t 58) (.seq (td [58]) (BDv)) (.seq (td [58]) (BDy))
def BDs:Cd:=.seq (.seq (.reg false [mv 59 9,
    o_ 60 (.call (.f 120) [(.t 59)] [.d .bool] [] false),
    mv 58 60]) (BDu)) (BDt)
def BDn:Cd:=.cond (.t 45) (.seq (td [45]) (BDp)) (.seq (td [45]) (BDs))
def BDm:Cd:=.seq (.seq (.reg true [od 46 (.fieldAddr (.d Za) 1 (.t 3)) [0] [],
    od 47 (.load (.d (.sl (.int .i64))) (.t 46)) [0] [],
    mv 48 8,
    ix 49 (.sl (.int .i64)) 47 48,
    ld 50 (.int .i64) 49,
    od 51 (.fieldAddr (.d Za) 1 (.t 3)) [0] [],
    od 52 (.load (.d (.sl (.int .i64))) (.t 51)) [0] [],
    mv 53 1,
    ix 54 (.sl (.int .i64)) 52 53,
    ld 55 (.int .i64) 54,
    bi 56 .neq 50 55,
    mv 45 56]) (BDo)) (BDn)
def BDh:Cd:=.cond (.t 40) (.seq (td [40]) (BDj)) (.seq (td [40]) (BDm))
def BDg:Cd:=.seq (.seq (.reg false [mv 41 8,
    mv 42 1,
    bi 43 .eql 41 42,
    mv 40 43]) (BDi)) (BDh)
def BOm:Cd:=.cond (.t 29) (.seq (td [29]) (BOo)) (.seq (td [29]) (BDg))
def BD6:Cd:=td [76,77,78,79,80,81,82]
def BD9:Cd:=td [83,84,85,86,87,88,89,90,91,92,93,94,95,96]
def BEc:Cd:=td [98]
def BEb:Cd:=.ret
def BEa:Cd:=.seq (.seq (.reg false [ld 98 Za 3,
    sr Za 6 98,
    ci 7 9]) (BEc)) (BEb)
def BEd:Cd:=.skip
def BD8:Cd:=.cond (.t 97) (.seq (td [97]) (BEa)) (.seq (td [97]) (BEd))
def BEf:Cd:=td [99,100,101,102,103,104,105,106,107,108,109,110,111,112,113,114,115,116,117]
def BEi:Cd:=td [118]
def BEl:Cd:=td [120,121]
def BEk:Cd:=.ret
def BEj:Cd:=.seq (.seq (.reg false [ld 120 Za 3,
    mv 121 14,
    sr Za 6 120,
    mv 7 121]) (BEl)) (BEk)
def BEm:Cd:=.skip
def BEh:Cd:=.cond (.t 119) (.seq (td [119]) (BEj)) (.seq (td [119]) (BEm))
def BEo:Cd:=td [122,123]
def BEq:Cd:=td [124,125,126,127,128,129,130,131,132,133]
def BEs:Cd:=td [134]
def BEw:Cd:=.skip
def BE2:Cd:=.exit 1
def BEz:Cd:=td [139,140]
def BE0:Cd:=td [141,142,143,144,145,146]
def BEy:Cd:=.seq (.reg true [od 141 (.fieldAddr (.d Za) 3 (.t 15)) [4] [],
    od 142 (.load (.d (.sl Zb)) (.t 141)) [4] [],
    mv 143 17,
    mv 144 8,
    o_ 145 (.call (.f 115) [(.t 144)] [.d Zb] [] false),
    od 146 (.index (.sl Zb) (.t 142) (.t 143)) [6] [],
    ⟨none,.store (.d Zb) (.t 146) (.t 145),none,[],[6]⟩]) (BE0)
def BE1:Cd:=td [147]
def BEx:Cd:=.seq (.reg false [bc 147 .add 137 1,
    mv 137 147]) (BE1)
def BEv:Cd:=.seq (.block 2 (.seq (.seq (.reg false [ix 139 (.sl (.int .i64)) 135 137,
    ld 140 (.int .i64) 139,
    mv 17 140]) (BEz)) (BEy))) (BEx)
def BEu:Cd:=.seq (.cond (.t 138) (.seq (td [138]) (BEw)) (.seq (td [138]) (BE2))) (BEv)
def BEt:Cd:=.tidy [17] [] [] (some 7)
def AKn:Cd:=.seq (.seq (.reg false [bi 138 .lss 137 136]) (BEu)) (BEt)
def BEr:Cd:=.block 1 (.loop (AKn))
def BE4:Cd:=td [148]
def BE8:Cd:=.skip
def BFe:Cd:=.exit 3
def BFb:Cd:=td [153,154]
def BFc:Cd:=td [155,156,157,158,159,160]
def BFa:Cd:=.seq (.reg true [od 155 (.fieldAddr (.d Za) 3 (.t 15)) [4] [],
    od 156 (.load (.d (.sl Zb)) (.t 155)) [4] [],
    mv 157 19,
    mv 158 1,
    o_ 159 (.call (.f 115) [(.t 158)] [.d Zb] [] false),
    od 160 (.index (.sl Zb) (.t 156) (.t 157)) [6] [],
    ⟨none,.store (.d Zb) (.t 160) (.t 159),none,[],[6]⟩]) (BFc)
def BFd:Cd:=td [161]
def BE9:Cd:=.seq (.reg false [bc 161 .add 151 1,
    mv 151 161]) (BFd)
def BE7:Cd:=.seq (.block 4 (.seq (.seq (.reg false [ix 153 (.sl (.int .i64)) 149 151,
    ld 154 (.int .i64) 153,
    mv 19 154]) (BFb)) (BFa))) (BE9)
def BE6:Cd:=.seq (.cond (.t 152) (.seq (td [152]) (BE8)) (.seq (td [152]) (BFe))) (BE7)
def BE5:Cd:=.tidy [19] [] [] (some 7)
def AKp:Cd:=.seq (.seq (.reg false [bi 152 .lss 151 150]) (BE6)) (BE5)
def BE3:Cd:=.block 3 (.loop (AKp))
def BFg:Cd:=td [162]
def BFf:Cd:=.ret
def AKo:Cd:=.seq (.seq (.reg false [ld 162 Za 15,
    sr Za 6 162,
    ci 7 0]) (BFg)) (BFf)
def AKm:Cd:=.seq (.seq (.seq (.reg false [fa 148 Zw 7 5,
    o_ 149 (.load (.d (.sl (.int .i64))) (.t 148)),
    le 150 149,
    ci 151 0]) (BE4)) (BE3)) (AKo)
def BEp:Cd:=.seq (.seq (.seq (.reg false [fa 134 Zw 5 5,
    o_ 135 (.load (.d (.sl (.int .i64))) (.t 134)),
    le 136 135,
    ci 137 0]) (BEs)) (BEr)) (AKm)
def BEn:Cd:=.seq (.seq (.reg true [od 124 (.fieldAddr (.d Za) 2 (.t 15)) [4] [],
    od 125 (.load (.d (.sl (.int .i64))) (.t 124)) [4] [],
    mv 126 1,
    od 127 (.fieldAddr (.d Za) 2 (.t 15)) [4] [],
    od 128 (.load (.d (.sl (.int .i64))) (.t 127)) [4] [],
    mv 129 8,
    mv 130 12,
    mv 131 13,
    od 132 (.index (.sl (.int .i64)) (.t 125) (.t 126)) [5] [],
    ⟨none,.store (.d (.int .i64)) (.t 132) (.t 130),none,[],[5]⟩,
    od 133 (.index (.sl (.int .i64)) (.t 128) (.t 129)) [5] [],
    ⟨none,.store (.d (.int .i64)) (.t 133) (.t 131),none,[],[5]⟩]) (BEq)) (BEp)
def BEg:Cd:=.seq (.seq (.reg false [ld 122 Za 3,
    o_ 123 (.call (.f 122) [(.t 122)] [.d Za] [((0,[2]),5),((0,[3]),6)] false),
    nb 15 4 Za,
    sr Za 15 123]) (BEo)) (BEn)
def BEe:Cd:=.seq (.seq (.seq (.reg false [mv 118 14,
    bc 119 .neq 118 0]) (BEi)) (BEh)) (BEg)
def BD7:Cd:=.seq (.seq (.reg true [od 100 (.fieldAddr (.d Za) 2 (.t 3)) [0] [],
    od 101 (.load (.d (.sl (.int .i64))) (.t 100)) [0] [],
    mv 102 1,
    ix 103 (.sl (.int .i64)) 101 102,
    ld 104 (.int .i64) 103,
    od 105 (.fieldAddr (.d Za) 2 (.t 3)) [0] [],
    od 106 (.load (.d (.sl (.int .i64))) (.t 105)) [0] [],
    mv 107 8,
    ix 108 (.sl (.int .i64)) 106 107,
    ld 109 (.int .i64) 108,
    od 110 (.fieldAddr (.d Zw) 6 (.t 5)) [1] [],
    od 111 (.load (.d (.int .i64)) (.t 110)) [1] [],
    od 112 (.fieldAddr (.d Zw) 8 (.t 5)) [1] [],
    od 113 (.load (.d (.int .i64)) (.t 112)) [1] [],
    o_ 114 (.call (.f 121) [(.t 104),(.t 109),(.t 111),(.t 113)] [.d (.int .i64),.d (.int .i64),.d (.int .i64)] [] false),
    mv 99 114,
    xt 115 99 0,
    xt 116 99 1,
    xt 117 99 2,
    mv 12 115,
    mv 13 116,
    mv 14 117]) (BEf)) (BEe)
def BD5:Cd:=.seq (.seq (.seq (.reg true [od 83 (.load (.d Za) (.t 3)) [0] [],
    mv 84 1,
    o_ 85 (.call (.f 115) [(.t 84)] [.d Zb] [] false),
    o_ 86 (.call (.f 106) [(.t 83),(.t 85)] [.d (.int .i64)] [] false),
    mv 87 11,
    bi 88 .lss 86 87,
    mv 89 88,
    ogd 90 (.load (.d Za) (.t 3)) 89 false [0],
    og 91 (.move (.t 8)) 89 false,
    og 92 (.call (.f 115) [(.t 91)] [.d Zb] [] false) 89 false,
    og 93 (.call (.f 106) [(.t 90),(.t 92)] [.d (.int .i64)] [] false) 89 false,
    og 94 (.move (.t 11)) 89 false,
    og 95 (.neg (.t 94)) 89 false,
    og 96 (.bin .lss (.t 93) (.t 95)) 89 false,
    o_ 97 (.pick (.t 89) (.c .bool true) (.t 96))]) (BD9)) (BD8)) (BD7)
def BOl:Cd:=.seq (.seq (.reg false [fa 76 Zw 7 5,
    o_ 77 (.load (.d (.sl (.int .i64))) (.t 76)),
    le 78 77,
    fa 79 Zw 5 5,
    o_ 80 (.load (.d (.sl (.int .i64))) (.t 79)),
    le 81 80,
    bi 82 .sub 78 81,
    mv 11 82]) (BD6)) (BD5)
def BOj:Cd:=.seq (.block 0 (.seq (.seq (.reg false [ld 30 Za 3,
    mv 31 8,
    o_ 32 (.call (.f 114) [(.t 30),(.t 31)] [.d .bool] [] false),
    nt 33 32,
    mv 34 33,
    og 35 (.move (.t 9)) 34 false,
    og 36 (.func 119 [(.t 3)]) 34 false,
    og 37 (.call (.f 84) [(.t 35),(.t 36)] [.d .bool] [] false) 34 false,
    o_ 38 (.pick (.t 34) (.c .bool true) (.t 37)),
    mv 29 38]) (BOn)) (BOm))) (BOl)
def BOh:Cd:=.seq (.seq (.reg false [o_ 28 (.func 117 [(.t 3)]),
    mv 10 28]) (BOk)) (BOj)
def BOg:Cd:=.seq (.seq (.reg true [od 20 (.fieldAddr (.d Zw) 4 (.t 5)) [1] [],
    od 21 (.load (.d (.int .i64)) (.t 20)) [1] [],
    od 22 (.fieldAddr (.d Zw) 5 (.t 5)) [1] [],
    od 23 (.load (.d (.sl (.int .i64))) (.t 22)) [1] [],
    od 24 (.fieldAddr (.d Zw) 7 (.t 5)) [1] [],
    od 25 (.load (.d (.sl (.int .i64))) (.t 24)) [1] [],
    od 26 (.slice 3 (.sl (.int .i64)) [(.t 23),(.t 25)]) [] [3],
    od 27 (.call (.f 116) [(.t 26)] [.d (.sl (.int .i64))] [] false) [] [3],
    mv 8 21,
    mv 9 27]) (BOi)) (BOh)
def Z1.fn:Fn:=⟨3,[.cell 6 (.d Za),.tmp 7],.seq (.reg false [bx 3 0 0,
    bx 5 1 2,
    nb 6 2 Za,
    ci 7 0]) (BOg)⟩
def BSd:Cd:=td [7]
def BSg:Cd:=td [9,10]
def BSf:Cd:=.ret
def BSe:Cd:=.seq (.seq (.reg false [mv 9 2,
    o_ 10 (.build Zn [(0,(.t 9))] []),
    sr Zn 6 10]) (BSg)) (BSf)
def BSh:Cd:=.skip
def BSc:Cd:=.cond (.t 8) (.seq (td [8]) (BSe)) (.seq (td [8]) (BSh))
def BSj:Cd:=td [11,12,13]
def BSi:Cd:=.ret
def BSb:Cd:=.seq (.seq (.reg false [mv 11 0,
    mv 12 1,
    o_ 13 (.build Zn [(1,(.t 11)),(2,(.t 12))] []),
    sr Zn 6 13]) (BSj)) (BSi)
def BSa:Cd:=.seq (.seq (.seq (.reg false [mv 7 2,
    bc 8 .neq 7 0]) (BSd)) (BSc)) (BSb)
def Yc.fn:Fn:=⟨3,[.cell 6 (.d Zn)],.seq (.reg false [nb 6 0 Zn]) (BSa)⟩
def BS1:Cd:=td [11,12,13,14,15,16,17,18]
def BS3:Cd:=td [19,20,21,22,23]
def BS2:Cd:=.ret
def BS0:Cd:=.seq (.seq (.reg true [od 19 (.load (.d Za) (.t 9)) [4] [],
    od 20 (.fieldAddr (.d Zw) 0 (.t 6)) [1] [],
    od 21 (.load (.d (.int .i64)) (.t 20)) [1] [],
    mv 22 10,
    o_ 23 (.call (.f 87) [(.t 21),(.c (.int .i64) (0:Int)),(.t 22)] [.d Zn] [] false),
    ⟨none,.store (.d Za) (.t 7) (.t 19),none,[],[2]⟩,
    ⟨none,.store (.d Zn) (.t 8) (.t 23),none,[],[3]⟩]) (BS3)) (BS2)
def BSz:Cd:=.seq (.seq (.reg false [o_ 12 (.load (.v false 1) (.t 3)),
    ld 13 Za 4,
    mv 14 1,
    ld 15 Zw 6,
    o_ 16 (.call (.t 12) [(.t 13),(.t 14),(.t 15)] [.d Za,.d (.int .i64)] [] false),
    mv 11 16,
    xt 17 11 0,
    xt 18 11 1,
    nb 9 4 Za,
    sr Za 9 17,
    mv 10 18]) (BS1)) (BS0)
def Ql.fn:Fn:=⟨4,[.cell 7 (.d Za),.cell 8 (.d Zn)],.seq (.reg false [bx 4 0 0,
    bx 6 1 2,
    nb 7 2 Za,
    nb 8 3 Zn]) (BSz)⟩
def ASp:Cd:=td [8,9]
def ASr:Cd:=td [10,11,12,13,14]
def ASt:Cd:=td [15]
def ASs:Cd:=.ret
def ASq:Cd:=.seq (.seq (.reg false [ld 15 Za 7,
    sr Za 6 15]) (ASt)) (ASs)
def ASo:Cd:=.seq (.seq (.reg false [fa 10 Za 3 7,
    ld 11 (.sl Zb) 10,
    mv 12 1,
    ld 13 Zb 5,
    ix 14 (.sl Zb) 11 12,
    sr Zb 14 13]) (ASr)) (ASq)
def ASn:Cd:=.seq (.seq (.reg false [ld 8 Za 3,
    o_ 9 (.call (.f 122) [(.t 8)] [.d Za] [((0,[3]),4)] false),
    nb 7 3 Za,
    sr Za 7 9]) (ASp)) (ASo)
def K3.fn:Fn:=⟨3,[.cell 6 (.d Za)],.seq (.reg false [bx 3 0 0,
    bx 5 1 2,
    nb 6 2 Za]) (ASn)⟩
def BN9:Cd:=td [11,12,13,14,15,16,17,18,19,20]
def BOc:Cd:=td [21]
def BOb:Cd:=.ret
def BOa:Cd:=.seq (.seq (.reg false [ld 21 Za 4,
    sr Za 8 21,
    ci 9 3]) (BOc)) (BOb)
def BOf:Cd:=td [23,24,25]
def BCz:Cd:=td [26]
def BCy:Cd:=.ret
def BCx:Cd:=.seq (.seq (.reg false [ld 26 Za 4,
    sr Za 8 26,
    ci 9 12]) (BCz)) (BCy)
def BC2:Cd:=td [28,29,30,31,32,33,34,35,36,37,38,39,40,41,42,43,44,45,46,47,48]
def BC5:Cd:=td [49]
def BC4:Cd:=.ret
def BC3:Cd:=.seq (.seq (.reg false [ld 49 Za 4,
    sr Za 8 49,
    ci 9 5]) (BC5)) (BC4)
def BC8:Cd:=td [51,52,53,54,55]
def BDb:Cd:=td [56]
def BDa:Cd:=.ret
def BC9:Cd:=.seq (.seq (.reg false [ld 56 Za 4,
    sr Za 8 56,
    ci 9 9]) (BDb)) (BDa)
def BDc:Cd:=.skip
def BC7:Cd:=.cond (.t 50) (.seq (td [50]) (BC9)) (.seq (td [50]) (BDc))
def BC6:Cd:=.seq (.seq (.reg true [od 51 (.load (.d Za) (.t 4)) [0] [],
    mv 52 3,
    o_ 53 (.call (.f 115) [(.t 52)] [.d Zb] [] false),
    o_ 54 (.call (.f 106) [(.t 51),(.t 53)] [.d (.int .i64)] [] false),
    bc 55 .lss 54 1,
    mv 50 55]) (BC8)) (BC7)
def BC1:Cd:=.cond (.t 27) (.seq (td [27]) (BC3)) (.seq (td [27]) (BC6))
def BC0:Cd:=.seq (.seq (.reg true [od 28 (.fieldAddr (.d Za) 1 (.t 4)) [0] [],
    od 29 (.load (.d (.sl (.int .i64))) (.t 28)) [0] [],
    mv 30 3,
    ix 31 (.sl (.int .i64)) 29 30,
    ld 32 (.int .i64) 31,
    od 33 (.fieldAddr (.d Za) 1 (.t 4)) [0] [],
    od 34 (.load (.d (.sl (.int .i64))) (.t 33)) [0] [],
    mv 35 1,
    ix 36 (.sl (.int .i64)) 34 35,
    ld 37 (.int .i64) 36,
    bi 38 .neq 32 37,
    mv 39 38,
    ogd 40 (.fieldAddr (.d Za) 3 (.t 4)) 39 false [0],
    ogd 41 (.load (.d (.sl Zb)) (.t 40)) 39 false [0],
    og 42 (.move (.t 2)) 39 false,
    og 43 (.index (.sl Zb) (.t 41) (.t 42)) 39 false,
    og 44 (.load (.d Zb) (.t 43)) 39 false,
    og 45 (.move (.t 1)) 39 false,
    og 46 (.call (.f 115) [(.t 45)] [.d Zb] [] false) 39 false,
    og 47 (.eqs Zb true (.t 44) (.t 46)) 39 false,
    o_ 48 (.pick (.t 39) (.c .bool true) (.t 47)),
    mv 27 48]) (BC2)) (BC1)
def BOe:Cd:=.cond (.t 22) (.seq (td [22]) (BCx)) (.seq (td [22]) (BC0))
def BOd:Cd:=.seq (.seq (.reg false [mv 23 3,
    mv 24 1,
    bi 25 .eql 23 24,
    mv 22 25]) (BOf)) (BOe)
def BN8:Cd:=.cond (.t 10) (.seq (td [10]) (BOa)) (.seq (td [10]) (BOd))
def BDe:Cd:=td [57,58,59,60,61]
def BDd:Cd:=.ret
def BN7:Cd:=.seq (.seq (.reg true [od 57 (.load (.d Za) (.t 4)) [0] [],
    mv 58 2,
    mv 59 3,
    o_ 60 (.call (.f 115) [(.t 59)] [.d Zb] [] false),
    o_ 61 (.call (.f 107) [(.t 57),(.t 58),(.t 60)] [.d Za] [] false),
    ⟨none,.store (.d Za) (.t 8) (.t 61),none,[],[1]⟩,
    ci 9 0]) (BDe)) (BDd)
def BN6:Cd:=.seq (.block 0 (.seq (.seq (.reg false [ld 11 Za 4,
    mv 12 2,
    o_ 13 (.call (.f 113) [(.t 11),(.t 12)] [.d .bool] [] false),
    nt 14 13,
    mv 15 14,
    og 16 (.load (.d Za) (.t 4)) 15 false,
    og 17 (.move (.t 3)) 15 false,
    og 18 (.call (.f 114) [(.t 16),(.t 17)] [.d .bool] [] false) 15 false,
    og 19 (.not (.t 18)) 15 false,
    o_ 20 (.pick (.t 15) (.c .bool true) (.t 19)),
    mv 10 20]) (BN9)) (BN8))) (BN7)
def Vg.fn:Fn:=⟨4,[.cell 8 (.d Za),.tmp 9],.seq (.reg false [bx 4 0 0,
    nb 8 1 Za,
    ci 9 0]) (BN6)⟩
def BN5:Cd:=td [8,9,10,11,12,13,14,15,16]
def BN4:Cd:=.ret
def BN3:Cd:=.seq (.seq (.reg false [ld 8 Za 3,
    mv 9 1,
    fa 10 Zw 2 5,
    ld 11 (.int .i64) 10,
    fa 12 Zw 4 5,
    ld 13 (.int .i64) 12,
    o_ 14 (.call (.f 66) [(.t 8),(.t 9),(.t 11),(.t 13)] [.d Za,.d (.int .i64)] [] false),
    xt 15 14 0,
    xt 16 14 1,
    sr Za 6 15,
    mv 7 16]) (BN5)) (BN4)
def Qj.fn:Fn:=⟨3,[.cell 6 (.d Za),.tmp 7],.seq (.reg false [bx 3 0 0,
    bx 5 1 2,
    nb 6 2 Za,
    ci 7 0]) (BN3)⟩
def BTw:Cd:=td [5,6,7,8,9,10,11,12,13]
def BTv:Cd:=.ret
def BTu:Cd:=.seq (.seq (.reg false [mv 5 1,
    bc 6 .lss 5 0,
    mv 7 6,
    og 8 (.move (.t 1)) 7 false,
    og 9 (.fieldAddr (.d Za) 3 (.t 2)) 7 false,
    og 10 (.load (.d (.sl Zb)) (.t 9)) 7 false,
    og 11 (.len (.t 10)) 7 false,
    og 12 (.bin .geq (.t 8) (.t 11)) 7 false,
    o_ 13 (.pick (.t 7) (.c .bool true) (.t 12)),
    mv 4 13]) (BTw)) (BTv)
def Qt.fn:Fn:=⟨2,[.tmp 4],.seq (.reg false [bx 2 0 0,
    o_ 4 (.move (.c .bool false))]) (BTu)⟩
def ASw:Cd:=td [4,5,6,7,8,9,10,11]
def ASv:Cd:=.ret
def ASu:Cd:=.seq (.seq (.reg false [ld 4 Za 0,
    ld 5 (.int .i64) 1,
    o_ 6 (.call (.f 96) [(.t 4),(.t 5)] [.d .bool] [] false),
    mv 7 6,
    og 8 (.load (.d Za) (.t 0)) 7 false,
    og 9 (.load (.d (.int .i64)) (.t 2)) 7 false,
    og 10 (.call (.f 96) [(.t 8),(.t 9)] [.d .bool] [] false) 7 false,
    o_ 11 (.pick (.t 7) (.c .bool true) (.t 10)),
    mv 3 11]) (ASw)) (ASv)
def Yg.fn:Fn:=⟨3,[.tmp 3],.seq (.reg false [o_ 3 (.move (.c .bool false))]) (ASu)⟩
def BT2:Cd:=td [8,9,10]
def BT4:Cd:=td [11,12,13,14,15,16,17,18,19,20,21,22,23,24]
def BT3:Cd:=.ret
def BT1:Cd:=.seq (.seq (.reg true [od 11 (.load (.d Zb) (.t 7)) [1] [],
    od 12 (.fieldAddr (.d Za) 1 (.t 3)) [0] [],
    od 13 (.load (.d (.sl (.int .i64))) (.t 12)) [0] [],
    mv 14 1,
    ix 15 (.sl (.int .i64)) 13 14,
    ld 16 (.int .i64) 15,
    o_ 17 (.build Zb [(0,(.c (.int .i64) (0:Int))),(1,(.t 16))] []),
    o_ 18 (.eqs Zb false (.t 11) (.t 17)),
    mv 19 18,
    ogd 20 (.load (.d Zb) (.t 7)) 19 false [1],
    og 21 (.move (.t 1)) 19 false,
    og 22 (.build Zb [(0,(.c (.int .i64) (1:Int))),(1,(.t 21))] []) 19 false,
    og 23 (.eqs Zb false (.t 20) (.t 22)) 19 false,
    o_ 24 (.pick (.t 19) (.c .bool true) (.t 23)),
    mv 6 24]) (BT4)) (BT3)
def BT0:Cd:=.seq (.seq (.reg false [ld 8 Za 3,
    mv 9 2,
    o_ 10 (.call (.f 130) [(.t 8),(.t 9)] [.d Zb] [] false),
    nb 7 1 Zb,
    sr Zb 7 10]) (BT2)) (BT1)
def Jq.fn:Fn:=⟨3,[.tmp 6],.seq (.reg false [bx 3 0 0,
    o_ 6 (.move (.c .bool false))]) (BT0)⟩
def ASz:Cd:=td [4,5,6,7,8]
def ASy:Cd:=.ret
def ASx:Cd:=.seq (.seq (.reg false [ld 4 Za 0,
    ld 5 (.int .i64) 1,
    ld 6 (.int .i64) 2,
    o_ 7 (.call (.f 98) [(.t 4),(.t 5),(.t 6)] [.d .bool] [] false),
    nt 8 7,
    mv 3 8]) (ASz)) (ASy)
def Qm.fn:Fn:=⟨3,[.tmp 3],.seq (.reg false [o_ 3 (.move (.c .bool false))]) (ASx)⟩
def AS2:Cd:=td [3,4,5,6,7,8,9]
def AS1:Cd:=.ret
def AS0:Cd:=.seq (.seq (.reg false [fa 3 Za 0 0,
    fa 4 Z4 4 3,
    ld 5 (.sl .bool) 4,
    ld 6 (.int .i64) 1,
    ix 7 (.sl .bool) 5 6,
    ld 8 .bool 7,
    nt 9 8,
    mv 2 9]) (AS2)) (AS1)
def Qn.fn:Fn:=⟨2,[.tmp 2],.seq (.reg false [o_ 2 (.move (.c .bool false))]) (AS0)⟩
def AS5:Cd:=td [4,5,6,7,8,9,10]
def AS4:Cd:=.ret
def AS3:Cd:=.seq (.seq (.reg true [fa 4 Za 3 0,
    ld 5 (.sl Zb) 4,
    ld 6 (.int .i64) 1,
    ix 7 (.sl Zb) 5 6,
    ld 8 Zb 7,
    ld 9 Zb 2,
    o_ 10 (.eqs Zb true (.t 8) (.t 9)),
    mv 3 10]) (AS5)) (AS4)
def Qo.fn:Fn:=⟨3,[.tmp 3],.seq (.reg false [o_ 3 (.move (.c .bool false))]) (AS3)⟩
def AS8:Cd:=td [3,4,5,6]
def AS7:Cd:=.ret
def AS6:Cd:=.seq (.seq (.reg false [ld 3 Za 0,
    ld 4 Zb 1,
    o_ 5 (.call (.f 106) [(.t 3),(.t 4)] [.d (.int .i64)] [] false),
    bc 6 .lss 5 1,
    mv 2 6]) (AS8)) (AS7)
def Qp.fn:Fn:=⟨2,[.tmp 2],.seq (.reg false [o_ 2 (.move (.c .bool false))]) (AS6)⟩
def BTo:Cd:=.skip
def BGo:Cd:=.exit 0
def BGg:Cd:=td [9,10]
def BGi:Cd:=td [11,12]
def BGl:Cd:=td [14,15]
def BGk:Cd:=.ret
def BGj:Cd:=.seq (.seq (.reg false [o_ 14 (.fieldAddr (.v [1,1]) 1 (.t 4)),
    ld 15 (.int .i64) 14,
    mv 2 15]) (BGl)) (BGk)
def BGm:Cd:=.skip
def BGh:Cd:=.cond (.t 13) (.seq (td [13]) (BGj)) (.seq (td [13]) (BGm))
def BTq:Cd:=.seq (.seq (.reg false [o_ 11 (.fieldAddr (.v [1,1]) 0 (.t 4)),
    o_ 12 (.load (.v false 1) (.t 11)),
    o_ 13 (.call (.t 12) [] [.d .bool] [] false)]) (BGi)) (BGh)
def BGn:Cd:=td [16]
def BTp:Cd:=.seq (.reg false [bc 16 .add 7 1,
    mv 7 16]) (BGn)
def BTn:Cd:=.seq (.block 1 (.seq (.seq (.reg false [o_ 9 (.index (.slv 2) (.t 5) (.t 7)),
    o_ 10 (.load (.v true 2) (.t 9)),
    o_ 4 (.newboxv 0 (.agv [.nilfn,.dat (.int .i64) 0 []])),
    on_ (.store (.v true 2) (.t 4) (.t 10))]) (BGg)) (BTq))) (BTp)
def BTm:Cd:=.seq (.cond (.t 8) (.seq (td [8]) (BTo)) (.seq (td [8]) (BGo))) (BTn)
def BTl:Cd:=.tidy [4] [] [] (some 0)
def BTk:Cd:=.seq (.seq (.reg false [bi 8 .lss 7 6]) (BTm)) (BTl)
def BTj:Cd:=.block 0 (.loop (BTk))
def BGp:Cd:=.ret
def BTi:Cd:=.seq (.reg false [ci 2 0]) (BGp)
def BTh:Cd:=.seq (.seq (.reg false [mv 5 0,
    le 6 5,
    ci 7 0]) (BTj)) (BTi)
def Yy.fn:Fn:=⟨1,[.tmp 2],.seq (.reg false [ci 2 0]) (BTh)⟩
def BNv:Cd:=td [13,14,15,16]
def BNx:Cd:=td [17,18,19,20,21,22,23,24,25,26,27,28]
def BN0:Cd:=td [29]
def BCt:Cd:=td [31,32]
def BN2:Cd:=.ret
def BN1:Cd:=.seq (.seq (.reg false [ld 31 Za 4,
    mv 32 12,
    sr Za 8 31,
    mv 9 32]) (BCt)) (BN2)
def BCu:Cd:=.skip
def BNz:Cd:=.cond (.t 30) (.seq (td [30]) (BN1)) (.seq (td [30]) (BCu))
def BCw:Cd:=td [33,34,35,36]
def BCv:Cd:=.ret
def BNy:Cd:=.seq (.seq (.reg false [ld 33 Za 4,
    ld 34 (.int .i64) 6,
    ld 35 Zb 10,
    o_ 36 (.call (.f 107) [(.t 33),(.t 34),(.t 35)] [.d Za] [] false),
    sr Za 8 36,
    ci 9 0]) (BCw)) (BCv)
def BNw:Cd:=.seq (.seq (.seq (.reg false [mv 29 12,
    bc 30 .neq 29 0]) (BN0)) (BNz)) (BNy)
def BNu:Cd:=.seq (.seq (.reg false [o_ 17 (.func 108 [(.t 4),(.t 6),(.t 7)]),
    o_ 18 (.buildv [1,1] [(.t 17),(.c (.int .i64) (3:Int))]),
    o_ 19 (.func 109 [(.t 4),(.t 5),(.t 7)]),
    o_ 20 (.buildv [1,1] [(.t 19),(.c (.int .i64) (5:Int))]),
    o_ 21 (.func 110 [(.t 4),(.t 7)]),
    o_ 22 (.buildv [1,1] [(.t 21),(.c (.int .i64) (6:Int))]),
    o_ 23 (.func 111 [(.t 4),(.t 6),(.t 11)]),
    o_ 24 (.buildv [1,1] [(.t 23),(.c (.int .i64) (5:Int))]),
    o_ 25 (.func 112 [(.t 4),(.t 10)]),
    o_ 26 (.buildv [1,1] [(.t 25),(.c (.int .i64) (9:Int))]),
    o_ 27 (.slicev 2 [(.t 18),(.t 20),(.t 22),(.t 24),(.t 26)]),
    o_ 28 (.call (.f 94) [(.t 27)] [.d (.int .i64)] [] false),
    mv 12 28]) (BNx)) (BNw)
def BNt:Cd:=.seq (.seq (.reg true [od 13 (.load (.d (.int .i64)) (.t 5)) [1] [],
    o_ 14 (.build Zb [(0,(.c (.int .i64) (1:Int))),(1,(.t 13))] []),
    od 15 (.load (.d (.int .i64)) (.t 7)) [3] [],
    o_ 16 (.build Zb [(0,(.c (.int .i64) (2:Int))),(1,(.t 15))] []),
    od 10 (.newbox 5 Zb []) [] [5],
    od 11 (.newbox 6 Zb []) [] [6],
    ⟨none,.store (.d Zb) (.t 10) (.t 14),none,[],[5]⟩,
    ⟨none,.store (.d Zb) (.t 11) (.t 16),none,[],[6]⟩]) (BNv)) (BNu)
def Vf.fn:Fn:=⟨4,[.cell 8 (.d Za),.tmp 9],.seq (.reg false [bx 4 0 0,
    bx 5 1 1,
    bx 6 2 2,
    bx 7 3 3,
    nb 8 4 Za,
    ci 9 0]) (BNt)⟩
def BNs:Cd:=td [8,9,10,11,12,13,14,15,16]
def BNr:Cd:=.ret
def BNq:Cd:=.seq (.seq (.reg false [ld 8 Za 3,
    mv 9 1,
    fa 10 Zw 2 5,
    ld 11 (.int .i64) 10,
    fa 12 Zw 3 5,
    ld 13 (.int .i64) 12,
    o_ 14 (.call (.f 64) [(.t 8),(.t 9),(.t 11),(.t 13)] [.d Za,.d (.int .i64)] [] false),
    xt 15 14 0,
    xt 16 14 1,
    sr Za 6 15,
    mv 7 16]) (BNs)) (BNr)
def Qi.fn:Fn:=⟨3,[.cell 6 (.d Za),.tmp 7],.seq (.reg false [bx 3 0 0,
    bx 5 1 2,
    nb 6 2 Za,
    ci 7 0]) (BNq)⟩
def BTt:Cd:=td [4,5,6,7,8,9,10,11]
def BTs:Cd:=.ret
def BTr:Cd:=.seq (.seq (.reg false [ld 4 Za 0,
    ld 5 (.int .i64) 1,
    o_ 6 (.call (.f 96) [(.t 4),(.t 5)] [.d .bool] [] false),
    mv 7 6,
    og 8 (.load (.d Za) (.t 0)) 7 false,
    og 9 (.load (.d (.int .i64)) (.t 2)) 7 false,
    og 10 (.call (.f 96) [(.t 8),(.t 9)] [.d .bool] [] false) 7 false,
    o_ 11 (.pick (.t 7) (.c .bool true) (.t 10)),
    mv 3 11]) (BTt)) (BTs)
def Yt.fn:Fn:=⟨3,[.tmp 3],.seq (.reg false [o_ 3 (.move (.c .bool false))]) (BTr)⟩
def BTz:Cd:=td [6,7,8,9,10,11,12,13,14,15,16,17,18,19]
def BTy:Cd:=.ret
def BTx:Cd:=.seq (.seq (.reg true [fa 6 Za 3 0,
    ld 7 (.sl Zb) 6,
    ld 8 (.int .i64) 1,
    ix 9 (.sl Zb) 7 8,
    ld 10 Zb 9,
    ld 11 Zb 2,
    o_ 12 (.eqs Zb true (.t 10) (.t 11)),
    mv 13 12,
    og 14 (.load (.d Za) (.t 0)) 13 false,
    og 15 (.load (.d (.int .i64)) (.t 3)) 13 false,
    og 16 (.load (.d (.int .i64)) (.t 4)) 13 false,
    og 17 (.call (.f 98) [(.t 14),(.t 15),(.t 16)] [.d .bool] [] false) 13 false,
    og 18 (.not (.t 17)) 13 false,
    o_ 19 (.pick (.t 13) (.c .bool true) (.t 18)),
    mv 5 19]) (BTz)) (BTy)
def Jd.fn:Fn:=⟨5,[.tmp 5],.seq (.reg false [o_ 5 (.move (.c .bool false))]) (BTx)⟩
def BT7:Cd:=td [3,4,5,6,7,8,9]
def BT6:Cd:=.ret
def BT5:Cd:=.seq (.seq (.reg false [fa 3 Za 0 0,
    fa 4 Z4 4 3,
    ld 5 (.sl .bool) 4,
    ld 6 (.int .i64) 1,
    ix 7 (.sl .bool) 5 6,
    ld 8 .bool 7,
    nt 9 8,
    mv 2 9]) (BT7)) (BT6)
def Je.fn:Fn:=⟨2,[.tmp 2],.seq (.reg false [o_ 2 (.move (.c .bool false))]) (BT5)⟩
def AR0:Cd:=td [4,5,6,7]
def ARz:Cd:=.ret
def ARy:Cd:=.seq (.seq (.reg false [ld 4 Za 0,
    ld 5 (.int .i64) 1,
    ld 6 (.int .i64) 2,
    o_ 7 (.call (.f 101) [(.t 4),(.t 5),(.t 6)] [.d .bool] [] false),
    mv 3 7]) (AR0)) (ARz)
def Jf.fn:Fn:=⟨3,[.tmp 3],.seq (.reg false [o_ 3 (.move (.c .bool false))]) (ARy)⟩
def AR6:Cd:=td [5,6,7,8,9,10]
def AR5:Cd:=.ret
def AR4:Cd:=.seq (.seq (.reg false [ld 5 Za 2,
    mv 6 1,
    o_ 7 (.call (.f 131) [(.t 5),(.t 6)] [.clo 138 [.ref Za,.ref (.int .i64)]] [] false),
    o_ 8 (.call (.f 132) [(.t 7)] [.d (.sl Zb)] [] false),
    le 9 8,
    bc 10 .sub 9 1,
    mv 4 10]) (AR6)) (AR5)
def Ja.fn:Fn:=⟨2,[.tmp 4],.seq (.reg false [bx 2 0 0,
    ci 4 0]) (AR4)⟩
def ASa:Cd:=td [7,8]
def ASe:Cd:=.skip
def ANq:Cd:=.exit 0
def ANj:Cd:=td [12]
def ANl:Cd:=td [13,14,15]
def ANn:Cd:=td [17,18,19,20,21,22,23,24,25]
def ANm:Cd:=.seq (.reg true [mv 17 5,
    od 18 (.load (.d Za) (.t 2)) [0] [],
    mv 19 6,
    o_ 20 (.call (.f 103) [(.t 18),(.t 19)] [.d (.int .i64)] [] false),
    od 21 (.load (.d Za) (.t 2)) [0] [],
    mv 22 1,
    o_ 23 (.call (.f 103) [(.t 21),(.t 22)] [.d (.int .i64)] [] false),
    bi 24 .sub 20 23,
    o_ 25 (.max [(.t 17),(.t 24)]),
    mv 5 25]) (ANn)
def ANp:Cd:=.skip
def ANk:Cd:=.cond (.t 16) (.seq (td [16]) (ANm)) (.seq (td [16]) (ANp))
def ANi:Cd:=.seq (.seq (.reg false [ld 13 Za 2,
    mv 14 6,
    mv 15 1,
    o_ 16 (.call (.f 101) [(.t 13),(.t 14),(.t 15)] [.d .bool] [] false)]) (ANl)) (ANk)
def ANo:Cd:=td [26]
def ANh:Cd:=.seq (.reg false [bc 26 .add 10 1,
    mv 10 26]) (ANo)
def ASd:Cd:=.seq (.block 1 (.seq (.seq (.reg false [mv 12 10,
    mv 6 12]) (ANj)) (ANi))) (ANh)
def ASc:Cd:=.seq (.cond (.t 11) (.seq (td [11]) (ASe)) (.seq (td [11]) (ANq))) (ASd)
def ASb:Cd:=.tidy [6] [] [] (some 1)
def AJz:Cd:=.seq (.seq (.reg false [bi 11 .lss 10 9]) (ASc)) (ASb)
def AR9:Cd:=.block 0 (.loop (AJz))
def ANs:Cd:=td [27]
def ANr:Cd:=.ret
def AJy:Cd:=.seq (.seq (.reg false [mv 27 5,
    mv 4 27]) (ANs)) (ANr)
def AR8:Cd:=.seq (.seq (.seq (.reg false [fa 7 Za 3 2,
    ld 8 (.sl Zb) 7,
    le 9 8,
    ci 10 0]) (ASa)) (AR9)) (AJy)
def AR7:Cd:=.seq (.reg false [ci 5 0]) (AR8)
def Xh.fn:Fn:=⟨2,[.tmp 4],.seq (.reg false [bx 2 0 0,
    ci 4 0]) (AR7)⟩
def AR3:Cd:=td [4,5,6,7,8,9,10,11,12]
def AR2:Cd:=.ret
def AR1:Cd:=.seq (.seq (.reg true [ld 4 Za 0,
    ld 5 (.int .i64) 1,
    o_ 6 (.call (.f 103) [(.t 4),(.t 5)] [.d (.int .i64)] [] false),
    bc 7 .add 6 1,
    ld 8 Za 0,
    ld 9 (.int .i64) 2,
    o_ 10 (.call (.f 104) [(.t 8),(.t 9)] [.d (.int .i64)] [] false),
    bi 11 .add 7 10,
    bc 12 .gtr 11 4,
    mv 3 12]) (AR3)) (AR2)
def Jg.fn:Fn:=⟨3,[.tmp 3],.seq (.reg false [o_ 3 (.move (.c .bool false))]) (AR1)⟩
def ASh:Cd:=td [3,4,5,6]
def ASg:Cd:=.ret
def ASf:Cd:=.seq (.seq (.reg false [ld 3 Za 0,
    ld 4 Zb 1,
    o_ 5 (.call (.f 106) [(.t 3),(.t 4)] [.d (.int .i64)] [] false),
    bc 6 .lss 5 1,
    mv 2 6]) (ASh)) (ASg)
def Jh.fn:Fn:=⟨2,[.tmp 2],.seq (.reg false [o_ 2 (.move (.c .bool false))]) (ASf)⟩
def BNi:Cd:=td [13,14,15,16]
def BNk:Cd:=td [17,18,19,20,21,22,23,24,25,26,27,28,29,30]
def BNn:Cd:=td [31]
def BCp:Cd:=td [33,34]
def BNp:Cd:=.ret
def BNo:Cd:=.seq (.seq (.reg false [ld 33 Za 4,
    mv 34 12,
    sr Za 8 33,
    mv 9 34]) (BCp)) (BNp)
def BCq:Cd:=.skip
def BNm:Cd:=.cond (.t 32) (.seq (td [32]) (BNo)) (.seq (td [32]) (BCq))
def BCs:Cd:=td [35,36,37,38]
def BCr:Cd:=.ret
def BNl:Cd:=.seq (.seq (.reg false [ld 35 Za 4,
    ld 36 (.int .i64) 6,
    ld 37 Zb 11,
    o_ 38 (.call (.f 107) [(.t 35),(.t 36),(.t 37)] [.d Za] [] false),
    sr Za 8 38,
    ci 9 0]) (BCs)) (BCr)
def BNj:Cd:=.seq (.seq (.seq (.reg false [mv 31 12,
    bc 32 .neq 31 0]) (BNn)) (BNm)) (BNl)
def BNh:Cd:=.seq (.seq (.reg false [o_ 17 (.func 95 [(.t 4),(.t 6),(.t 7)]),
    o_ 18 (.buildv [1,1] [(.t 17),(.c (.int .i64) (3:Int))]),
    o_ 19 (.func 97 [(.t 4),(.t 6),(.t 10),(.t 5),(.t 7)]),
    o_ 20 (.buildv [1,1] [(.t 19),(.c (.int .i64) (5:Int))]),
    o_ 21 (.func 99 [(.t 4),(.t 7)]),
    o_ 22 (.buildv [1,1] [(.t 21),(.c (.int .i64) (6:Int))]),
    o_ 23 (.func 100 [(.t 4),(.t 7),(.t 6)]),
    o_ 24 (.buildv [1,1] [(.t 23),(.c (.int .i64) (7:Int))]),
    o_ 25 (.func 102 [(.t 4),(.t 7),(.t 6)]),
    o_ 26 (.buildv [1,1] [(.t 25),(.c (.int .i64) (8:Int))]),
    o_ 27 (.func 105 [(.t 4),(.t 11)]),
    o_ 28 (.buildv [1,1] [(.t 27),(.c (.int .i64) (9:Int))]),
    o_ 29 (.slicev 2 [(.t 18),(.t 20),(.t 22),(.t 24),(.t 26),(.t 28)]),
    o_ 30 (.call (.f 94) [(.t 29)] [.d (.int .i64)] [] false),
    mv 12 30]) (BNk)) (BNj)
def BNg:Cd:=.seq (.seq (.reg true [od 13 (.load (.d (.int .i64)) (.t 5)) [1] [],
    o_ 14 (.build Zb [(0,(.c (.int .i64) (1:Int))),(1,(.t 13))] []),
    od 15 (.load (.d (.int .i64)) (.t 7)) [3] [],
    o_ 16 (.build Zb [(0,(.c (.int .i64) (2:Int))),(1,(.t 15))] []),
    od 10 (.newbox 5 Zb []) [] [5],
    od 11 (.newbox 6 Zb []) [] [6],
    ⟨none,.store (.d Zb) (.t 10) (.t 14),none,[],[5]⟩,
    ⟨none,.store (.d Zb) (.t 11) (.t 16),none,[],[6]⟩]) (BNi)) (BNh)
def V1.fn:Fn:=⟨4,[.cell 8 (.d Za),.tmp 9],.seq (.reg false [bx 4 0 0,
    bx 5 1 1,
    bx 6 2 2,
    bx 7 3 3,
    nb 8 4 Za,
    ci 9 0]) (BNg)⟩
def BNf:Cd:=td [8,9,10,11,12,13,14,15,16]
def BNe:Cd:=.ret
def BNd:Cd:=.seq (.seq (.reg false [ld 8 Za 3,
    mv 9 1,
    fa 10 Zw 2 5,
    ld 11 (.int .i64) 10,
    fa 12 Zw 3 5,
    ld 13 (.int .i64) 12,
    o_ 14 (.call (.f 62) [(.t 8),(.t 9),(.t 11),(.t 13)] [.d Za,.d (.int .i64)] [] false),
    xt 15 14 0,
    xt 16 14 1,
    sr Za 6 15,
    mv 7 16]) (BNf)) (BNe)
def Qh.fn:Fn:=⟨3,[.cell 6 (.d Za),.tmp 7],.seq (.reg false [bx 3 0 0,
    bx 5 1 2,
    nb 6 2 Za,
    ci 7 0]) (BNd)⟩
def BS6:Cd:=td [6,7,8,9,10,11,12,13]
def BS5:Cd:=.ret
def BS4:Cd:=.seq (.seq (.reg false [fa 6 Za 1 2,
    o_ 7 (.load (.d (.sl (.int .i64))) (.t 6)),
    mv 8 1,
    ix 9 (.sl (.int .i64)) 7 8,
    ld 10 (.int .i64) 9,
    o_ 11 (.build Zb [(0,(.c (.int .i64) (0:Int))),(1,(.t 10))] []),
    mv 12 1,
    o_ 13 (.build Zb [(0,(.c (.int .i64) (1:Int))),(1,(.t 12))] []),
    sr Zb 4 11,
    sr Zb 5 13]) (BS6)) (BS5)
def Qx.fn:Fn:=⟨2,[.cell 4 (.d Zb),.cell 5 (.d Zb)],.seq (.reg false [bx 2 0 0,
    nb 4 1 Zb,
    nb 5 2 Zb]) (BS4)⟩
def BTa:Cd:=td [11,12,13,14,15,16,17,18,19]
def BTd:Cd:=td [20]
def BTc:Cd:=.ret
def BTb:Cd:=.seq (.seq (.reg false [ld 20 Za 4,
    sr Za 8 20,
    ci 9 3]) (BTd)) (BTc)
def BTg:Cd:=td [22,23,24,25,26,27,28]
def BF6:Cd:=td [29]
def BF5:Cd:=.ret
def BF4:Cd:=.seq (.seq (.reg false [ld 29 Za 4,
    sr Za 8 29,
    ci 9 5]) (BF6)) (BF5)
def BF9:Cd:=td [31,32,33,34]
def BGc:Cd:=td [35]
def BGb:Cd:=.ret
def BGa:Cd:=.seq (.seq (.reg false [ld 35 Za 4,
    sr Za 8 35,
    ci 9 9]) (BGc)) (BGb)
def BGd:Cd:=.skip
def BF8:Cd:=.cond (.t 30) (.seq (td [30]) (BGa)) (.seq (td [30]) (BGd))
def BF7:Cd:=.seq (.seq (.reg false [ld 31 Za 4,
    ld 32 Zb 7,
    o_ 33 (.call (.f 106) [(.t 31),(.t 32)] [.d (.int .i64)] [] false),
    bc 34 .lss 33 1,
    mv 30 34]) (BF9)) (BF8)
def BTf:Cd:=.cond (.t 21) (.seq (td [21]) (BF4)) (.seq (td [21]) (BF7))
def BTe:Cd:=.seq (.seq (.reg true [od 22 (.fieldAddr (.d Za) 3 (.t 4)) [0] [],
    od 23 (.load (.d (.sl Zb)) (.t 22)) [0] [],
    mv 24 1,
    ix 25 (.sl Zb) 23 24,
    ld 26 Zb 25,
    od 27 (.load (.d Zb) (.t 6)) [1] [],
    o_ 28 (.eqs Zb true (.t 26) (.t 27)),
    mv 21 28]) (BTg)) (BTf)
def BS9:Cd:=.cond (.t 10) (.seq (td [10]) (BTb)) (.seq (td [10]) (BTe))
def BGf:Cd:=td [36,37,38,39]
def BGe:Cd:=.ret
def BS8:Cd:=.seq (.seq (.reg false [ld 36 Za 4,
    mv 37 1,
    ld 38 Zb 7,
    o_ 39 (.call (.f 107) [(.t 36),(.t 37),(.t 38)] [.d Za] [] false),
    sr Za 8 39,
    ci 9 0]) (BGf)) (BGe)
def BS7:Cd:=.seq (.block 0 (.seq (.seq (.reg false [mv 11 1,
    bc 12 .lss 11 0,
    mv 13 12,
    og 14 (.move (.t 1)) 13 false,
    og 15 (.fieldAddr (.d Za) 3 (.t 4)) 13 false,
    og 16 (.load (.d (.sl Zb)) (.t 15)) 13 false,
    og 17 (.len (.t 16)) 13 false,
    og 18 (.bin .geq (.t 14) (.t 17)) 13 false,
    o_ 19 (.pick (.t 13) (.c .bool true) (.t 18)),
    mv 10 19]) (BTa)) (BS9))) (BS8)
def Vp.fn:Fn:=⟨4,[.cell 8 (.d Za),.tmp 9],.seq (.reg false [bx 4 0 0,
    bx 6 1 2,
    bx 7 2 3,
    nb 8 3 Za,
    ci 9 0]) (BS7)⟩
def BNa:Cd:=td [10,11,12,13,14,15]
def BNc:Cd:=td [16,17,18,19,20,21,22]
def BNb:Cd:=.ret
def BM9:Cd:=.seq (.seq (.reg false [ld 16 Za 3,
    mv 17 2,
    ld 18 Zb 9,
    ld 19 Zb 8,
    o_ 20 (.call (.f 93) [(.t 16),(.t 17),(.t 18),(.t 19)] [.d Za,.d (.int .i64)] [] false),
    xt 21 20 0,
    xt 22 20 1,
    sr Za 6 21,
    mv 7 22]) (BNc)) (BNb)
def BM8:Cd:=.seq (.seq (.reg false [ld 11 Za 3,
    mv 12 1,
    o_ 13 (.call (.f 92) [(.t 11),(.t 12)] [.d Zb,.d Zb] [] false),
    mv 10 13,
    xt 14 10 0,
    xt 15 10 1,
    nb 8 2 Zb,
    nb 9 3 Zb,
    sr Zb 8 14,
    sr Zb 9 15]) (BNa)) (BM9)
def V5.fn:Fn:=⟨3,[.cell 6 (.d Za),.tmp 7],.seq (.reg false [bx 3 0 0,
    nb 6 1 Za,
    ci 7 0]) (BM8)⟩
def BM7:Cd:=td [8,9,10,11,12,13,14]
def BM6:Cd:=.ret
def BM5:Cd:=.seq (.seq (.reg false [ld 8 Za 3,
    mv 9 1,
    fa 10 Zw 2 5,
    ld 11 (.int .i64) 10,
    o_ 12 (.call (.f 60) [(.t 8),(.t 9),(.t 11)] [.d Za,.d (.int .i64)] [] false),
    xt 13 12 0,
    xt 14 12 1,
    sr Za 6 13,
    mv 7 14]) (BM7)) (BM6)
def Qg.fn:Fn:=⟨3,[.cell 6 (.d Za),.tmp 7],.seq (.reg false [bx 3 0 0,
    bx 5 1 2,
    nb 6 2 Za,
    ci 7 0]) (BM5)⟩
def BM2:Cd:=td [10,11,12,13,14,15]
def BM4:Cd:=td [16,17,18,19,20,21,22]
def BM3:Cd:=.ret
def BM1:Cd:=.seq (.seq (.reg false [ld 16 Za 3,
    mv 17 2,
    ld 18 Zb 8,
    ld 19 Zb 9,
    o_ 20 (.call (.f 93) [(.t 16),(.t 17),(.t 18),(.t 19)] [.d Za,.d (.int .i64)] [] false),
    xt 21 20 0,
    xt 22 20 1,
    sr Za 6 21,
    mv 7 22]) (BM4)) (BM3)
def BM0:Cd:=.seq (.seq (.reg false [ld 11 Za 3,
    mv 12 1,
    o_ 13 (.call (.f 92) [(.t 11),(.t 12)] [.d Zb,.d Zb] [] false),
    mv 10 13,
    xt 14 10 0,
    xt 15 10 1,
    nb 8 2 Zb,
    nb 9 3 Zb,
    sr Zb 8 14,
    sr Zb 9 15]) (BM2)) (BM1)
def Hb.fn:Fn:=⟨3,[.cell 6 (.d Za),.tmp 7],.seq (.reg false [bx 3 0 0,
    nb 6 1 Za,
    ci 7 0]) (BM0)⟩
def BMz:Cd:=td [8,9,10,11,12,13,14]
def BMy:Cd:=.ret
def BMx:Cd:=.seq (.seq (.reg false [ld 8 Za 3,
    mv 9 1,
    fa 10 Zw 2 5,
    ld 11 (.int .i64) 10,
    o_ 12 (.call (.f 58) [(.t 8),(.t 9),(.t 11)] [.d Za,.d (.int .i64)] [] false),
    xt 13 12 0,
    xt 14 12 1,
    sr Za 6 13,
    mv 7 14]) (BMz)) (BMy)
def Qf.fn:Fn:=⟨3,[.cell 6 (.d Za),.tmp 7],.seq (.reg false [bx 3 0 0,
    bx 5 1 2,
    nb 6 2 Za,
    ci 7 0]) (BMx)⟩
def BSm:Cd:=td [7]
def BSl:Cd:=.ret
def BSk:Cd:=.seq (.seq (.reg false [o_ 7 (.func 128 [(.t 5),(.t 3),(.t 4)]),
    mv 6 7]) (BSm)) (BSl)
def Vv.fn:Fn:=⟨3,[.tmp 6],.seq (.reg false [bx 3 0 0,
    bx 4 1 1,
    bx 5 2 2,
    o_ 6 (.move .nf)]) (BSk)⟩
def BSs:Cd:=td [5,6,7,8,9,10,11,12,13]
def BSu:Cd:=.ret
def BSt:Cd:=.seq (.reg false [ci 3 3]) (BSu)
def BSx:Cd:=td [15,16,17]
def BFw:Cd:=.ret
def BSy:Cd:=.seq (.reg false [ci 3 12]) (BFw)
def BFz:Cd:=td [19,20,21,22,23,24,25,26,27,28,29]
def BF1:Cd:=.ret
def BF0:Cd:=.seq (.reg false [ci 3 5]) (BF1)
def BF2:Cd:=.skip
def BFy:Cd:=.cond (.t 18) (.seq (td [18]) (BF0)) (.seq (td [18]) (BF2))
def BFx:Cd:=.seq (.seq (.reg true [fa 19 Za 1 1,
    o_ 20 (.load (.d (.sl (.int .i64))) (.t 19)),
    ld 21 (.int .i64) 0,
    ix 22 (.sl (.int .i64)) 20 21,
    ld 23 (.int .i64) 22,
    fa 24 Za 1 1,
    o_ 25 (.load (.d (.sl (.int .i64))) (.t 24)),
    ld 26 (.int .i64) 2,
    ix 27 (.sl (.int .i64)) 25 26,
    ld 28 (.int .i64) 27,
    bi 29 .neq 23 28,
    mv 18 29]) (BFz)) (BFy)
def BSw:Cd:=.cond (.t 14) (.seq (td [14]) (BSy)) (.seq (td [14]) (BFx))
def BSv:Cd:=.seq (.seq (.reg false [ld 15 (.int .i64) 0,
    ld 16 (.int .i64) 2,
    bi 17 .eql 15 16,
    mv 14 17]) (BSx)) (BSw)
def BSr:Cd:=.cond (.t 4) (.seq (td [4]) (BSt)) (.seq (td [4]) (BSv))
def BF3:Cd:=.ret
def BSq:Cd:=.seq (.reg false [ci 3 0]) (BF3)
def BSp:Cd:=.seq (.block 0 (.seq (.seq (.reg false [ld 5 (.int .i64) 0,
    bc 6 .lss 5 0,
    mv 7 6,
    og 8 (.load (.d (.int .i64)) (.t 0)) 7 false,
    og 9 (.fieldAddr (.d Za) 1 (.t 1)) 7 false,
    og 10 (.load (.d (.sl (.int .i64))) (.t 9)) 7 false,
    og 11 (.len (.t 10)) 7 false,
    og 12 (.bin .geq (.t 8) (.t 11)) 7 false,
    o_ 13 (.pick (.t 7) (.c .bool true) (.t 12)),
    mv 4 13]) (BSs)) (BSr))) (BSq)
def Jj.fn:Fn:=⟨3,[.tmp 3],.seq (.reg false [ci 3 0]) (BSp)⟩
def AVi:Cd:=td [9,10,11,12,13,14,15,16]
def AVk:Cd:=td [17,18,19,20]
def AVj:Cd:=.ret
def AVh:Cd:=.seq (.seq (.reg false [mv 17 8,
    o_ 18 (.max [(.t 17),(.c (.int .i64) (0:Int))]),
    mv 19 8,
    bc 20 .geq 19 0,
    mv 6 18,
    mv 7 20]) (AVk)) (AVj)
def AVg:Cd:=.seq (.seq (.reg false [fa 9 Za 0 3,
    fa 10 Z4 0 9,
    o_ 11 (.load (.d (.sl (.arr 4 (.int .i64)))) (.t 10)),
    mv 12 1,
    mv 13 2,
    o_ 14 (.index (.sl (.arr 4 (.int .i64))) (.t 11) (.t 12)),
    o_ 15 (.index (.arr 4 (.int .i64)) (.t 14) (.t 13)),
    ld 16 (.int .i64) 15,
    mv 8 16]) (AVi)) (AVh)
def J8.fn:Fn:=⟨3,[.tmp 6,.tmp 7],.seq (.reg false [bx 3 0 0,
    ci 6 0,
    o_ 7 (.move (.c .bool false))]) (AVg)⟩
def AU9:Cd:=td [12,13]
def AVb:Cd:=td [14]
def AVe:Cd:=td [16,17]
def AVd:Cd:=.ret
def AVc:Cd:=.seq (.seq (.reg false [ld 16 Za 2,
    mv 17 8,
    sr Za 5 16,
    ci 6 0,
    mv 7 17]) (AVe)) (AVd)
def AVf:Cd:=.skip
def AVa:Cd:=.cond (.t 15) (.seq (td [15]) (AVc)) (.seq (td [15]) (AVf))
def AU8:Cd:=.seq (.seq (.reg false [mv 14 8,
    bc 15 .neq 14 0]) (AVb)) (AVa)
def APi:Cd:=td [18,19,20,21,22,23,24,25,26,27,28]
def APl:Cd:=td [29]
def APo:Cd:=td [31]
def APn:Cd:=.ret
def APm:Cd:=.seq (.seq (.reg false [ld 31 Za 2,
    sr Za 5 31,
    ci 6 0,
    ci 7 4]) (APo)) (APn)
def APp:Cd:=.skip
def APk:Cd:=.cond (.t 30) (.seq (td [30]) (APm)) (.seq (td [30]) (APp))
def APr:Cd:=td [32,33]
def APt:Cd:=td [34,35,36,37,38]
def APv:Cd:=td [39,40]
def APu:Cd:=.ret
def APs:Cd:=.seq (.seq (.reg false [ld 39 Za 11,
    mv 40 9,
    sr Za 5 39,
    mv 6 40,
    ci 7 0]) (APv)) (APu)
def APq:Cd:=.seq (.seq (.reg false [fa 34 Za 1 11,
    o_ 35 (.load (.d (.sl (.int .i64))) (.t 34)),
    mv 36 0,
    mv 37 9,
    ix 38 (.sl (.int .i64)) 35 36,
    sr (.int .i64) 38 37]) (APt)) (APs)
def APj:Cd:=.seq (.seq (.reg false [ld 32 Za 2,
    o_ 33 (.call (.f 122) [(.t 32)] [.d Za] [((0,[1]),2)] false),
    nb 11 1 Za,
    sr Za 11 33]) (APr)) (APq)
def APh:Cd:=.seq (.seq (.seq (.reg false [mv 29 10,
    nt 30 29]) (APl)) (APk)) (APj)
def AU7:Cd:=.seq (.seq (.reg true [ld 19 Za 2,
    fa 20 Za 1 2,
    o_ 21 (.load (.d (.sl (.int .i64))) (.t 20)),
    mv 22 0,
    ix 23 (.sl (.int .i64)) 21 22,
    ld 24 (.int .i64) 23,
    ld 25 (.int .i64) 3,
    o_ 26 (.call (.f 129) [(.t 19),(.t 24),(.t 25)] [.d (.int .i64),.d .bool] [] false),
    mv 18 26,
    xt 27 18 0,
    xt 28 18 1,
    mv 9 27,
    mv 10 28]) (APi)) (APh)
def AU6:Cd:=.seq (.seq (.seq (.reg false [o_ 12 (.load (.v false 1) (.t 1)),
    o_ 13 (.call (.t 12) [] [.d (.int .i64)] [] false),
    mv 8 13]) (AU9)) (AU8)) (AU7)
def Qs.fn:Fn:=⟨4,[.cell 5 (.d Za),.tmp 6,.tmp 7],.seq (.reg false [nb 5 0 Za,
    ci 6 0,
    ci 7 0]) (AU6)⟩
def BMt:Cd:=.reg true [od 11 (.load (.d Za) (.t 4)) [0] [],
    mv 12 3,
    o_ 13 (.func 90 [(.t 6),(.t 4),(.t 5)]),
    od 14 (.call (.f 88) [(.t 11),(.t 12),(.t 13)] [.clo 128 [.refv (.clo 90 [.ref (.int .i64),.ref Za,.ref (.int .i64)]),.ref Za,.ref (.int .i64)]] [] false) [0,1,2] [],
    od 15 (.load (.d (.int .i64)) (.t 6)) [2] [],
    o_ 16 (.call (.t 14) [(.t 15)] [.d Za,.d (.int .i64),.d (.int .i64)] [] false),
    xt 17 16 0,
    xt 18 16 1,
    xt 19 16 2,
    ⟨none,.store (.d Za) (.t 8) (.t 17),none,[],[3]⟩,
    mv 9 18,
    mv 10 19]
def BMs:Cd:=td [11,12,13,14,15,16,17,18,19]
def BMr:Cd:=.ret
def BMq:Cd:=.seq (.seq (.seq (.frz [0,1,2]) (BMt)) (BMs)) (BMr)
def V8.fn:Fn:=⟨4,[.cell 8 (.d Za),.tmp 9,.tmp 10],.seq (.reg false [bx 4 0 0,
    bx 5 1 1,
    bx 6 2 2,
    nb 8 3 Za,
    ci 9 0,
    ci 10 0]) (BMq)⟩
def BMp:Cd:=td [9,10,11,12,13,14,15,16,17,18]
def BMo:Cd:=.ret
def BMn:Cd:=.seq (.seq (.reg false [ld 9 Za 3,
    mv 10 1,
    fa 11 Zw 4 5,
    ld 12 (.int .i64) 11,
    fa 13 Zw 1 5,
    ld 14 (.int .i64) 13,
    o_ 15 (.call (.f 55) [(.t 9),(.t 10),(.t 12),(.t 14)] [.d Za,.d (.int .i64),.d (.int .i64)] [] false),
    xt 16 15 0,
    xt 17 15 1,
    xt 18 15 2,
    sr Za 6 16,
    mv 7 17,
    mv 8 18]) (BMp)) (BMo)
def Qe.fn:Fn:=⟨3,[.cell 6 (.d Za),.tmp 7,.tmp 8],.seq (.reg false [bx 3 0 0,
    bx 5 1 2,
    nb 6 2 Za,
    ci 7 0,
    ci 8 0]) (BMn)⟩
def BR7:Cd:=td [12,13,14,15,16,17,18,19,20]
def BR9:Cd:=td [21,22,23,24,25,26]
def BR8:Cd:=.ret
def BR6:Cd:=.seq (.seq (.reg true [od 21 (.load (.d Za) (.t 9)) [4] [],
    od 22 (.fieldAddr (.d Zw) 0 (.t 6)) [1] [],
    od 23 (.load (.d (.int .i64)) (.t 22)) [1] [],
    mv 24 10,
    mv 25 11,
    o_ 26 (.call (.f 87) [(.t 23),(.t 24),(.t 25)] [.d Zn] [] false),
    ⟨none,.store (.d Za) (.t 7) (.t 21),none,[],[2]⟩,
    ⟨none,.store (.d Zn) (.t 8) (.t 26),none,[],[3]⟩]) (BR9)) (BR8)
def BR5:Cd:=.seq (.seq (.reg false [o_ 13 (.load (.v false 1) (.t 3)),
    ld 14 Za 4,
    mv 15 1,
    ld 16 Zw 6,
    o_ 17 (.call (.t 13) [(.t 14),(.t 15),(.t 16)] [.d Za,.d (.int .i64),.d (.int .i64)] [] false),
    mv 12 17,
    xt 18 12 0,
    xt 19 12 1,
    xt 20 12 2,
    nb 9 4 Za,
    sr Za 9 18,
    mv 10 19,
    mv 11 20]) (BR7)) (BR6)
def Qk.fn:Fn:=⟨4,[.cell 7 (.d Za),.cell 8 (.d Zn)],.seq (.reg false [bx 4 0 0,
    bx 6 1 2,
    nb 7 2 Za,
    nb 8 3 Zn]) (BR5)⟩
def BSo:Cd:=.ret
def BSn:Cd:=.seq (.reg false [ci 0 0]) (BSo)
def J3.fn:Fn:=⟨0,[.tmp 0],.seq (.reg false [ci 0 0]) (BSn)⟩
def BMm:Cd:=td [9,10,11,12,13,14,15,16]
def BMl:Cd:=.ret
def BMk:Cd:=.seq (.seq (.reg false [ld 9 Za 3,
    mv 10 2,
    o_ 11 (.call (.f 88) [(.t 9),(.t 10),(.f 89)] [.clo 128 [.refv (.clo 89 []),.ref Za,.ref (.int .i64)]] [] false),
    mv 12 1,
    o_ 13 (.call (.t 11) [(.t 12)] [.d Za,.d (.int .i64),.d (.int .i64)] [] false),
    xt 14 13 0,
    xt 15 13 1,
    xt 16 13 2,
    sr Za 6 14,
    mv 7 15,
    mv 8 16]) (BMm)) (BMl)
def V7.fn:Fn:=⟨3,[.cell 6 (.d Za),.tmp 7,.tmp 8],.seq (.reg false [bx 3 0 0,
    nb 6 1 Za,
    ci 7 0,
    ci 8 0]) (BMk)⟩
def BMj:Cd:=td [9,10,11,12,13,14,15,16]
def BMi:Cd:=.ret
def BMh:Cd:=.seq (.seq (.reg false [ld 9 Za 3,
    mv 10 1,
    fa 11 Zw 1 5,
    ld 12 (.int .i64) 11,
    o_ 13 (.call (.f 53) [(.t 9),(.t 10),(.t 12)] [.d Za,.d (.int .i64),.d (.int .i64)] [] false),
    xt 14 13 0,
    xt 15 13 1,
    xt 16 13 2,
    sr Za 6 14,
    mv 7 15,
    mv 8 16]) (BMj)) (BMi)
def Qd.fn:Fn:=⟨3,[.cell 6 (.d Za),.tmp 7,.tmp 8],.seq (.reg false [bx 3 0 0,
    bx 5 1 2,
    nb 6 2 Za,
    ci 7 0,
    ci 8 0]) (BMh)⟩
def BH2:Cd:=td [8,9]
def BH5:Cd:=td [11,12]
def BH4:Cd:=.ret
def BH3:Cd:=.seq (.seq (.reg false [ld 11 Za 3,
    o_ 12 (.build Zn [(0,(.c (.int .i64) (2:Int)))] []),
    sr Za 6 11,
    sr Zn 7 12]) (BH5)) (BH4)
def BH6:Cd:=.skip
def BH1:Cd:=.cond (.t 10) (.seq (td [10]) (BH3)) (.seq (td [10]) (BH6))
def BH8:Cd:=td [13,14,15,16,17,18,19,20,21,22]
def BH7:Cd:=.ret
def BH0:Cd:=.seq (.seq (.reg true [o_ 13 (.call (.f 22) [] [.fmap [1,2,3,4,5,6,7,8,9,10] [.clo 86 [.refv (.clo 52 [])],.clo 86 [.refv (.clo 54 [])],.clo 91 [.refv (.clo 57 [])],.clo 91 [.refv (.clo 59 [])],.clo 91 [.refv (.clo 61 [])],.clo 91 [.refv (.clo 63 [])],.clo 91 [.refv (.clo 65 [])],.clo 91 [.refv (.clo 67 [])],.clo 123 [.refv (.clo 69 [])],.clo 123 [.refv (.clo 70 [])]]] [] false),
    od 14 (.fieldAddr (.d Zw) 0 (.t 5)) [1] [],
    od 15 (.load (.d (.int .i64)) (.t 14)) [1] [],
    o_ 16 (.lookv (.t 13) (.t 15) false),
    od 17 (.load (.d Za) (.t 3)) [0] [],
    mv 18 1,
    od 19 (.load (.d Zw) (.t 5)) [1] [],
    o_ 20 (.call (.t 16) [(.t 17),(.t 18),(.t 19)] [.d Za,.d Zn] [] false),
    xt 21 20 0,
    xt 22 20 1,
    ⟨none,.store (.d Za) (.t 6) (.t 21),none,[],[2]⟩,
    ⟨none,.store (.d Zn) (.t 7) (.t 22),none,[],[3]⟩]) (BH8)) (BH7)
def BHz:Cd:=.seq (.seq (.seq (.reg false [ld 8 Zw 5,
    o_ 9 (.call (.f 21) [(.t 8)] [.d .bool] [] false),
    nt 10 9]) (BH2)) (BH1)) (BH0)
def Q0.fn:Fn:=⟨3,[.cell 6 (.d Za),.cell 7 (.d Zn)],.seq (.reg false [bx 3 0 0,
    bx 5 1 2,
    nb 6 2 Za,
    nb 7 3 Zn]) (BHz)⟩
def BJd:Cd:=.skip
def AXz:Cd:=.exit 0
def AXs:Cd:=td [15,16]
def AXu:Cd:=td [17,18,19,20,21,22,23,24,25]
def AXw:Cd:=td [26]
def AXx:Cd:=td [27,28,29,30]
def AXv:Cd:=.seq (.reg false [mv 27 6,
    ld 28 Zn 10,
    o_ 29 (.slice 5 Zn [(.t 28)]),
    o_ 30 (.append 6 Zn (.t 27) (.t 29)),
    mv 6 30]) (AXx)
def AXt:Cd:=.seq (.seq (.reg false [ld 26 Za 9,
    sr Za 2 26]) (AXw)) (AXv)
def AXr:Cd:=.seq (.seq (.reg false [ld 18 Za 2,
    fa 19 Ob 0 8,
    ld 20 (.int .i64) 19,
    fa 21 Ob 1 8,
    ld 22 Zw 21,
    o_ 23 (.call (.f 10) [(.t 18),(.t 20),(.t 22)] [.d Za,.d Zn] [] false),
    mv 17 23,
    xt 24 17 0,
    xt 25 17 1,
    nb 9 3 Za,
    nb 10 4 Zn,
    sr Za 9 24,
    sr Zn 10 25]) (AXu)) (AXt)
def AXy:Cd:=td [31]
def BJe:Cd:=.seq (.reg false [bc 31 .add 13 1,
    mv 13 31]) (AXy)
def BJc:Cd:=.seq (.block 1 (.seq (.seq (.reg false [ix 15 (.sl Ob) 11 13,
    ld 16 Ob 15,
    nb 8 2 Ob,
    sr Ob 8 16]) (AXs)) (AXr))) (BJe)
def BJb:Cd:=.seq (.cond (.t 14) (.seq (td [14]) (BJd)) (.seq (td [14]) (AXz))) (BJc)
def BJa:Cd:=.tidy [8,9,10] [(6,7)] [2,3,4,5] (some 8)
def BI9:Cd:=.seq (.seq (.reg false [bi 14 .lss 13 12]) (BJb)) (BJa)
def BI8:Cd:=.block 0 (.loop (BI9))
def AX1:Cd:=td [32,33]
def AX0:Cd:=.ret
def BI7:Cd:=.seq (.seq (.reg false [ld 32 Za 2,
    mv 33 6,
    sr Za 4 32,
    mv 5 33]) (AX1)) (AX0)
def BI6:Cd:=.seq (.seq (.reg false [mv 11 1,
    le 12 11,
    ci 13 0]) (BI8)) (BI7)
def BI5:Cd:=.seq (.reg false [o_ 6 (.mknil 7 Zn)]) (BI6)
def Wv.fn:Fn:=⟨2,[.cell 4 (.d Za),.tmp 5],.seq (.reg false [bx 2 0 0,
    nb 4 1 Za,
    o_ 5 (.move (.c (.sl Zn) []))]) (BI5)⟩
def BJq:Cd:=td [6,7,8,9]
def BJs:Cd:=.ret
def BJr:Cd:=.seq (.reg false [o_ 4 (.move (.c .bool false))]) (BJs)
def BJt:Cd:=.skip
def BJp:Cd:=.cond (.t 10) (.seq (td [10]) (BJr)) (.seq (td [10]) (BJt))
def AX5:Cd:=td [11,12,13]
def AX6:Cd:=.skip
def AYe:Cd:=.exit 0
def AX4:Cd:=.cond (.t 14) (.seq (td [14]) (AX6)) (.seq (td [14]) (AYe))
def AX9:Cd:=td [17,18,19,20,21,22,23,24]
def AYb:Cd:=.ret
def AYa:Cd:=.seq (.reg false [o_ 4 (.move (.c .bool false))]) (AYb)
def AYc:Cd:=.skip
def AX8:Cd:=.cond (.t 25) (.seq (td [25]) (AYa)) (.seq (td [25]) (AYc))
def AYd:Cd:=td [15,16]
def AX7:Cd:=.seq (.reg false [mv 15 5,
    bc 16 .add 15 1,
    mv 5 16]) (AYd)
def AX3:Cd:=.seq (.block 1 (.seq (.seq (.reg true [mv 17 0,
    mv 18 5,
    ix 19 (.sl (.int .i64)) 17 18,
    ld 20 (.int .i64) 19,
    mv 21 1,
    mv 22 5,
    ix 23 (.sl (.int .i64)) 21 22,
    ld 24 (.int .i64) 23,
    bi 25 .neq 20 24]) (AX9)) (AX8))) (AX7)
def AX2:Cd:=.tidy [] [] [] (some 0)
def BJw:Cd:=.seq (.seq (.seq (.seq (.reg false [mv 11 5,
    mv 12 0,
    le 13 12,
    bi 14 .lss 11 13]) (AX5)) (AX4)) (AX3)) (AX2)
def BJv:Cd:=.block 0 (.loop (BJw))
def AYf:Cd:=.ret
def BJu:Cd:=.seq (.reg false [o_ 4 (.move (.c .bool true))]) (AYf)
def BJo:Cd:=.seq (.seq (.reg false [ci 5 0]) (BJv)) (BJu)
def BJn:Cd:=.seq (.seq (.seq (.reg false [mv 6 0,
    le 7 6,
    mv 8 1,
    le 9 8,
    bi 10 .neq 7 9]) (BJq)) (BJp)) (BJo)
def Q6.fn:Fn:=⟨2,[.tmp 4],.seq (.reg false [o_ 4 (.move (.c .bool false))]) (BJn)⟩
def BJ0:Cd:=td [6,7,8,9]
def BJ2:Cd:=.ret
def BJ1:Cd:=.seq (.reg false [o_ 4 (.move (.c .bool false))]) (BJ2)
def BJ3:Cd:=.skip
def BJz:Cd:=.cond (.t 10) (.seq (td [10]) (BJ1)) (.seq (td [10]) (BJ3))
def AYj:Cd:=td [11,12,13]
def AYk:Cd:=.skip
def AYs:Cd:=.exit 0
def AYi:Cd:=.cond (.t 14) (.seq (td [14]) (AYk)) (.seq (td [14]) (AYs))
def AYn:Cd:=td [17,18,19,20,21,22,23,24]
def AYp:Cd:=.ret
def AYo:Cd:=.seq (.reg false [o_ 4 (.move (.c .bool false))]) (AYp)
def AYq:Cd:=.skip
def AYm:Cd:=.cond (.t 25) (.seq (td [25]) (AYo)) (.seq (td [25]) (AYq))
def AYr:Cd:=td [15,16]
def AYl:Cd:=.seq (.reg false [mv 15 5,
    bc 16 .add 15 1,
    mv 5 16]) (AYr)
def AYh:Cd:=.seq (.block 1 (.seq (.seq (.reg true [mv 17 0,
    mv 18 5,
    ix 19 (.sl Z2) 17 18,
    ld 20 Z2 19,
    mv 21 1,
    mv 22 5,
    ix 23 (.sl Z2) 21 22,
    ld 24 Z2 23,
    o_ 25 (.eqs Z2 true (.t 20) (.t 24))]) (AYn)) (AYm))) (AYl)
def AYg:Cd:=.tidy [] [] [] (some 0)
def BJ6:Cd:=.seq (.seq (.seq (.seq (.reg false [mv 11 5,
    mv 12 0,
    le 13 12,
    bi 14 .lss 11 13]) (AYj)) (AYi)) (AYh)) (AYg)
def BJ5:Cd:=.block 0 (.loop (BJ6))
def AYt:Cd:=.ret
def BJ4:Cd:=.seq (.reg false [o_ 4 (.move (.c .bool true))]) (AYt)
def BJy:Cd:=.seq (.seq (.reg false [ci 5 0]) (BJ5)) (BJ4)
def BJx:Cd:=.seq (.seq (.seq (.reg false [mv 6 0,
    le 7 6,
    mv 8 1,
    le 9 8,
    bi 10 .neq 7 9]) (BJ0)) (BJz)) (BJy)
def Qv.fn:Fn:=⟨2,[.tmp 4],.seq (.reg false [o_ 4 (.move (.c .bool false))]) (BJx)⟩
def BIb:Cd:=td [5,6,7,8,9,10,11,12,13,14,15,16,17,18,19,20,21,22,23,24,25,26,27,28,29,30,31,32,33,34,35,36,37,38,39,40,41,42,43,44]
def BIa:Cd:=.ret
def BH9:Cd:=.seq (.seq (.reg false [fa 5 Zn 0 2,
    ld 6 (.int .i64) 5,
    fa 7 Zn 0 3,
    ld 8 (.int .i64) 7,
    bi 9 .eql 6 8,
    mv 10 9,
    og 11 (.fieldAddr (.d Zn) 1 (.t 2)) 10 true,
    og 12 (.load (.d (.int .i64)) (.t 11)) 10 true,
    og 13 (.fieldAddr (.d Zn) 1 (.t 3)) 10 true,
    og 14 (.load (.d (.int .i64)) (.t 13)) 10 true,
    og 15 (.bin .eql (.t 12) (.t 14)) 10 true,
    o_ 16 (.pick (.t 10) (.t 15) (.c .bool false)),
    mv 17 16,
    og 18 (.fieldAddr (.d Zn) 2 (.t 2)) 17 true,
    og 19 (.load (.d (.int .i64)) (.t 18)) 17 true,
    og 20 (.fieldAddr (.d Zn) 2 (.t 3)) 17 true,
    og 21 (.load (.d (.int .i64)) (.t 20)) 17 true,
    og 22 (.bin .eql (.t 19) (.t 21)) 17 true,
    o_ 23 (.pick (.t 17) (.t 22) (.c .bool false)),
    mv 24 23,
    og 25 (.fieldAddr (.d Zn) 5 (.t 2)) 24 true,
    og 26 (.load (.d (.int .i64)) (.t 25)) 24 true,
    og 27 (.fieldAddr (.d Zn) 5 (.t 3)) 24 true,
    og 28 (.load (.d (.int .i64)) (.t 27)) 24 true,
    og 29 (.bin .eql (.t 26) (.t 28)) 24 true,
    o_ 30 (.pick (.t 24) (.t 29) (.c .bool false)),
    mv 31 30,
    og 32 (.fieldAddr (.d Zn) 3 (.t 2)) 31 true,
    og 33 (.load (.d (.sl (.int .i64))) (.t 32)) 31 true,
    og 34 (.fieldAddr (.d Zn) 3 (.t 3)) 31 true,
    og 35 (.load (.d (.sl (.int .i64))) (.t 34)) 31 true,
    og 36 (.call (.f 33) [(.t 33),(.t 35)] [.d .bool] [] false) 31 true,
    o_ 37 (.pick (.t 31) (.t 36) (.c .bool false)),
    mv 38 37,
    og 39 (.fieldAddr (.d Zn) 4 (.t 2)) 38 true,
    og 40 (.load (.d (.sl Z2)) (.t 39)) 38 true,
    og 41 (.fieldAddr (.d Zn) 4 (.t 3)) 38 true,
    og 42 (.load (.d (.sl Z2)) (.t 41)) 38 true,
    og 43 (.call (.f 35) [(.t 40),(.t 42)] [.d .bool] [] false) 38 true,
    o_ 44 (.pick (.t 38) (.t 43) (.c .bool false)),
    mv 4 44]) (BIb)) (BIa)
def Q7.fn:Fn:=⟨2,[.tmp 4],.seq (.reg false [bx 2 0 0,
    bx 3 1 1,
    o_ 4 (.move (.c .bool false))]) (BH9)⟩
def BUs:Cd:=td [12,13,14,15,16,17,18,19,20]
def BUu:Cd:=td [21,22,23,24,25,26]
def BUw:Cd:=td [4,27,28,29,30,31,32]
def BUy:Cd:=td [33,34,35,36,37,38]
def BQ3:Cd:=td [8,39,40,41,42,43,44]
def BQ5:Cd:=td [10,45,46,47,48,49,50,51,52,53,54,55,56]
def BQ8:Cd:=td [57,58]
def BRa:Cd:=.ret
def BQ9:Cd:=.seq (.reg false [o_ 0 (.move (.c .bool false))]) (BRa)
def BRb:Cd:=.skip
def BQ7:Cd:=.cond (.t 59) (.seq (td [59]) (BQ9)) (.seq (td [59]) (BRb))
def BRd:Cd:=td [60,61,62,63,64,65,66,67,68,69,70,71,72,73,74,75,76,77,78,79,80,81,82,83,84,85,86,87,88,89,90,91,92,93,94,95,96,97,98,99]
def BRc:Cd:=.ret
def BQ6:Cd:=.seq (.seq (.reg false [ld 60 Zn 3,
    o_ 61 (.build Zn [(1,(.c (.int .i64) (3:Int)))] []),
    o_ 62 (.call (.f 13) [(.t 60),(.t 61)] [.d .bool] [] false),
    mv 63 62,
    og 64 (.load (.d Zn) (.t 5)) 63 true,
    og 65 (.build Zn [(0,(.c (.int .i64) (5:Int)))] []) 63 true,
    og 66 (.call (.f 13) [(.t 64),(.t 65)] [.d .bool] [] false) 63 true,
    o_ 67 (.pick (.t 63) (.t 66) (.c .bool false)),
    mv 68 67,
    og 69 (.load (.d Zn) (.t 7)) 68 true,
    og 70 (.build Zn [(1,(.c (.int .i64) (2:Int))),(2,(.c (.int .i64) (1:Int)))] []) 68 true,
    og 71 (.call (.f 13) [(.t 69),(.t 70)] [.d .bool] [] false) 68 true,
    o_ 72 (.pick (.t 68) (.t 71) (.c .bool false)),
    mv 73 72,
    og 74 (.fieldAddr (.d Za) 1 (.t 6)) 73 true,
    og 75 (.load (.d (.sl (.int .i64))) (.t 74)) 73 true,
    og 76 (.index (.sl (.int .i64)) (.t 75) (.c (.int .i64) (0:Int))) 73 true,
    og 77 (.load (.d (.int .i64)) (.t 76)) 73 true,
    og 78 (.bin .eql (.t 77) (.c (.int .i64) (1:Int))) 73 true,
    o_ 79 (.pick (.t 73) (.t 78) (.c .bool false)),
    mv 80 79,
    og 81 (.load (.d Zn) (.t 9)) 80 true,
    og 82 (.build Zn [(0,(.c (.int .i64) (2:Int)))] []) 80 true,
    og 83 (.call (.f 13) [(.t 81),(.t 82)] [.d .bool] [] false) 80 true,
    o_ 84 (.pick (.t 80) (.t 83) (.c .bool false)),
    mv 85 84,
    og 86 (.move (.t 11)) 85 true,
    og 87 (.index (.sl Zn) (.t 86) (.c (.int .i64) (2:Int))) 85 true,
    og 88 (.fieldAddr (.d Zn) 4 (.t 87)) 85 true,
    og 89 (.load (.d (.sl Z2)) (.t 88)) 85 true,
    og 90 (.len (.t 89)) 85 true,
    og 91 (.bin .eql (.t 90) (.c (.int .i64) (2:Int))) 85 true,
    o_ 92 (.pick (.t 85) (.t 91) (.c .bool false)),
    mv 93 92,
    og 94 (.move (.t 11)) 93 true,
    og 95 (.index (.sl Zn) (.t 94) (.c (.int .i64) (1:Int))) 93 true,
    og 96 (.fieldAddr (.d Zn) 1 (.t 95)) 93 true,
    og 97 (.load (.d (.int .i64)) (.t 96)) 93 true,
    og 98 (.bin .eql (.t 97) (.c (.int .i64) (5:Int))) 93 true,
    o_ 99 (.pick (.t 93) (.t 98) (.c .bool false)),
    mv 0 99]) (BRd)) (BRc)
def BQ4:Cd:=.seq (.seq (.seq (.reg false [mv 57 11,
    le 58 57,
    bc 59 .neq 58 3]) (BQ8)) (BQ7)) (BQ6)
def BUz:Cd:=.seq (.seq (.reg false [ld 46 Za 1,
    o_ 47 (.build Zw [(0,(.c (.int .i64) (3:Int))),(2,(.c (.int .i64) (1:Int)))] []),
    o_ 48 (.build Ob [(1,(.t 47))] []),
    o_ 49 (.build Zw [(0,(.c (.int .i64) (5:Int))),(2,(.c (.int .i64) (1:Int)))] []),
    o_ 50 (.build Ob [(1,(.t 49))] []),
    o_ 51 (.build Zw [(0,(.c (.int .i64) (9:Int)))] []),
    o_ 52 (.build Ob [(0,(.c (.int .i64) (1:Int))),(1,(.t 51))] []),
    o_ 53 (.slice 14 Ob [(.t 48),(.t 50),(.t 52)]),
    o_ 54 (.call (.f 19) [(.t 46),(.t 53)] [.d Za,.d (.sl Zn)] [] false),
    mv 45 54,
    xt 55 45 0,
    xt 56 45 1,
    nb 10 15 Za,
    sr Za 10 55,
    mv 11 56]) (BQ5)) (BQ4)
def BUx:Cd:=.seq (.seq (.reg false [ld 40 Za 2,
    o_ 41 (.build Zw [(0,(.c (.int .i64) (9:Int))),(2,(.c (.int .i64) (1:Int)))] []),
    o_ 42 (.call (.f 10) [(.t 40),(.c (.int .i64) (0:Int)),(.t 41)] [.d Za,.d Zn] [] false),
    mv 39 42,
    xt 43 39 0,
    xt 44 39 1,
    nb 8 12 Za,
    nb 9 13 Zn,
    sr Za 8 43,
    sr Zn 9 44]) (BQ3)) (BUz)
def BUv:Cd:=.seq (.seq (.reg false [ld 34 Za 2,
    o_ 35 (.build Zw [(0,(.c (.int .i64) (2:Int))),(4,(.c (.int .i64) (0:Int)))] []),
    o_ 36 (.call (.f 10) [(.t 34),(.c (.int .i64) (1:Int)),(.t 35)] [.d Za,.d Zn] [] false),
    mv 33 36,
    xt 37 33 0,
    xt 38 33 1,
    nb 6 10 Za,
    nb 7 11 Zn,
    sr Za 6 37,
    sr Zn 7 38]) (BUy)) (BUx)
def BUt:Cd:=.seq (.seq (.reg false [ld 28 Za 2,
    o_ 29 (.build Zw [(0,(.c (.int .i64) (3:Int))),(2,(.c (.int .i64) (1:Int)))] []),
    o_ 30 (.call (.f 10) [(.t 28),(.c (.int .i64) (1:Int)),(.t 29)] [.d Za,.d Zn] [] false),
    mv 27 30,
    xt 31 27 0,
    xt 32 27 1,
    nb 4 8 Za,
    nb 5 9 Zn,
    sr Za 4 31,
    sr Zn 5 32]) (BUw)) (BUv)
def BUr:Cd:=.seq (.seq (.reg false [ld 22 Za 1,
    o_ 23 (.build Zw [(0,(.c (.int .i64) (3:Int))),(2,(.c (.int .i64) (1:Int)))] []),
    o_ 24 (.call (.f 10) [(.t 22),(.c (.int .i64) (0:Int)),(.t 23)] [.d Za,.d Zn] [] false),
    mv 21 24,
    xt 25 21 0,
    xt 26 21 1,
    nb 2 6 Za,
    nb 3 7 Zn,
    sr Za 2 25,
    sr Zn 3 26]) (BUu)) (BUt)
def BUq:Cd:=.seq (.seq (.reg false [o_ 12 (.build (.arr 4 (.int .i64)) [(0,(.c (.int .i64) (1:Int))),(1,(.c (.int .i64) ((-1):Int))),(2,(.c (.int .i64) ((-1):Int))),(3,(.c (.int .i64) ((-1):Int)))] []),
    o_ 13 (.build (.arr 4 (.int .i64)) [(0,(.c (.int .i64) ((-1):Int))),(1,(.c (.int .i64) ((-1):Int))),(2,(.c (.int .i64) (0:Int))),(3,(.c (.int .i64) ((-1):Int)))] []),
    o_ 14 (.slice 0 (.arr 4 (.int .i64)) [(.t 12),(.t 13)]),
    o_ 15 (.slice 1 (.int .i64) [(.c (.int .i64) (0:Int)),(.c (.int .i64) (0:Int))]),
    o_ 16 (.slice 2 (.int .i64) [(.c (.int .i64) (5:Int)),(.c (.int .i64) (2:Int))]),
    o_ 17 (.slice 3 (.int .i64) [(.c (.int .i64) (0:Int)),(.c (.int .i64) (0:Int))]),
    o_ 18 (.slice 4 .bool [(.c .bool true),(.c .bool false)]),
    o_ 19 (.build Z4 [(0,(.t 14)),(1,(.t 15)),(2,(.t 16)),(3,(.t 17)),(4,(.t 18)),(5,(.c (.int .i64) (4:Int))),(6,(.c (.int .i64) (2:Int))),(7,(.c (.int .i64) (1:Int)))] []),
    o_ 20 (.call (.f 18) [(.t 19)] [.d Za] [] false),
    nb 1 5 Za,
    sr Za 1 20]) (BUs)) (BUr)
def Xw.fn:Fn:=⟨0,[.tmp 0],.seq (.reg false [o_ 0 (.move (.c .bool false))]) (BUq)⟩
def BJh:Cd:=td [4,5]
def BJj:Cd:=td [6,7,8,9,10,11,12,13,14,15,16,17,18,19,20,21,22,23,24,25,26,27,28,29,30,31,32,33,34,35,36,37,38,39,40,41,42,43,44,45,46,47,48,49,50,51]
def BJi:Cd:=.ret
def BJg:Cd:=.seq (.seq (.reg false [fa 6 Z4 0 3,
    o_ 7 (.load (.d (.sl (.arr 4 (.int .i64)))) (.t 6)),
    le 8 7,
    bc 9 .leq 8 20,
    mv 10 9,
    og 11 (.fieldAddr (.d Z4) 1 (.t 3)) 10 true,
    og 12 (.load (.d (.sl (.int .i64))) (.t 11)) 10 true,
    og 13 (.len (.t 12)) 10 true,
    og 14 (.bin .leq (.t 13) (.c (.int .i64) (20:Int))) 10 true,
    o_ 15 (.pick (.t 10) (.t 14) (.c .bool false)),
    mv 16 15,
    og 17 (.fieldAddr (.d Z4) 2 (.t 3)) 16 true,
    og 18 (.load (.d (.sl (.int .i64))) (.t 17)) 16 true,
    og 19 (.len (.t 18)) 16 true,
    og 20 (.bin .leq (.t 19) (.c (.int .i64) (20:Int))) 16 true,
    o_ 21 (.pick (.t 16) (.t 20) (.c .bool false)),
    mv 22 21,
    og 23 (.fieldAddr (.d Z4) 3 (.t 3)) 22 true,
    og 24 (.load (.d (.sl (.int .i64))) (.t 23)) 22 true,
    og 25 (.len (.t 24)) 22 true,
    og 26 (.bin .leq (.t 25) (.c (.int .i64) (40:Int))) 22 true,
    o_ 27 (.pick (.t 22) (.t 26) (.c .bool false)),
    mv 28 27,
    og 29 (.fieldAddr (.d Z4) 4 (.t 3)) 28 true,
    og 30 (.load (.d (.sl .bool)) (.t 29)) 28 true,
    og 31 (.len (.t 30)) 28 true,
    og 32 (.bin .leq (.t 31) (.c (.int .i64) (40:Int))) 28 true,
    o_ 33 (.pick (.t 28) (.t 32) (.c .bool false)),
    mv 34 33,
    og 35 (.fieldAddr (.d Za) 1 (.t 1)) 34 true,
    og 36 (.load (.d (.sl (.int .i64))) (.t 35)) 34 true,
    og 37 (.len (.t 36)) 34 true,
    og 38 (.bin .leq (.t 37) (.c (.int .i64) (40:Int))) 34 true,
    o_ 39 (.pick (.t 34) (.t 38) (.c .bool false)),
    mv 40 39,
    og 41 (.fieldAddr (.d Za) 2 (.t 1)) 40 true,
    og 42 (.load (.d (.sl (.int .i64))) (.t 41)) 40 true,
    og 43 (.len (.t 42)) 40 true,
    og 44 (.bin .leq (.t 43) (.c (.int .i64) (40:Int))) 40 true,
    o_ 45 (.pick (.t 40) (.t 44) (.c .bool false)),
    mv 46 45,
    og 47 (.fieldAddr (.d Za) 3 (.t 1)) 46 true,
    og 48 (.load (.d (.sl Zb)) (.t 47)) 46 true,
    og 49 (.len (.t 48)) 46 true,
    og 50 (.bin .leq (.t 49) (.c (.int .i64) (40:Int))) 46 true,
    o_ 51 (.pick (.t 46) (.t 50) (.c .bool false)),
    mv 2 51]) (BJj)) (BJi)
def BJf:Cd:=.seq (.seq (.reg false [fa 4 Za 0 1,
    ld 5 Z4 4,
    nb 3 1 Z4,
    sr Z4 3 5]) (BJh)) (BJg)
def X3.fn:Fn:=⟨1,[.tmp 2],.seq (.reg false [bx 1 0 0,
    o_ 2 (.move (.c .bool false))]) (BJf)⟩
def BKj:Cd:=td [5,6,7,8,9,10,11]
def BKi:Cd:=.ret
def BKh:Cd:=.seq (.seq (.reg false [mv 5 0,
    bc 6 .geq 5 0,
    mv 7 6,
    og 8 (.move (.t 0)) 7 true,
    og 9 (.move (.t 1)) 7 true,
    og 10 (.bin .lss (.t 8) (.t 9)) 7 true,
    o_ 11 (.pick (.t 7) (.t 10) (.c .bool false)),
    mv 4 11]) (BKj)) (BKi)
def Z5.fn:Fn:=⟨2,[.tmp 4],.seq (.reg false [o_ 4 (.move (.c .bool false))]) (BKh)⟩
def BKm:Cd:=td [3,4,5,6,7,8]
def BKl:Cd:=.ret
def BKk:Cd:=.seq (.seq (.reg false [mv 3 0,
    o_ 4 (.bin .leq (.c (.int .i64) (0:Int)) (.t 3)),
    mv 5 4,
    og 6 (.move (.t 0)) 5 true,
    og 7 (.bin .leq (.t 6) (.c (.int .i64) (1073741824:Int))) 5 true,
    o_ 8 (.pick (.t 5) (.t 7) (.c .bool false)),
    mv 2 8]) (BKm)) (BKl)
def X7.fn:Fn:=⟨1,[.tmp 2],.seq (.reg false [o_ 2 (.move (.c .bool false))]) (BKk)⟩
def BJ9:Cd:=td [10,11,12]
def BKc:Cd:=td [13,14,15,16,17,18,19,20,21,22,23,24,25,26,27,28,29,30,31,32,33,34,35,36,37,38,39,40,41,42,43,44,45,46,47,48,49,50,51,52,53]
def BKe:Cd:=.ret
def BKd:Cd:=.seq (.reg false [o_ 2 (.move (.c .bool false))]) (BKe)
def BKf:Cd:=.skip
def BKb:Cd:=.cond (.t 54) (.seq (td [54]) (BKd)) (.seq (td [54]) (BKf))
def AYv:Cd:=td [55,56,57,58,59,60,61,62,63,64,65,66,67,68,69]
def AYx:Cd:=.ret
def AYw:Cd:=.seq (.reg false [o_ 2 (.move (.c .bool false))]) (AYx)
def AYy:Cd:=.skip
def AYu:Cd:=.cond (.t 70) (.seq (td [70]) (AYw)) (.seq (td [70]) (AYy))
def AY2:Cd:=td [71,72]
def AY3:Cd:=.skip
def AZ3:Cd:=.exit 0
def AY1:Cd:=.cond (.t 73) (.seq (td [73]) (AY3)) (.seq (td [73]) (AZ3))
def AY8:Cd:=td [76]
def AY9:Cd:=.skip
def AZh:Cd:=.exit 2
def AY7:Cd:=.cond (.t 77) (.seq (td [77]) (AY9)) (.seq (td [77]) (AZh))
def AZc:Cd:=td [80,81,82,83,84,85,86,87,88,89,90,91,92,93,94,95,96,97,98]
def AZe:Cd:=.ret
def AZd:Cd:=.seq (.reg false [o_ 2 (.move (.c .bool false))]) (AZe)
def AZf:Cd:=.skip
def AZb:Cd:=.cond (.t 99) (.seq (td [99]) (AZd)) (.seq (td [99]) (AZf))
def AZg:Cd:=td [78,79]
def AZa:Cd:=.seq (.reg false [mv 78 5,
    bc 79 .add 78 1,
    mv 5 79]) (AZg)
def AY6:Cd:=.seq (.block 3 (.seq (.seq (.reg false [fa 80 Z4 0 1,
    o_ 81 (.load (.d (.sl (.arr 4 (.int .i64)))) (.t 80)),
    mv 82 4,
    mv 83 5,
    o_ 84 (.index (.sl (.arr 4 (.int .i64))) (.t 81) (.t 82)),
    o_ 85 (.index (.arr 4 (.int .i64)) (.t 84) (.t 83)),
    ld 86 (.int .i64) 85,
    o_ 87 (.bin .neq (.t 86) (.c (.int .i64) ((-1):Int))),
    mv 88 87,
    og 89 (.fieldAddr (.d Z4) 0 (.t 1)) 88 true,
    og 90 (.load (.d (.sl (.arr 4 (.int .i64)))) (.t 89)) 88 true,
    og 91 (.move (.t 4)) 88 true,
    og 92 (.move (.t 5)) 88 true,
    og 93 (.index (.sl (.arr 4 (.int .i64))) (.t 90) (.t 91)) 88 true,
    og 94 (.index (.arr 4 (.int .i64)) (.t 93) (.t 92)) 88 true,
    og 95 (.load (.d (.int .i64)) (.t 94)) 88 true,
    og 96 (.move (.t 3)) 88 true,
    og 97 (.call (.f 37) [(.t 95),(.t 96)] [.d .bool] [] false) 88 true,
    og 98 (.not (.t 97)) 88 true,
    o_ 99 (.pick (.t 88) (.t 98) (.c .bool false))]) (AZc)) (AZb))) (AZa)
def AY5:Cd:=.tidy [] [] [] (some 1)
def AKe:Cd:=.seq (.seq (.seq (.seq (.reg false [mv 76 5,
    bc 77 .lss 76 4]) (AY8)) (AY7)) (AY6)) (AY5)
def AY4:Cd:=.block 2 (.loop (AKe))
def AZn:Cd:=td [100,101,102,103]
def AZo:Cd:=.skip
def AZw:Cd:=.exit 4
def AZm:Cd:=.cond (.t 104) (.seq (td [104]) (AZo)) (.seq (td [104]) (AZw))
def AZr:Cd:=td [107,108,109,110,111,112]
def AZt:Cd:=td [114,115]
def AZs:Cd:=.seq (.reg false [mv 114 6,
    bc 115 .add 114 1,
    mv 6 115]) (AZt)
def AZv:Cd:=.skip
def AZq:Cd:=.cond (.t 113) (.seq (td [113]) (AZs)) (.seq (td [113]) (AZv))
def AZu:Cd:=td [105,106]
def AZp:Cd:=.seq (.reg false [mv 105 7,
    bc 106 .add 105 1,
    mv 7 106]) (AZu)
def AZl:Cd:=.seq (.block 5 (.seq (.seq (.reg false [fa 107 Z4 3 1,
    o_ 108 (.load (.d (.sl (.int .i64))) (.t 107)),
    mv 109 7,
    ix 110 (.sl (.int .i64)) 108 109,
    ld 111 (.int .i64) 110,
    mv 112 4,
    bi 113 .eql 111 112]) (AZr)) (AZq))) (AZp)
def AZk:Cd:=.tidy [] [] [] (some 1)
def AKg:Cd:=.seq (.seq (.seq (.seq (.reg false [mv 100 7,
    fa 101 Z4 3 1,
    o_ 102 (.load (.d (.sl (.int .i64))) (.t 101)),
    le 103 102,
    bi 104 .lss 100 103]) (AZn)) (AZm)) (AZl)) (AZk)
def AZj:Cd:=.block 4 (.loop (AKg))
def AZy:Cd:=td [116,117,118]
def AZ0:Cd:=.ret
def AZz:Cd:=.seq (.reg false [o_ 2 (.move (.c .bool false))]) (AZ0)
def AZ1:Cd:=.skip
def AZx:Cd:=.cond (.t 119) (.seq (td [119]) (AZz)) (.seq (td [119]) (AZ1))
def AKf:Cd:=.seq (.seq (.reg false [mv 116 6,
    fa 117 Z4 5 1,
    ld 118 (.int .i64) 117,
    bi 119 .gtr 116 118]) (AZy)) (AZx)
def AZi:Cd:=.seq (.seq (.reg false [ci 7 0]) (AZj)) (AKf)
def AKd:Cd:=.seq (.reg false [ci 6 0]) (AZi)
def AZ2:Cd:=td [74,75]
def Ms:Cd:=.seq (.reg false [mv 74 4,
    bc 75 .add 74 1,
    mv 4 75]) (AZ2)
def AY0:Cd:=.seq (.block 1 (.seq (.seq (.reg false [ci 5 0]) (AY4)) (AKd))) (Ms)
def Mr:Cd:=.tidy [5,6,7] [] [] (some 1)
def Ol:Cd:=.seq (.seq (.seq (.seq (.reg false [mv 71 4,
    mv 72 3,
    bi 73 .lss 71 72]) (AY2)) (AY1)) (AY0)) (Mr)
def AYz:Cd:=.block 0 (.loop (Ol))
def AZ8:Cd:=td [120,121,122,123]
def AZ9:Cd:=.skip
def BAh:Cd:=.exit 6
def AZ7:Cd:=.cond (.t 124) (.seq (td [124]) (AZ9)) (.seq (td [124]) (BAh))
def BAc:Cd:=td [127,128,129,130,131,132,133,134,135,136,137,138,139,140,141,142]
def BAe:Cd:=.ret
def BAd:Cd:=.seq (.reg false [o_ 2 (.move (.c .bool false))]) (BAe)
def BAf:Cd:=.skip
def BAb:Cd:=.cond (.t 143) (.seq (td [143]) (BAd)) (.seq (td [143]) (BAf))
def BAg:Cd:=td [125,126]
def BAa:Cd:=.seq (.reg false [mv 125 8,
    bc 126 .add 125 1,
    mv 8 126]) (BAg)
def AZ6:Cd:=.seq (.block 7 (.seq (.seq (.reg false [fa 127 Z4 1 1,
    o_ 128 (.load (.d (.sl (.int .i64))) (.t 127)),
    mv 129 8,
    ix 130 (.sl (.int .i64)) 128 129,
    ld 131 (.int .i64) 130,
    mv 132 3,
    o_ 133 (.call (.f 37) [(.t 131),(.t 132)] [.d .bool] [] false),
    nt 134 133,
    mv 135 134,
    og 136 (.fieldAddr (.d Z4) 2 (.t 1)) 135 false,
    og 137 (.load (.d (.sl (.int .i64))) (.t 136)) 135 false,
    og 138 (.move (.t 8)) 135 false,
    og 139 (.index (.sl (.int .i64)) (.t 137) (.t 138)) 135 false,
    og 140 (.load (.d (.int .i64)) (.t 139)) 135 false,
    og 141 (.call (.f 38) [(.t 140)] [.d .bool] [] false) 135 false,
    og 142 (.not (.t 141)) 135 false,
    o_ 143 (.pick (.t 135) (.c .bool true) (.t 142))]) (BAc)) (BAb))) (BAa)
def AZ5:Cd:=.tidy [] [] [] (some 1)
def AKi:Cd:=.seq (.seq (.seq (.seq (.reg false [mv 120 8,
    fa 121 Z4 1 1,
    o_ 122 (.load (.d (.sl (.int .i64))) (.t 121)),
    le 123 122,
    bi 124 .lss 120 123]) (AZ8)) (AZ7)) (AZ6)) (AZ5)
def AZ4:Cd:=.block 6 (.loop (AKi))
def BAm:Cd:=td [144,145,146,147]
def BAn:Cd:=.skip
def BAv:Cd:=.exit 8
def BAl:Cd:=.cond (.t 148) (.seq (td [148]) (BAn)) (.seq (td [148]) (BAv))
def BAq:Cd:=td [151,152,153,154,155,156,157]
def BAs:Cd:=.ret
def BAr:Cd:=.seq (.reg false [o_ 2 (.move (.c .bool false))]) (BAs)
def BAt:Cd:=.skip
def BAp:Cd:=.cond (.t 158) (.seq (td [158]) (BAr)) (.seq (td [158]) (BAt))
def BAu:Cd:=td [149,150]
def BAo:Cd:=.seq (.reg false [mv 149 9,
    bc 150 .add 149 1,
    mv 9 150]) (BAu)
def BAk:Cd:=.seq (.block 9 (.seq (.seq (.reg false [fa 151 Z4 3 1,
    o_ 152 (.load (.d (.sl (.int .i64))) (.t 151)),
    mv 153 9,
    ix 154 (.sl (.int .i64)) 152 153,
    ld 155 (.int .i64) 154,
    mv 156 3,
    o_ 157 (.call (.f 37) [(.t 155),(.t 156)] [.d .bool] [] false),
    nt 158 157]) (BAq)) (BAp))) (BAo)
def BAj:Cd:=.tidy [] [] [] (some 1)
def AKk:Cd:=.seq (.seq (.seq (.seq (.reg false [mv 144 9,
    fa 145 Z4 3 1,
    o_ 146 (.load (.d (.sl (.int .i64))) (.t 145)),
    le 147 146,
    bi 148 .lss 144 147]) (BAm)) (BAl)) (BAk)) (BAj)
def BAi:Cd:=.block 8 (.loop (AKk))
def BAw:Cd:=.ret
def AKj:Cd:=.seq (.reg false [o_ 2 (.move (.c .bool true))]) (BAw)
def AKh:Cd:=.seq (.seq (.reg false [ci 9 0]) (BAi)) (AKj)
def Vk:Cd:=.seq (.seq (.reg false [ci 8 0]) (AZ4)) (AKh)
def BKg:Cd:=.seq (.seq (.reg false [ci 4 0]) (AYz)) (Vk)
def BKa:Cd:=.seq (.seq (.seq (.reg false [fa 55 Z4 5 1,
    ld 56 (.int .i64) 55,
    o_ 57 (.call (.f 37) [(.t 56),(.c (.int .i64) (65:Int))] [.d .bool] [] false),
    nt 58 57,
    mv 59 58,
    og 60 (.fieldAddr (.d Z4) 6 (.t 1)) 59 false,
    og 61 (.load (.d (.int .i64)) (.t 60)) 59 false,
    og 62 (.call (.f 37) [(.t 61),(.c (.int .i64) (65:Int))] [.d .bool] [] false) 59 false,
    og 63 (.not (.t 62)) 59 false,
    o_ 64 (.pick (.t 59) (.c .bool true) (.t 63)),
    mv 65 64,
    og 66 (.fieldAddr (.d Z4) 7 (.t 1)) 65 false,
    og 67 (.load (.d (.int .i64)) (.t 66)) 65 false,
    og 68 (.call (.f 37) [(.t 67),(.c (.int .i64) (65:Int))] [.d .bool] [] false) 65 false,
    og 69 (.not (.t 68)) 65 false,
    o_ 70 (.pick (.t 65) (.c .bool true) (.t 69))]) (AYv)) (AYu)) (BKg)
def BJ8:Cd:=.seq (.seq (.seq (.reg false [mv 13 3,
    bc 14 .lss 13 1,
    mv 15 14,
    og 16 (.move (.t 3)) 15 false,
    og 17 (.bin .gtr (.t 16) (.c (.int .i64) (8:Int))) 15 false,
    o_ 18 (.pick (.t 15) (.c .bool true) (.t 17)),
    mv 19 18,
    og 20 (.fieldAddr (.d Z4) 1 (.t 1)) 19 false,
    og 21 (.load (.d (.sl (.int .i64))) (.t 20)) 19 false,
    og 22 (.len (.t 21)) 19 false,
    og 23 (.bin .lss (.t 22) (.c (.int .i64) (1:Int))) 19 false,
    o_ 24 (.pick (.t 19) (.c .bool true) (.t 23)),
    mv 25 24,
    og 26 (.fieldAddr (.d Z4) 1 (.t 1)) 25 false,
    og 27 (.load (.d (.sl (.int .i64))) (.t 26)) 25 false,
    og 28 (.len (.t 27)) 25 false,
    og 29 (.bin .gtr (.t 28) (.c (.int .i64) (6:Int))) 25 false,
    o_ 30 (.pick (.t 25) (.c .bool true) (.t 29)),
    mv 31 30,
    og 32 (.fieldAddr (.d Z4) 2 (.t 1)) 31 false,
    og 33 (.load (.d (.sl (.int .i64))) (.t 32)) 31 false,
    og 34 (.len (.t 33)) 31 false,
    og 35 (.fieldAddr (.d Z4) 1 (.t 1)) 31 false,
    og 36 (.load (.d (.sl (.int .i64))) (.t 35)) 31 false,
    og 37 (.len (.t 36)) 31 false,
    og 38 (.bin .neq (.t 34) (.t 37)) 31 false,
    o_ 39 (.pick (.t 31) (.c .bool true) (.t 38)),
    mv 40 39,
    og 41 (.fieldAddr (.d Z4) 3 (.t 1)) 40 false,
    og 42 (.load (.d (.sl (.int .i64))) (.t 41)) 40 false,
    og 43 (.len (.t 42)) 40 false,
    og 44 (.bin .gtr (.t 43) (.c (.int .i64) (16:Int))) 40 false,
    o_ 45 (.pick (.t 40) (.c .bool true) (.t 44)),
    mv 46 45,
    og 47 (.fieldAddr (.d Z4) 4 (.t 1)) 46 false,
    og 48 (.load (.d (.sl .bool)) (.t 47)) 46 false,
    og 49 (.len (.t 48)) 46 false,
    og 50 (.fieldAddr (.d Z4) 3 (.t 1)) 46 false,
    og 51 (.load (.d (.sl (.int .i64))) (.t 50)) 46 false,
    og 52 (.len (.t 51)) 46 false,
    og 53 (.bin .neq (.t 49) (.t 52)) 46 false,
    o_ 54 (.pick (.t 46) (.c .bool true) (.t 53))]) (BKc)) (BKb)) (BKa)
def BJ7:Cd:=.seq (.seq (.reg false [fa 10 Z4 0 1,
    o_ 11 (.load (.d (.sl (.arr 4 (.int .i64)))) (.t 10)),
    le 12 11,
    mv 3 12]) (BJ9)) (BJ8)
def Zc.fn:Fn:=⟨1,[.tmp 2],.seq (.reg false [bx 1 0 0,
    o_ 2 (.move (.c .bool false))]) (BJ7)⟩
def BKs:Cd:=td [6,7]
def BKt:Cd:=.skip
def BA5:Cd:=.exit 0
def BKr:Cd:=.cond (.t 8) (.seq (td [8]) (BKt)) (.seq (td [8]) (BA5))
def BAx:Cd:=td [9,10]
def BA0:Cd:=td [11]
def BA2:Cd:=.ret
def BA1:Cd:=.seq (.reg false [ci 4 99]) (BA2)
def BA3:Cd:=.skip
def BAz:Cd:=.cond (.t 12) (.seq (td [12]) (BA1)) (.seq (td [12]) (BA3))
def BA4:Cd:=td [13,14,15,16,17,18]
def BAy:Cd:=.seq (.reg false [fa 13 Za 3 2,
    ld 14 (.sl Zb) 13,
    fa 15 Zb 1 3,
    ld 16 (.int .i64) 15,
    ix 17 (.sl Zb) 14 16,
    ld 18 Zb 17,
    sr Zb 3 18]) (BA4)
def BKu:Cd:=.seq (.seq (.seq (.reg false [mv 11 5,
    bc 12 .gtr 11 50]) (BA0)) (BAz)) (BAy)
def BKq:Cd:=.block 1 (.seq (.seq (.reg false [mv 9 5,
    bc 10 .add 9 1,
    mv 5 10]) (BAx)) (BKu))
def BKp:Cd:=.tidy [] [] [] (some 2)
def ARi:Cd:=.seq (.seq (.seq (.seq (.reg false [fa 6 Zb 0 3,
    ld 7 (.int .i64) 6,
    bc 8 .eql 7 2]) (BKs)) (BKr)) (BKq)) (BKp)
def BA7:Cd:=td [19]
def BA6:Cd:=.ret
def ARh:Cd:=.seq (.seq (.reg false [mv 19 5,
    mv 4 19]) (BA7)) (BA6)
def BKo:Cd:=.seq (.block 0 (.loop (ARi))) (ARh)
def BKn:Cd:=.seq (.reg false [ci 5 0]) (BKo)
def Zx.fn:Fn:=⟨2,[.tmp 4],.seq (.reg false [bx 2 0 0,
    bx 3 1 1,
    ci 4 0]) (BKn)⟩
def BK1:Cd:=td [7,8,9,10]
def BK2:Cd:=.skip
def BBf:Cd:=.exit 0
def BK0:Cd:=.cond (.t 11) (.seq (td [11]) (BK2)) (.seq (td [11]) (BBf))
def BBa:Cd:=td [14,15,16,17,18,19]
def BBc:Cd:=td [21,22]
def BBb:Cd:=.seq (.reg false [mv 21 5,
    bc 22 .add 21 1,
    mv 5 22]) (BBc)
def BBe:Cd:=.skip
def BA9:Cd:=.cond (.t 20) (.seq (td [20]) (BBb)) (.seq (td [20]) (BBe))
def BBd:Cd:=td [12,13]
def BA8:Cd:=.seq (.reg false [mv 12 6,
    bc 13 .add 12 1,
    mv 6 13]) (BBd)
def BKz:Cd:=.seq (.block 1 (.seq (.seq (.reg true [od 14 (.fieldAddr (.d Za) 3 (.t 2)) [0] [],
    od 15 (.load (.d (.sl Zb)) (.t 14)) [0] [],
    mv 16 6,
    ix 17 (.sl Zb) 15 16,
    ld 18 Zb 17,
    od 19 (.load (.d Zb) (.t 3)) [1] [],
    o_ 20 (.eqs Zb false (.t 18) (.t 19))]) (BBa)) (BA9))) (BA8)
def BKy:Cd:=.tidy [] [] [] (some 2)
def ARk:Cd:=.seq (.seq (.seq (.seq (.reg false [mv 7 6,
    fa 8 Za 3 2,
    ld 9 (.sl Zb) 8,
    le 10 9,
    bi 11 .lss 7 10]) (BK1)) (BK0)) (BKz)) (BKy)
def BKx:Cd:=.block 0 (.loop (ARk))
def BBh:Cd:=td [23]
def BBg:Cd:=.ret
def ARj:Cd:=.seq (.seq (.reg false [mv 23 5,
    mv 4 23]) (BBh)) (BBg)
def BKw:Cd:=.seq (.seq (.reg false [ci 6 0]) (BKx)) (ARj)
def BKv:Cd:=.seq (.reg false [ci 5 0]) (BKw)
def Zz.fn:Fn:=⟨2,[.tmp 4],.seq (.reg false [bx 2 0 0,
    bx 3 1 1,
    ci 4 0]) (BKv)⟩
def BK5:Cd:=td [5,6,7,8,9,10,11,12,13,14,15,16,17,18]
def BK4:Cd:=.ret
def BK3:Cd:=.seq (.seq (.reg false [fa 5 Za 0 2,
    fa 6 Z4 5 5,
    ld 7 (.int .i64) 6,
    fa 8 Za 0 2,
    fa 9 Z4 6 8,
    ld 10 (.int .i64) 9,
    fa 11 Za 0 2,
    fa 12 Z4 7 11,
    ld 13 (.int .i64) 12,
    o_ 14 (.slice 2 (.int .i64) [(.t 7),(.t 10),(.t 13)]),
    fa 15 Zb 0 3,
    ld 16 (.int .i64) 15,
    ix 17 (.sl (.int .i64)) 14 16,
    ld 18 (.int .i64) 17,
    mv 4 18]) (BK5)) (BK4)
def X9.fn:Fn:=⟨2,[.tmp 4],.seq (.reg false [bx 2 0 0,
    bx 3 1 1,
    ci 4 0]) (BK3)⟩
def BIe:Cd:=td [9,10]
def BIh:Cd:=td [11,12,13,14,15,16,17,18,19,20,21,22,23,24,25,26,27,28,29,30,31,32,33,34,35,36,37,38,39]
def BIj:Cd:=.ret
def BIi:Cd:=.seq (.reg false [o_ 2 (.move (.c .bool false))]) (BIj)
def BIk:Cd:=.skip
def BIg:Cd:=.cond (.t 40) (.seq (td [40]) (BIi)) (.seq (td [40]) (BIk))
def AV8:Cd:=td [41,42,43,44]
def AV9:Cd:=.skip
def AWh:Cd:=.exit 0
def AV7:Cd:=.cond (.t 45) (.seq (td [45]) (AV9)) (.seq (td [45]) (AWh))
def AWc:Cd:=td [48,49,50,51,52,53,54,55,56,57,58,59,60,61,62,63,64,65]
def AWe:Cd:=.ret
def AWd:Cd:=.seq (.reg false [o_ 2 (.move (.c .bool false))]) (AWe)
def AWf:Cd:=.skip
def AWb:Cd:=.cond (.t 66) (.seq (td [66]) (AWd)) (.seq (td [66]) (AWf))
def AWg:Cd:=td [46,47]
def AWa:Cd:=.seq (.reg false [mv 46 4,
    bc 47 .add 46 1,
    mv 4 47]) (AWg)
def AV6:Cd:=.seq (.block 1 (.seq (.seq (.reg true [od 48 (.fieldAddr (.d Za) 1 (.t 1)) [0] [],
    od 49 (.load (.d (.sl (.int .i64))) (.t 48)) [0] [],
    mv 50 4,
    ix 51 (.sl (.int .i64)) 49 50,
    ld 52 (.int .i64) 51,
    od 53 (.fieldAddr (.d Z4) 0 (.t 3)) [1] [],
    od 54 (.load (.d (.sl (.arr 4 (.int .i64)))) (.t 53)) [1] [],
    le 55 54,
    o_ 56 (.call (.f 37) [(.t 52),(.t 55)] [.d .bool] [] false),
    nt 57 56,
    mv 58 57,
    ogd 59 (.fieldAddr (.d Za) 2 (.t 1)) 58 false [0],
    ogd 60 (.load (.d (.sl (.int .i64))) (.t 59)) 58 false [0],
    og 61 (.move (.t 4)) 58 false,
    og 62 (.index (.sl (.int .i64)) (.t 60) (.t 61)) 58 false,
    og 63 (.load (.d (.int .i64)) (.t 62)) 58 false,
    og 64 (.call (.f 38) [(.t 63)] [.d .bool] [] false) 58 false,
    og 65 (.not (.t 64)) 58 false,
    o_ 66 (.pick (.t 58) (.c .bool true) (.t 65))]) (AWc)) (AWb))) (AWa)
def AV5:Cd:=.tidy [] [] [] (some 2)
def AJ8:Cd:=.seq (.seq (.seq (.seq (.reg false [mv 41 4,
    fa 42 Za 1 1,
    o_ 43 (.load (.d (.sl (.int .i64))) (.t 42)),
    le 44 43,
    bi 45 .lss 41 44]) (AV8)) (AV7)) (AV6)) (AV5)
def AV4:Cd:=.block 0 (.loop (AJ8))
def AWm:Cd:=td [67,68,69,70]
def AWn:Cd:=.skip
def AWz:Cd:=.exit 2
def AWl:Cd:=.cond (.t 71) (.seq (td [71]) (AWn)) (.seq (td [71]) (AWz))
def AWq:Cd:=td [74,75,76,77,78]
def AWs:Cd:=td [79,80,81,82,83,84,85,86,87,88,89,90,91,92,93,94,95,96,97,98,99,100,101,102,103,104,105,106,107,108,109,110,111,112,113,114,115,116,117,118,119,120,121,122,123]
def AWu:Cd:=td [124]
def AWy:Cd:=.ret
def AWx:Cd:=.seq (.reg false [o_ 2 (.move (.c .bool false))]) (AWy)
def AWv:Cd:=.skip
def AWt:Cd:=.cond (.t 125) (.seq (td [125]) (AWx)) (.seq (td [125]) (AWv))
def AWr:Cd:=.seq (.seq (.reg false [mv 124 7,
    nt 125 124]) (AWu)) (AWt)
def AWp:Cd:=.seq (.seq (.reg false [fa 79 Zb 0 6,
    ld 80 (.int .i64) 79,
    bc 81 .eql 80 0,
    mv 82 81,
    og 83 (.fieldAddr (.d Zb) 1 (.t 6)) 82 true,
    og 84 (.load (.d (.int .i64)) (.t 83)) 82 true,
    og 85 (.fieldAddr (.d Z4) 0 (.t 3)) 82 true,
    og 86 (.load (.d (.sl (.arr 4 (.int .i64)))) (.t 85)) 82 true,
    og 87 (.len (.t 86)) 82 true,
    og 88 (.call (.f 37) [(.t 84),(.t 87)] [.d .bool] [] false) 82 true,
    o_ 89 (.pick (.t 82) (.t 88) (.c .bool false)),
    mv 90 89,
    og 91 (.fieldAddr (.d Zb) 0 (.t 6)) 90 false,
    og 92 (.load (.d (.int .i64)) (.t 91)) 90 false,
    og 93 (.bin .eql (.t 92) (.c (.int .i64) (1:Int))) 90 false,
    og 94 (.move (.t 93)) 90 false,
    og 95 (.fieldAddr (.d Zb) 1 (.t 6)) 94 true,
    og 96 (.load (.d (.int .i64)) (.t 95)) 94 true,
    og 97 (.fieldAddr (.d Z4) 1 (.t 3)) 94 true,
    og 98 (.load (.d (.sl (.int .i64))) (.t 97)) 94 true,
    og 99 (.len (.t 98)) 94 true,
    og 100 (.call (.f 37) [(.t 96),(.t 99)] [.d .bool] [] false) 94 true,
    og 101 (.pick (.t 94) (.t 100) (.c .bool false)) 90 false,
    o_ 102 (.pick (.t 90) (.c .bool true) (.t 101)),
    mv 103 102,
    og 104 (.fieldAddr (.d Zb) 0 (.t 6)) 103 false,
    og 105 (.load (.d (.int .i64)) (.t 104)) 103 false,
    og 106 (.bin .eql (.t 105) (.c (.int .i64) (2:Int))) 103 false,
    og 107 (.move (.t 106)) 103 false,
    og 108 (.fieldAddr (.d Zb) 1 (.t 6)) 107 true,
    og 109 (.load (.d (.int .i64)) (.t 108)) 107 true,
    og 110 (.fieldAddr (.d Z4) 3 (.t 3)) 107 true,
    og 111 (.load (.d (.sl (.int .i64))) (.t 110)) 107 true,
    og 112 (.len (.t 111)) 107 true,
    og 113 (.call (.f 37) [(.t 109),(.t 112)] [.d .bool] [] false) 107 true,
    og 114 (.pick (.t 107) (.t 113) (.c .bool false)) 103 false,
    og 115 (.move (.t 114)) 103 false,
    og 116 (.fieldAddr (.d Z4) 4 (.t 3)) 115 true,
    og 117 (.load (.d (.sl .bool)) (.t 116)) 115 true,
    og 118 (.fieldAddr (.d Zb) 1 (.t 6)) 115 true,
    og 119 (.load (.d (.int .i64)) (.t 118)) 115 true,
    og 120 (.index (.sl .bool) (.t 117) (.t 119)) 115 true,
    og 121 (.load (.d .bool) (.t 120)) 115 true,
    og 122 (.pick (.t 115) (.t 121) (.c .bool false)) 103 false,
    o_ 123 (.pick (.t 103) (.c .bool true) (.t 122)),
    mv 7 123]) (AWs)) (AWr)
def AWw:Cd:=td [72,73]
def AWo:Cd:=.seq (.reg false [mv 72 5,
    bc 73 .add 72 1,
    mv 5 73]) (AWw)
def AWk:Cd:=.seq (.block 3 (.seq (.seq (.reg false [fa 74 Za 3 1,
    ld 75 (.sl Zb) 74,
    mv 76 5,
    ix 77 (.sl Zb) 75 76,
    ld 78 Zb 77,
    nb 6 2 Zb,
    sr Zb 6 78]) (AWq)) (AWp))) (AWo)
def AWj:Cd:=.tidy [6,7] [] [] (some 2)
def AKa:Cd:=.seq (.seq (.seq (.seq (.reg false [mv 67 5,
    fa 68 Za 3 1,
    ld 69 (.sl Zb) 68,
    le 70 69,
    bi 71 .lss 67 70]) (AWm)) (AWl)) (AWk)) (AWj)
def AWi:Cd:=.block 2 (.loop (AKa))
def AW4:Cd:=td [126,127,128,129]
def AW5:Cd:=.skip
def AXd:Cd:=.exit 4
def AW3:Cd:=.cond (.t 130) (.seq (td [130]) (AW5)) (.seq (td [130]) (AXd))
def AW8:Cd:=td [133,134,135,136,137,138,139,140,141,142,143,144,145,146,147,148,149,150,151,152,153,154,155,156]
def AXa:Cd:=.ret
def AW9:Cd:=.seq (.reg false [o_ 2 (.move (.c .bool false))]) (AXa)
def AXb:Cd:=.skip
def AW7:Cd:=.cond (.t 157) (.seq (td [157]) (AW9)) (.seq (td [157]) (AXb))
def AXc:Cd:=td [131,132]
def AW6:Cd:=.seq (.reg false [mv 131 8,
    bc 132 .add 131 1,
    mv 8 132]) (AXc)
def AW2:Cd:=.seq (.block 5 (.seq (.seq (.reg true [od 133 (.load (.d Za) (.t 1)) [0] [],
    od 134 (.fieldAddr (.d Za) 3 (.t 1)) [0] [],
    od 135 (.load (.d (.sl Zb)) (.t 134)) [0] [],
    mv 136 8,
    ix 137 (.sl Zb) 135 136,
    ld 138 Zb 137,
    o_ 139 (.call (.f 39) [(.t 133),(.t 138)] [.d (.int .i64)] [] false),
    bc 140 .gtr 139 4,
    mv 141 140,
    ogd 142 (.load (.d Za) (.t 1)) 141 false [0],
    ogd 143 (.fieldAddr (.d Za) 3 (.t 1)) 141 false [0],
    ogd 144 (.load (.d (.sl Zb)) (.t 143)) 141 false [0],
    og 145 (.move (.t 8)) 141 false,
    og 146 (.index (.sl Zb) (.t 144) (.t 145)) 141 false,
    og 147 (.load (.d Zb) (.t 146)) 141 false,
    og 148 (.call (.f 40) [(.t 142),(.t 147)] [.d (.int .i64)] [] false) 141 false,
    ogd 149 (.load (.d Za) (.t 1)) 141 false [0],
    ogd 150 (.fieldAddr (.d Za) 3 (.t 1)) 141 false [0],
    ogd 151 (.load (.d (.sl Zb)) (.t 150)) 141 false [0],
    og 152 (.move (.t 8)) 141 false,
    og 153 (.index (.sl Zb) (.t 151) (.t 152)) 141 false,
    og 154 (.load (.d Zb) (.t 153)) 141 false,
    og 155 (.call (.f 41) [(.t 149),(.t 154)] [.d (.int .i64)] [] false) 141 false,
    og 156 (.bin .gtr (.t 148) (.t 155)) 141 false,
    o_ 157 (.pick (.t 141) (.c .bool true) (.t 156))]) (AW8)) (AW7))) (AW6)
def AW1:Cd:=.tidy [] [] [] (some 2)
def AKc:Cd:=.seq (.seq (.seq (.seq (.reg false [mv 126 8,
    fa 127 Za 3 1,
    ld 128 (.sl Zb) 127,
    le 129 128,
    bi 130 .lss 126 129]) (AW4)) (AW3)) (AW2)) (AW1)
def AW0:Cd:=.block 4 (.loop (AKc))
def AXe:Cd:=.ret
def AKb:Cd:=.seq (.reg false [o_ 2 (.move (.c .bool true))]) (AXe)
def AJ9:Cd:=.seq (.seq (.reg false [ci 8 0]) (AW0)) (AKb)
def ARg:Cd:=.seq (.seq (.reg false [ci 5 0]) (AWi)) (AJ9)
def BIf:Cd:=.seq (.seq (.reg false [ci 4 0]) (AV4)) (ARg)
def BId:Cd:=.seq (.seq (.seq (.reg false [ld 11 Z4 3,
    o_ 12 (.call (.f 36) [(.t 11)] [.d .bool] [] false),
    nt 13 12,
    mv 14 13,
    og 15 (.fieldAddr (.d Za) 1 (.t 1)) 14 false,
    og 16 (.load (.d (.sl (.int .i64))) (.t 15)) 14 false,
    og 17 (.len (.t 16)) 14 false,
    og 18 (.fieldAddr (.d Z4) 1 (.t 3)) 14 false,
    og 19 (.load (.d (.sl (.int .i64))) (.t 18)) 14 false,
    og 20 (.len (.t 19)) 14 false,
    og 21 (.bin .neq (.t 17) (.t 20)) 14 false,
    o_ 22 (.pick (.t 14) (.c .bool true) (.t 21)),
    mv 23 22,
    og 24 (.fieldAddr (.d Za) 2 (.t 1)) 23 false,
    og 25 (.load (.d (.sl (.int .i64))) (.t 24)) 23 false,
    og 26 (.len (.t 25)) 23 false,
    og 27 (.fieldAddr (.d Z4) 1 (.t 3)) 23 false,
    og 28 (.load (.d (.sl (.int .i64))) (.t 27)) 23 false,
    og 29 (.len (.t 28)) 23 false,
    og 30 (.bin .neq (.t 26) (.t 29)) 23 false,
    o_ 31 (.pick (.t 23) (.c .bool true) (.t 30)),
    mv 32 31,
    og 33 (.fieldAddr (.d Za) 3 (.t 1)) 32 false,
    og 34 (.load (.d (.sl Zb)) (.t 33)) 32 false,
    og 35 (.len (.t 34)) 32 false,
    og 36 (.fieldAddr (.d Z4) 3 (.t 3)) 32 false,
    og 37 (.load (.d (.sl (.int .i64))) (.t 36)) 32 false,
    og 38 (.len (.t 37)) 32 false,
    og 39 (.bin .neq (.t 35) (.t 38)) 32 false,
    o_ 40 (.pick (.t 32) (.c .bool true) (.t 39))]) (BIh)) (BIg)) (BIf)
def BIc:Cd:=.seq (.seq (.reg false [fa 9 Za 0 1,
    ld 10 Z4 9,
    nb 3 1 Z4,
    sr Z4 3 10]) (BIe)) (BId)
def Zg.fn:Fn:=⟨1,[.tmp 2],.seq (.reg false [bx 1 0 0,
    o_ 2 (.move (.c .bool false))]) (BIc)⟩
def BU2:Cd:=td [3,4,5,6,7,8]
def BU1:Cd:=.ret
def BU0:Cd:=.seq (.seq (.reg false [ld 3 Za 1,
    o_ 4 (.call (.f 20) [(.t 3)] [.d .bool] [] false),
    mv 5 4,
    og 6 (.load (.d Za) (.t 1)) 5 true,
    og 7 (.call (.f 14) [(.t 6)] [.d .bool] [] false) 5 true,
    o_ 8 (.pick (.t 5) (.t 7) (.c .bool false)),
    mv 2 8]) (BU2)) (BU1)
def X4.fn:Fn:=⟨1,[.tmp 2],.seq (.reg false [bx 1 0 0,
    o_ 2 (.move (.c .bool false))]) (BU0)⟩
def BU5:Cd:=td [3,4,5,6,7,8,9,10,11,12]
def BU4:Cd:=.ret
def BU3:Cd:=.seq (.seq (.reg false [fa 3 Zw 5 1,
    o_ 4 (.load (.d (.sl (.int .i64))) (.t 3)),
    le 5 4,
    bc 6 .leq 5 40,
    mv 7 6,
    og 8 (.fieldAddr (.d Zw) 7 (.t 1)) 7 true,
    og 9 (.load (.d (.sl (.int .i64))) (.t 8)) 7 true,
    og 10 (.len (.t 9)) 7 true,
    og 11 (.bin .leq (.t 10) (.c (.int .i64) (40:Int))) 7 true,
    o_ 12 (.pick (.t 7) (.t 11) (.c .bool false)),
    mv 2 12]) (BU5)) (BU4)
def X8.fn:Fn:=⟨1,[.tmp 2],.seq (.reg false [bx 1 0 0,
    o_ 2 (.move (.c .bool false))]) (BU3)⟩
def BK9:Cd:=td [5]
def BLc:Cd:=td [7,8]
def BLb:Cd:=.ret
def BLa:Cd:=.seq (.seq (.reg false [mv 7 0,
    bc 8 .eql 7 0,
    mv 4 8]) (BLc)) (BLb)
def BLd:Cd:=.skip
def BK8:Cd:=.cond (.t 6) (.seq (td [6]) (BLa)) (.seq (td [6]) (BLd))
def BLf:Cd:=td [9,10,11,12,13,14]
def BLe:Cd:=.ret
def BK7:Cd:=.seq (.seq (.reg false [mv 9 0,
    bc 10 .geq 9 0,
    mv 11 10,
    og 12 (.move (.t 0)) 11 true,
    og 13 (.bin .leq (.t 12) (.c (.int .i64) (1073741824:Int))) 11 true,
    o_ 14 (.pick (.t 11) (.t 13) (.c .bool false)),
    mv 4 14]) (BLf)) (BLe)
def BK6:Cd:=.seq (.seq (.seq (.reg false [mv 5 1,
    nt 6 5]) (BK9)) (BK8)) (BK7)
def Zf.fn:Fn:=⟨2,[.tmp 4],.seq (.reg false [o_ 4 (.move (.c .bool false))]) (BK6)⟩
def BLj:Cd:=td [6]
def BLm:Cd:=td [8,9,10]
def BLl:Cd:=.ret
def BLk:Cd:=.seq (.seq (.reg false [mv 8 0,
    le 9 8,
    bc 10 .eql 9 0,
    mv 4 10]) (BLm)) (BLl)
def BLn:Cd:=.skip
def BLi:Cd:=.cond (.t 7) (.seq (td [7]) (BLk)) (.seq (td [7]) (BLn))
def BBl:Cd:=td [11,12,13]
def BBm:Cd:=.skip
def BBu:Cd:=.exit 0
def BBk:Cd:=.cond (.t 14) (.seq (td [14]) (BBm)) (.seq (td [14]) (BBu))
def BBp:Cd:=td [17,18,19,20,21]
def BBr:Cd:=.ret
def BBq:Cd:=.seq (.reg false [o_ 4 (.move (.c .bool false))]) (BBr)
def BBs:Cd:=.skip
def BBo:Cd:=.cond (.t 22) (.seq (td [22]) (BBq)) (.seq (td [22]) (BBs))
def BBt:Cd:=td [15,16]
def BBn:Cd:=.seq (.reg false [mv 15 5,
    bc 16 .add 15 1,
    mv 5 16]) (BBt)
def BBj:Cd:=.seq (.block 1 (.seq (.seq (.reg false [mv 17 0,
    mv 18 5,
    ix 19 (.sl (.int .i64)) 17 18,
    ld 20 (.int .i64) 19,
    o_ 21 (.call (.f 43) [(.t 20),(.c .bool true)] [.d .bool] [] false),
    nt 22 21]) (BBp)) (BBo))) (BBn)
def BBi:Cd:=.tidy [] [] [] (some 0)
def AKl:Cd:=.seq (.seq (.seq (.seq (.reg false [mv 11 5,
    mv 12 0,
    le 13 12,
    bi 14 .lss 11 13]) (BBl)) (BBk)) (BBj)) (BBi)
def BLo:Cd:=.block 0 (.loop (AKl))
def BBw:Cd:=td [23,24,25]
def BBv:Cd:=.ret
def ARl:Cd:=.seq (.seq (.reg false [mv 23 0,
    le 24 23,
    bc 25 .leq 24 16,
    mv 4 25]) (BBw)) (BBv)
def BLh:Cd:=.seq (.seq (.reg false [ci 5 0]) (BLo)) (ARl)
def BLg:Cd:=.seq (.seq (.seq (.reg false [mv 6 1,
    nt 7 6]) (BLj)) (BLi)) (BLh)
def Zh.fn:Fn:=⟨2,[.tmp 4],.seq (.reg false [o_ 4 (.move (.c .bool false))]) (BLg)⟩
def BIn:Cd:=td [4,5]
def BIq:Cd:=td [6,7,8,9,10,11,12,13,14,15,16,17,18,19,20,21,22,23,24,25,26,27,28,29]
def BIs:Cd:=.ret
def BIr:Cd:=.seq (.reg false [o_ 2 (.move (.c .bool false))]) (BIs)
def BIt:Cd:=.skip
def BIp:Cd:=.cond (.t 30) (.seq (td [30]) (BIr)) (.seq (td [30]) (BIt))
def AXf:Cd:=td [31,32,33,34,35,36,37,38,39,40,41,42,43,44,45,46,47,48,49,50,51,52,53,54,55,56,57,58,59,60,61,62,63,64,65,66,67,68,69,70,71,72,73,74,75,76,77,78,79,80,81,82,83,84,85,86,87,88,89,90,91,92,93]
def BIu:Cd:=.ret
def BIo:Cd:=.seq (.seq (.reg false [fa 31 Zw 2 1,
    ld 32 (.int .i64) 31,
    mv 33 3,
    bc 34 .geq 33 3,
    mv 35 34,
    og 36 (.move (.t 3)) 35 true,
    og 37 (.bin .leq (.t 36) (.c (.int .i64) (7:Int))) 35 true,
    o_ 38 (.pick (.t 35) (.t 37) (.c .bool false)),
    o_ 39 (.call (.f 43) [(.t 32),(.t 38)] [.d .bool] [] false),
    mv 40 39,
    og 41 (.fieldAddr (.d Zw) 3 (.t 1)) 40 true,
    og 42 (.load (.d (.int .i64)) (.t 41)) 40 true,
    og 43 (.move (.t 3)) 40 true,
    og 44 (.bin .eql (.t 43) (.c (.int .i64) (5:Int))) 40 true,
    og 45 (.move (.t 44)) 40 true,
    og 46 (.move (.t 3)) 45 false,
    og 47 (.bin .eql (.t 46) (.c (.int .i64) (6:Int))) 45 false,
    og 48 (.pick (.t 45) (.c .bool true) (.t 47)) 40 true,
    og 49 (.call (.f 43) [(.t 42),(.t 48)] [.d .bool] [] false) 40 true,
    o_ 50 (.pick (.t 40) (.t 49) (.c .bool false)),
    mv 51 50,
    og 52 (.fieldAddr (.d Zw) 4 (.t 1)) 51 true,
    og 53 (.load (.d (.int .i64)) (.t 52)) 51 true,
    og 54 (.move (.t 3)) 51 true,
    og 55 (.bin .eql (.t 54) (.c (.int .i64) (2:Int))) 51 true,
    og 56 (.move (.t 55)) 51 true,
    og 57 (.move (.t 3)) 56 false,
    og 58 (.bin .eql (.t 57) (.c (.int .i64) (7:Int))) 56 false,
    og 59 (.pick (.t 56) (.c .bool true) (.t 58)) 51 true,
    og 60 (.move (.t 59)) 51 true,
    og 61 (.move (.t 3)) 60 false,
    og 62 (.bin .eql (.t 61) (.c (.int .i64) (8:Int))) 60 false,
    og 63 (.pick (.t 60) (.c .bool true) (.t 62)) 51 true,
    og 64 (.call (.f 43) [(.t 53),(.t 63)] [.d .bool] [] false) 51 true,
    o_ 65 (.pick (.t 51) (.t 64) (.c .bool false)),
    mv 66 65,
    og 67 (.fieldAddr (.d Zw) 6 (.t 1)) 66 true,
    og 68 (.load (.d (.int .i64)) (.t 67)) 66 true,
    og 69 (.move (.t 3)) 66 true,
    og 70 (.bin .eql (.t 69) (.c (.int .i64) (8:Int))) 66 true,
    og 71 (.call (.f 43) [(.t 68),(.t 70)] [.d .bool] [] false) 66 true,
    o_ 72 (.pick (.t 66) (.t 71) (.c .bool false)),
    mv 73 72,
    og 74 (.fieldAddr (.d Zw) 8 (.t 1)) 73 true,
    og 75 (.load (.d (.int .i64)) (.t 74)) 73 true,
    og 76 (.move (.t 3)) 73 true,
    og 77 (.bin .eql (.t 76) (.c (.int .i64) (8:Int))) 73 true,
    og 78 (.call (.f 43) [(.t 75),(.t 77)] [.d .bool] [] false) 73 true,
    o_ 79 (.pick (.t 73) (.t 78) (.c .bool false)),
    mv 80 79,
    og 81 (.fieldAddr (.d Zw) 5 (.t 1)) 80 true,
    og 82 (.load (.d (.sl (.int .i64))) (.t 81)) 80 true,
    og 83 (.move (.t 3)) 80 true,
    og 84 (.bin .eql (.t 83) (.c (.int .i64) (8:Int))) 80 true,
    og 85 (.call (.f 44) [(.t 82),(.t 84)] [.d .bool] [] false) 80 true,
    o_ 86 (.pick (.t 80) (.t 85) (.c .bool false)),
    mv 87 86,
    og 88 (.fieldAddr (.d Zw) 7 (.t 1)) 87 true,
    og 89 (.load (.d (.sl (.int .i64))) (.t 88)) 87 true,
    og 90 (.move (.t 3)) 87 true,
    og 91 (.bin .eql (.t 90) (.c (.int .i64) (8:Int))) 87 true,
    og 92 (.call (.f 44) [(.t 89),(.t 91)] [.d .bool] [] false) 87 true,
    o_ 93 (.pick (.t 87) (.t 92) (.c .bool false)),
    mv 2 93]) (AXf)) (BIu)
def BIm:Cd:=.seq (.seq (.seq (.reg false [mv 6 3,
    bc 7 .lss 6 1,
    mv 8 7,
    og 9 (.move (.t 3)) 8 false,
    og 10 (.bin .gtr (.t 9) (.c (.int .i64) (10:Int))) 8 false,
    o_ 11 (.pick (.t 8) (.c .bool true) (.t 10)),
    mv 12 11,
    og 13 (.fieldAddr (.d Zw) 1 (.t 1)) 12 false,
    og 14 (.load (.d (.int .i64)) (.t 13)) 12 false,
    og 15 (.bin .lss (.t 14) (.c (.int .i64) (0:Int))) 12 false,
    o_ 16 (.pick (.t 12) (.c .bool true) (.t 15)),
    mv 17 16,
    og 18 (.fieldAddr (.d Zw) 1 (.t 1)) 17 false,
    og 19 (.load (.d (.int .i64)) (.t 18)) 17 false,
    og 20 (.bin .gtr (.t 19) (.c (.int .i64) (3:Int))) 17 false,
    o_ 21 (.pick (.t 17) (.c .bool true) (.t 20)),
    mv 22 21,
    og 23 (.fieldAddr (.d Zw) 1 (.t 1)) 22 false,
    og 24 (.load (.d (.int .i64)) (.t 23)) 22 false,
    og 25 (.bin .neq (.t 24) (.c (.int .i64) (0:Int))) 22 false,
    og 26 (.move (.t 25)) 22 false,
    og 27 (.move (.t 3)) 26 true,
    og 28 (.bin .gtr (.t 27) (.c (.int .i64) (2:Int))) 26 true,
    og 29 (.pick (.t 26) (.t 28) (.c .bool false)) 22 false,
    o_ 30 (.pick (.t 22) (.c .bool true) (.t 29))]) (BIq)) (BIp)) (BIo)
def BIl:Cd:=.seq (.seq (.reg false [fa 4 Zw 0 1,
    ld 5 (.int .i64) 4,
    mv 3 5]) (BIn)) (BIm)
def X2.fn:Fn:=⟨1,[.tmp 2],.seq (.reg false [bx 1 0 0,
    o_ 2 (.move (.c .bool false))]) (BIl)⟩
def BUj:Cd:=td [19,20,21,22,23,24,25,26,27,28,29,30,31,32,33,34]
def BUm:Cd:=td [36]
def BUl:Cd:=.ret
def BUk:Cd:=.seq (.seq (.reg false [o_ 36 (.call (.f 7) [] [.d .bool] [] false),
    mv 6 36]) (BUm)) (BUl)
def BUn:Cd:=.skip
def BUi:Cd:=.cond (.t 35) (.seq (td [35]) (BUk)) (.seq (td [35]) (BUn))
def BUp:Cd:=td [37,38,39,40,41,42]
def BOz:Cd:=td [43,44,45,46,47,48,49]
def BO2:Cd:=td [50,51]
def BO4:Cd:=.ret
def BO3:Cd:=.seq (.reg false [o_ 6 (.move (.c .bool true))]) (BO4)
def BO5:Cd:=.skip
def BO1:Cd:=.cond (.t 52) (.seq (td [52]) (BO3)) (.seq (td [52]) (BO5))
def BO7:Cd:=td [10,53,54,55,56,57,58,59]
def BO9:Cd:=td [12,60,61,62,63,64,65,66]
def BPc:Cd:=td [67]
def BPe:Cd:=td [68,69]
def BPh:Cd:=td [70]
def BPj:Cd:=td [73]
def BPm:Cd:=td [74,75,76,77,78]
def BPl:Cd:=.ret
def BPk:Cd:=.seq (.seq (.reg false [fa 74 Zn 2 13,
    ld 75 (.int .i64) 74,
    fa 76 Zn 2 9,
    ld 77 (.int .i64) 76,
    bi 78 .eql 75 77,
    mv 6 78]) (BPm)) (BPl)
def BPq:Cd:=td [80]
def BQz:Cd:=td [81]
def BPp:Cd:=.cond (.t 79) (.skip) (.seq (.reg false [bc 81 .eql 71 6,
    mv 79 81]) (BQz))
def BPs:Cd:=td [82,83]
def BPt:Cd:=td [84,85]
def BPr:Cd:=.seq (.reg false [mv 84 7,
    o_ 85 (.build Zb [(0,(.c (.int .i64) (1:Int))),(1,(.t 84))] []),
    sr Zb 15 85]) (BPt)
def BQi:Cd:=td [87]
def BQl:Cd:=td [88,89]
def BQn:Cd:=td [90,91,92]
def BQo:Cd:=td [93,94]
def BQm:Cd:=.seq (.reg false [fa 93 Zn 4 13,
    ld 94 (.sl Z2) 93,
    mv 16 94]) (BQo)
def BQk:Cd:=.seq (.seq (.reg false [fa 90 Zn 2 13,
    ld 91 (.int .i64) 90,
    o_ 92 (.build Zb [(1,(.t 91))] []),
    sr Zb 15 92]) (BQn)) (BQm)
def BQj:Cd:=.seq (.seq (.reg false [fa 88 Zw 2 5,
    ld 89 (.int .i64) 88,
    mv 14 89]) (BQl)) (BQk)
def BQr:Cd:=td [96]
def BQu:Cd:=td [97,98]
def BQw:Cd:=td [99,100,101]
def BQx:Cd:=td [102,103,104,105,106,107,108]
def BQv:Cd:=.seq (.reg true [od 102 (.slice 9 Z2 []) [] [9],
    od 103 (.fieldAddr (.d Zn) 4 (.t 11)) [5] [],
    od 104 (.load (.d (.sl Z2)) (.t 103)) [5] [],
    od 105 (.append 10 Z2 (.t 102) (.t 104)) [] [9,10],
    od 106 (.fieldAddr (.d Zn) 4 (.t 13)) [7] [],
    od 107 (.load (.d (.sl Z2)) (.t 106)) [7] [],
    od 108 (.append 11 Z2 (.t 105) (.t 107)) [] [10,11],
    mv 16 108]) (BQx)
def BQt:Cd:=.seq (.seq (.reg false [fa 99 Zw 3 5,
    ld 100 (.int .i64) 99,
    o_ 101 (.build Zb [(0,(.c (.int .i64) (2:Int))),(1,(.t 100))] []),
    sr Zb 15 101]) (BQw)) (BQv)
def BQs:Cd:=.seq (.seq (.reg false [fa 97 Zw 2 5,
    ld 98 (.int .i64) 97,
    mv 14 98]) (BQu)) (BQt)
def BQy:Cd:=.skip
def BQq:Cd:=.cond (.t 95) (.seq (td [95]) (BQs)) (.seq (td [95]) (BQy))
def BQp:Cd:=.seq (.seq (.reg false [bc 96 .eql 71 5,
    mv 95 96]) (BQr)) (BQq)
def BQh:Cd:=.cond (.t 86) (.seq (td [86]) (BQj)) (.seq (td [86]) (BQp))
def BPo:Cd:=.cond (.t 79) (.seq (.seq (.reg false [fa 82 Zw 2 5,
    ld 83 (.int .i64) 82,
    mv 14 83]) (BPs)) (BPr)) (.seq (.seq (.reg false [bc 87 .eql 71 4,
    mv 86 87]) (BQi)) (BQh))
def BPn:Cd:=.seq (.seq (.seq (.reg false [bc 80 .eql 71 3,
    mv 79 80]) (BPq)) (BPp)) (BPo)
def BPi:Cd:=.cond (.t 72) (.seq (td [72]) (BPk)) (.seq (td [72]) (BPn))
def BPg:Cd:=.block 0 (.seq (.seq (.reg false [bc 73 .eql 71 1,
    mv 72 73]) (BPj)) (BPi))
def BPw:Cd:=td [109]
def BPy:Cd:=.ret
def BPx:Cd:=.seq (.reg false [o_ 6 (.move (.c .bool true))]) (BPy)
def BPz:Cd:=.skip
def BPv:Cd:=.cond (.t 110) (.seq (td [110]) (BPx)) (.seq (td [110]) (BPz))
def BP5:Cd:=td [111,112,113]
def BP6:Cd:=.skip
def BQe:Cd:=.exit 1
def BP4:Cd:=.cond (.t 114) (.seq (td [114]) (BP6)) (.seq (td [114]) (BQe))
def BP9:Cd:=td [117,118,119,120,121,122,123]
def BQb:Cd:=td [125,126]
def BQa:Cd:=.seq (.reg false [mv 125 17,
    bc 126 .add 125 1,
    mv 17 126]) (BQb)
def BQd:Cd:=.skip
def BP8:Cd:=.cond (.t 124) (.seq (td [124]) (BQa)) (.seq (td [124]) (BQd))
def BQc:Cd:=td [115,116]
def BP7:Cd:=.seq (.reg false [mv 115 18,
    bc 116 .add 115 1,
    mv 18 116]) (BQc)
def BP3:Cd:=.seq (.block 2 (.seq (.seq (.reg true [mv 117 16,
    mv 118 18,
    od 119 (.index (.sl Z2) (.t 117) (.t 118)) [11] [],
    od 120 (.load (.d Z2) (.t 119)) [11] [],
    mv 121 14,
    od 122 (.load (.d Zb) (.t 15)) [8] [],
    o_ 123 (.build Z2 [(0,(.t 121)),(1,(.t 122))] []),
    o_ 124 (.eqs Z2 false (.t 120) (.t 123))]) (BP9)) (BP8))) (BP7)
def BP2:Cd:=.tidy [] [] [] (some 12)
def AKr:Cd:=.seq (.seq (.seq (.seq (.reg false [mv 111 18,
    mv 112 16,
    le 113 112,
    bi 114 .lss 111 113]) (BP5)) (BP4)) (BP3)) (BP2)
def BP1:Cd:=.block 1 (.loop (AKr))
def BQg:Cd:=td [127,128]
def BQf:Cd:=.ret
def AKq:Cd:=.seq (.seq (.reg false [mv 127 17,
    bc 128 .eql 127 1,
    mv 6 128]) (BQg)) (BQf)
def BP0:Cd:=.seq (.seq (.reg false [ci 18 0]) (BP1)) (AKq)
def BPu:Cd:=.seq (.reg false [ci 17 0]) (BP0)
def BPf:Cd:=.seq (.seq (.seq (.reg false [mv 109 14,
    bc 110 .lss 109 0]) (BPw)) (BPv)) (BPu)
def BPd:Cd:=.seq (.seq (.seq (.reg false [fa 70 Zw 0 5,
    ld 71 (.int .i64) 70]) (BPh)) (BPg)) (BPf)
def BPb:Cd:=.seq (.seq (.reg false [fa 68 Zn 4 11,
    ld 69 (.sl Z2) 68,
    mv 16 69]) (BPe)) (BPd)
def BPa:Cd:=.seq (.seq (.reg false [o_ 67 (.build Zb [] []),
    nb 15 8 Zb,
    sr Zb 15 67]) (BPc)) (BPb)
def BO8:Cd:=.seq (.reg false [o_ 14 (.move (.c (.int .i64) ((-1):Int)))]) (BPa)
def BO6:Cd:=.seq (.seq (.reg false [ld 61 Za 8,
    mv 62 7,
    o_ 63 (.build Zw [(0,(.c (.int .i64) (9:Int)))] []),
    o_ 64 (.call (.f 10) [(.t 61),(.t 62),(.t 63)] [.d Za,.d Zn] [] false),
    mv 60 64,
    xt 65 60 0,
    xt 66 60 1,
    nb 12 6 Za,
    nb 13 7 Zn,
    sr Za 12 65,
    sr Zn 13 66]) (BO9)) (BO8)
def BO0:Cd:=.seq (.seq (.reg false [ld 54 Za 8,
    mv 55 7,
    o_ 56 (.build Zw [(0,(.c (.int .i64) (10:Int)))] []),
    o_ 57 (.call (.f 10) [(.t 54),(.t 55),(.t 56)] [.d Za,.d Zn] [] false),
    mv 53 57,
    xt 58 53 0,
    xt 59 53 1,
    nb 10 4 Za,
    nb 11 5 Zn,
    sr Za 10 58,
    sr Zn 11 59]) (BO7)) (BO6)
def BOy:Cd:=.seq (.seq (.seq (.reg false [fa 50 Zn 0 9,
    ld 51 (.int .i64) 50,
    bc 52 .neq 51 0]) (BO2)) (BO1)) (BO0)
def BUo:Cd:=.seq (.seq (.reg false [ld 44 Za 3,
    mv 45 7,
    ld 46 Zw 5,
    o_ 47 (.call (.f 10) [(.t 44),(.t 45),(.t 46)] [.d Za,.d Zn] [] false),
    mv 43 47,
    xt 48 43 0,
    xt 49 43 1,
    nb 8 2 Za,
    nb 9 3 Zn,
    sr Za 8 48,
    sr Zn 9 49]) (BOz)) (BOy)
def BUh:Cd:=.seq (.seq (.reg false [mv 37 1,
    o_ 38 (.conv .i64 (.t 37)),
    fa 39 Za 1 3,
    o_ 40 (.load (.d (.sl (.int .i64))) (.t 39)),
    le 41 40,
    bi 42 .rem 38 41,
    mv 7 42]) (BUp)) (BUo)
def BUg:Cd:=.seq (.seq (.seq (.reg false [o_ 19 (.call (.f 7) [] [.d .bool] [] false),
    nt 20 19,
    mv 21 20,
    og 22 (.load (.d Za) (.t 3)) 21 false,
    og 23 (.call (.f 8) [(.t 22)] [.d .bool] [] false) 21 false,
    og 24 (.not (.t 23)) 21 false,
    o_ 25 (.pick (.t 21) (.c .bool true) (.t 24)),
    mv 26 25,
    og 27 (.load (.d Zw) (.t 5)) 26 false,
    og 28 (.call (.f 9) [(.t 27)] [.d .bool] [] false) 26 false,
    og 29 (.not (.t 28)) 26 false,
    o_ 30 (.pick (.t 26) (.c .bool true) (.t 29)),
    mv 31 30,
    og 32 (.load (.d Zw) (.t 5)) 31 false,
    og 33 (.call (.f 17) [(.t 32)] [.d .bool] [] false) 31 false,
    og 34 (.not (.t 33)) 31 false,
    o_ 35 (.pick (.t 31) (.c .bool true) (.t 34))]) (BUj)) (BUi)) (BUh)
def Zi.fn:Fn:=⟨3,[.tmp 6],.seq (.reg false [bx 3 0 0,
    bx 5 1 2,
    o_ 6 (.move (.c .bool false))]) (BUg)⟩
def BMg:Cd:=td [3]
def BMf:Cd:=.ret
def BMe:Cd:=.seq (.seq (.reg false [o_ 3 (.func 86 [(.t 1)]),
    mv 2 3]) (BMg)) (BMf)
def Pg.fn:Fn:=⟨1,[.tmp 2],.seq (.reg false [bx 1 0 0,
    o_ 2 (.move .nf)]) (BMe)⟩
def BMw:Cd:=td [3]
def BMv:Cd:=.ret
def BMu:Cd:=.seq (.seq (.reg false [o_ 3 (.func 91 [(.t 1)]),
    mv 2 3]) (BMw)) (BMv)
def Ph.fn:Fn:=⟨1,[.tmp 2],.seq (.reg false [bx 1 0 0,
    o_ 2 (.move .nf)]) (BMu)⟩
def BOs:Cd:=td [3]
def BOr:Cd:=.ret
def BOq:Cd:=.seq (.seq (.reg false [o_ 3 (.func 123 [(.t 1)]),
    mv 2 3]) (BOs)) (BOr)
def Tp.fn:Fn:=⟨1,[.tmp 2],.seq (.reg false [bx 1 0 0,
    o_ 2 (.move .nf)]) (BOq)⟩
def prog:FuncId→Option Fn
  | 6=>some Zi.fn
  | 7=>some Xw.fn
  | 8=>some X4.fn
  | 9=>some X8.fn
  | 10=>some Q0.fn
  | 13=>some Q7.fn
  | 14=>some Zg.fn
  | 17=>some X2.fn
  | 18=>some Jr.fn
  | 19=>some Wv.fn
  | 20=>some X3.fn
  | 21=>some K1.fn
  | 33=>some Q6.fn
  | 35=>some Qv.fn
  | 36=>some Zc.fn
  | 37=>some Z5.fn
  | 38=>some X7.fn
  | 39=>some Zx.fn
  | 40=>some Zz.fn
  | 41=>some X9.fn
  | 43=>some Zf.fn
  | 44=>some Zh.fn
  | 45=>some K9.fn
  | 46=>some Ha.fn
  | 47=>some Y9.fn
  | 48=>some Gg.fn
  | 49=>some Ka.fn
  | 50=>some Hy.fn
  | 51=>some Pg.fn
  | 52=>some Qd.fn
  | 53=>some V7.fn
  | 54=>some Qe.fn
  | 55=>some V8.fn
  | 56=>some Ph.fn
  | 57=>some Qf.fn
  | 58=>some Hb.fn
  | 59=>some Qg.fn
  | 60=>some V5.fn
  | 61=>some Qh.fn
  | 62=>some V1.fn
  | 63=>some Qi.fn
  | 64=>some Vf.fn
  | 65=>some Qj.fn
  | 66=>some Vg.fn
  | 67=>some Z1.fn
  | 68=>some Tp.fn
  | 69=>some Vh.fn
  | 70=>some V6.fn
  | 81=>some Kp.fn
  | 82=>some Ue.fn
  | 83=>some Zo.fn
  | 84=>some Z7.fn
  | 85=>some V2.fn
  | 86=>some Qk.fn
  | 87=>some Yc.fn
  | 88=>some Vv.fn
  | 89=>some J3.fn
  | 90=>some Jj.fn
  | 91=>some Ql.fn
  | 92=>some Qx.fn
  | 93=>some Vp.fn
  | 94=>some Yy.fn
  | 95=>some Yt.fn
  | 96=>some Qt.fn
  | 97=>some Jd.fn
  | 98=>some Jq.fn
  | 99=>some Je.fn
  | 100=>some Jf.fn
  | 102=>some Jg.fn
  | 103=>some Ja.fn
  | 104=>some Xh.fn
  | 105=>some Jh.fn
  | 106=>some Qz.fn
  | 107=>some K3.fn
  | 108=>some Yg.fn
  | 109=>some Qm.fn
  | 110=>some Qn.fn
  | 111=>some Qo.fn
  | 112=>some Qp.fn
  | 113=>some Ks.fn
  | 114=>some Y2.fn
  | 115=>some Yn.fn
  | 117=>some Yq.fn
  | 118=>some Yi.fn
  | 119=>some Y0.fn
  | 120=>some Xk.fn
  | 121=>some V3.fn
  | 122=>some Jb.fn
  | 123=>some Yz.fn
  | 124=>some Z8.fn
  | 125=>some Xo.fn
  | 127=>some Zk.fn
  | 128=>some Qs.fn
  | 129=>some J8.fn
  | 130=>some Vs.fn
  | 131=>some H4.fn
  | 133=>some Yp.fn
  | 135=>some Hz.fn
  | _=>none
end Go.Proofs.YtpemapoblhleoaaGreatDoor.Ghost
