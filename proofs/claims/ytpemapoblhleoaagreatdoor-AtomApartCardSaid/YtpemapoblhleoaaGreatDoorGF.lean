/- The functions as ghost code. Conditions: none; no statement is proved here. -/
import Derived.Test.YtpemapoblhleoaaGreatDoorA1
set_option linter.unusedVariables false
set_option linter.unusedSimpArgs false
set_option linter.unusedSectionVars false
set_option linter.unnecessarySimpa false
namespace Go.Proofs.YtpemapoblhleoaaGreatDoor.Ghost
open Go
def o_ (d:Nat) (x:GOp):Ln:=⟨some d,x,none,[],[]⟩
def on_ (x:GOp):Ln:=⟨none,x,none,[],[]⟩
def og (d:Nat) (x:GOp) (g:Nat) (b:Bool):Ln:=⟨some d,x,some (g,b),[],[]⟩
def od (d:Nat) (x:GOp) (r w:List Nat):Ln:=⟨some d,x,none,r,w⟩
def ogd (d:Nat) (x:GOp) (g:Nat) (b:Bool) (r:List Nat):Ln:=⟨some d,x,some (g,b),r,[]⟩
def mv (d i:Nat):Ln:=⟨some d,.move (.t i),none,[],[]⟩
def ld (d:Nat) (t:Ty) (i:Nat):Ln:=⟨some d,.load (.d t) (.t i),none,[],[]⟩
def fa (d:Nat) (t:Ty) (j i:Nat):Ln:=⟨some d,.fieldAddr (.d t) j (.t i),none,[],[]⟩
def bi (d:Nat) (b:BinOp) (i j:Nat):Ln:=⟨some d,.bin b (.t i) (.t j),none,[],[]⟩
def bc (d:Nat) (b:BinOp) (i:Nat) (n:Int):Ln:=⟨some d,.bin b (.t i) (.c (.int .i64) n),none,[],[]⟩
def ix (d:Nat) (t:IT) (i j:Nat):Ln:=⟨some d,.index t (.t i) (.t j),none,[],[]⟩
def le (d i:Nat):Ln:=⟨some d,.len (.t i),none,[],[]⟩
def xt (d i j:Nat):Ln:=⟨some d,.extract (.t i) j,none,[],[]⟩
def nt (d i:Nat):Ln:=⟨some d,.not (.t i),none,[],[]⟩
def ci (d:Nat) (n:Int):Ln:=⟨some d,.move (.c (.int .i64) n),none,[],[]⟩
def sr (t:Ty) (i j:Nat):Ln:=⟨none,.store (.d t) (.t i) (.t j),none,[],[]⟩
def nb (d k:Nat) (t:Ty):Ln:=⟨some d,.newbox k t [],none,[],[]⟩
def bx (d k i:Nat):Ln:=⟨some d,.box k (.t i),none,[],[]⟩
def td (l:List Nat):Cd:=.tidy l [] [] none
abbrev Zu:Ty:=.st [(.sl (.arr 4 (.int .i64))),(.sl (.int .i64)),(.sl (.int .i64)),(.sl (.int .i64)),(.sl .bool),(.int .i64),(.int .i64),(.int .i64)]
abbrev Zb:Ty:=.st [(.int .i64),(.int .i64)]
abbrev Za:Ty:=.st [Zu,(.sl (.int .i64)),(.sl (.int .i64)),(.sl Zb)]
abbrev Z1:Ty:=.st [(.int .i64),(.int .i64),(.int .i64),(.int .i64),(.int .i64),(.sl (.int .i64)),(.int .i64),(.sl (.int .i64)),(.int .i64)]
abbrev X7:Ty:=.st [(.int .i64),Zb]
abbrev Zn:Ty:=.st [(.int .i64),(.int .i64),(.int .i64),(.sl (.int .i64)),(.sl X7),(.int .i64)]
abbrev Of:Ty:=.st [(.int .i64),Z1,(.int .i64),(.int .i64),Zn]
abbrev Ua:Ty:=.st [(.int .i64),(.int .i64),(.int .i64),(.int .i64),(.int .i64),(.int .i64),(.int .i64)]
def BI3:Cd:=td [5,6]
def BI5:Cd:=td [7,8,9,10,11,12]
def BI7:Cd:=td [13,14,15,16,17,18]
def AXu:Cd:=td [19,20,21,22]
def AXv:Cd:=.skip
def AXz:Cd:=.exit 0
def AXt:Cd:=.cond (.t 23) (.seq (td [23]) (AXv)) (.seq (td [23]) (AXz))
def AXx:Cd:=td [26,27,28,29,30,31,32,33,34,35,36]
def AXy:Cd:=td [24,25]
def AXw:Cd:=.seq (.reg false [mv 24 4,
    bc 25 .add 24 1,
    mv 4 25]) (AXy)
def AXs:Cd:=.seq (.block 1 (.seq (.reg true [od 26 (.fieldAddr (.d Za) 3 (.t 3)) [2] [],
    od 27 (.load (.d (.sl Zb)) (.t 26)) [2] [],
    od 28 (.fieldAddr (.d Zu) 3 (.t 1)) [0] [],
    od 29 (.load (.d (.sl (.int .i64))) (.t 28)) [0] [],
    mv 30 4,
    ix 31 (.sl (.int .i64)) 29 30,
    ld 32 (.int .i64) 31,
    o_ 33 (.build Zb [(1,(.t 32))] []),
    od 34 (.slice 5 Zb [(.t 33)]) [] [5],
    od 35 (.append 6 Zb (.t 27) (.t 34)) [5] [6,9],
    od 36 (.fieldAddr (.d Za) 3 (.t 3)) [2] [],
    ⟨none,.store (.d (.sl Zb)) (.t 36) (.t 35),none,[],[2]⟩]) (AXx))) (AXw)
def AXr:Cd:=.tidy [] [(6,9)] [5] (some 10)
def BJa:Cd:=.seq (.seq (.seq (.seq (.reg false [mv 19 4,
    fa 20 Zu 3 1,
    o_ 21 (.load (.d (.sl (.int .i64))) (.t 20)),
    le 22 21,
    bi 23 .lss 19 22]) (AXu)) (AXt)) (AXs)) (AXr)
def BI9:Cd:=.block 0 (.loop (BJa))
def AX1:Cd:=td [37]
def AX0:Cd:=.ret
def BI8:Cd:=.seq (.seq (.reg false [ld 37 Za 3,
    sr Za 2 37]) (AX1)) (AX0)
def BI6:Cd:=.seq (.seq (.reg false [ci 4 0]) (BI9)) (BI8)
def BI4:Cd:=.seq (.seq (.reg false [fa 13 Za 2 3,
    o_ 14 (.load (.d (.sl (.int .i64))) (.t 13)),
    fa 15 Zu 2 1,
    o_ 16 (.load (.d (.sl (.int .i64))) (.t 15)),
    o_ 17 (.append 4 (.int .i64) (.t 14) (.t 16)),
    fa 18 Za 2 3,
    on_ (.store (.d (.sl (.int .i64))) (.t 18) (.t 17))]) (BI7)) (BI6)
def BI2:Cd:=.seq (.seq (.reg false [fa 7 Za 1 3,
    o_ 8 (.load (.d (.sl (.int .i64))) (.t 7)),
    fa 9 Zu 1 1,
    o_ 10 (.load (.d (.sl (.int .i64))) (.t 9)),
    o_ 11 (.append 3 (.int .i64) (.t 8) (.t 10)),
    fa 12 Za 1 3,
    on_ (.store (.d (.sl (.int .i64))) (.t 12) (.t 11))]) (BI5)) (BI4)
def BI1:Cd:=.seq (.seq (.reg false [ld 5 Zu 1,
    o_ 6 (.build Za [(0,(.t 5))] [([1],7),([2],8),([3],9)]),
    nb 3 2 Za,
    sr Za 3 6]) (BI3)) (BI2)
def Jq.fn:Fn:=⟨1,[.cell 2 (.d Za)],.seq (.reg false [bx 1 0 0,
    nb 2 1 Za]) (BI1)⟩
def BPo:Cd:=td [5,6,7,8,9,10,11]
def BPq:Cd:=.ret
def BPp:Cd:=.seq (.reg false [o_ 4 (.move (.c .str (⟨#[]⟩:ByteArray)))]) (BPq)
def BPr:Cd:=.skip
def BPn:Cd:=.cond (.t 12) (.seq (td [12]) (BPp)) (.seq (td [12]) (BPr))
def BPt:Cd:=td [13,14,15,16]
def BPs:Cd:=.ret
def BPm:Cd:=.seq (.seq (.reg false [mv 13 0,
    mv 14 1,
    ix 15 (.sl .str) 13 14,
    ld 16 .str 15,
    mv 4 16]) (BPt)) (BPs)
def BPl:Cd:=.seq (.seq (.seq (.reg false [mv 5 1,
    bc 6 .lss 5 0,
    mv 7 6,
    og 8 (.move (.t 1)) 7 false,
    og 9 (.move (.t 0)) 7 false,
    og 10 (.len (.t 9)) 7 false,
    og 11 (.bin .geq (.t 8) (.t 10)) 7 false,
    o_ 12 (.pick (.t 7) (.c .bool true) (.t 11))]) (BPo)) (BPn)) (BPm)
def Kl.fn:Fn:=⟨2,[.tmp 4],.seq (.reg false [o_ 4 (.move (.c .str (⟨#[]⟩:ByteArray)))]) (BPl)⟩
def BLi:Cd:=td [3,4,5]
def BLh:Cd:=.ret
def BLg:Cd:=.seq (.seq (.reg false [o_ 3 (.slicearr 11 .str (.g 0)),
    mv 4 0,
    o_ 5 (.call (.f 81) [(.t 3),(.t 4)] [.d .str] [] false),
    mv 2 5]) (BLi)) (BLh)
def K7.fn:Fn:=⟨1,[.tmp 2],.seq (.reg false [o_ 2 (.move (.c .str (⟨#[]⟩:ByteArray)))]) (BLg)⟩
def BLo:Cd:=td [4,5,6]
def BLr:Cd:=td [7]
def BLt:Cd:=td [10]
def BLv:Cd:=td [11,12,13]
def BLu:Cd:=.seq (.reg false [fa 11 Z1 1 1,
    ld 12 (.int .i64) 11,
    fa 13 Z1 1 3,
    sr (.int .i64) 13 12]) (BLv)
def BCb:Cd:=td [15]
def BCd:Cd:=td [16,17,18,19,20,21]
def BCc:Cd:=.seq (.reg true [od 16 (.fieldAddr (.d Z1) 4 (.t 1)) [0] [],
    od 17 (.load (.d (.int .i64)) (.t 16)) [0] [],
    od 18 (.fieldAddr (.d Z1) 1 (.t 1)) [0] [],
    od 19 (.load (.d (.int .i64)) (.t 18)) [0] [],
    od 20 (.fieldAddr (.d Z1) 4 (.t 3)) [2] [],
    ⟨none,.store (.d (.int .i64)) (.t 20) (.t 17),none,[],[2]⟩,
    od 21 (.fieldAddr (.d Z1) 1 (.t 3)) [2] [],
    ⟨none,.store (.d (.int .i64)) (.t 21) (.t 19),none,[],[2]⟩]) (BCd)
def BCh:Cd:=td [23]
def BCy:Cd:=td [24]
def BCg:Cd:=.cond (.t 22) (.skip) (.seq (.reg false [bc 24 .eql 8 4,
    mv 22 24]) (BCy))
def BCi:Cd:=td [25,26,27]
def BCl:Cd:=td [29]
def BCx:Cd:=td [30]
def BCk:Cd:=.cond (.t 28) (.skip) (.seq (.reg false [bc 30 .eql 8 6,
    mv 28 30]) (BCx))
def BCm:Cd:=td [31,32,33,34,35,36]
def BCo:Cd:=td [38]
def BCq:Cd:=td [39,40,41,42,43,44]
def BCp:Cd:=.seq (.reg true [od 39 (.fieldAddr (.d Z1) 2 (.t 1)) [0] [],
    od 40 (.load (.d (.int .i64)) (.t 39)) [0] [],
    od 41 (.fieldAddr (.d Z1) 4 (.t 1)) [0] [],
    od 42 (.load (.d (.int .i64)) (.t 41)) [0] [],
    od 43 (.fieldAddr (.d Z1) 2 (.t 3)) [2] [],
    ⟨none,.store (.d (.int .i64)) (.t 43) (.t 40),none,[],[2]⟩,
    od 44 (.fieldAddr (.d Z1) 4 (.t 3)) [2] [],
    ⟨none,.store (.d (.int .i64)) (.t 44) (.t 42),none,[],[2]⟩]) (BCq)
def BCt:Cd:=td [46]
def BCv:Cd:=td [47,48,49,50,51,52,53,54,55,56,57,58,59,60,61]
def BCu:Cd:=.seq (.reg true [od 47 (.fieldAddr (.d Z1) 4 (.t 1)) [0] [],
    od 48 (.load (.d (.int .i64)) (.t 47)) [0] [],
    od 49 (.fieldAddr (.d Z1) 5 (.t 1)) [0] [],
    od 50 (.load (.d (.sl (.int .i64))) (.t 49)) [0] [],
    od 51 (.fieldAddr (.d Z1) 6 (.t 1)) [0] [],
    od 52 (.load (.d (.int .i64)) (.t 51)) [0] [],
    od 53 (.fieldAddr (.d Z1) 7 (.t 1)) [0] [],
    od 54 (.load (.d (.sl (.int .i64))) (.t 53)) [0] [],
    od 55 (.fieldAddr (.d Z1) 8 (.t 1)) [0] [],
    od 56 (.load (.d (.int .i64)) (.t 55)) [0] [],
    od 57 (.fieldAddr (.d Z1) 4 (.t 3)) [2] [],
    ⟨none,.store (.d (.int .i64)) (.t 57) (.t 48),none,[],[2]⟩,
    od 58 (.fieldAddr (.d Z1) 5 (.t 3)) [2] [],
    ⟨none,.store (.d (.sl (.int .i64))) (.t 58) (.t 50),none,[],[2]⟩,
    od 59 (.fieldAddr (.d Z1) 6 (.t 3)) [2] [],
    ⟨none,.store (.d (.int .i64)) (.t 59) (.t 52),none,[],[2]⟩,
    od 60 (.fieldAddr (.d Z1) 7 (.t 3)) [2] [],
    ⟨none,.store (.d (.sl (.int .i64))) (.t 60) (.t 54),none,[],[2]⟩,
    od 61 (.fieldAddr (.d Z1) 8 (.t 3)) [2] [],
    ⟨none,.store (.d (.int .i64)) (.t 61) (.t 56),none,[],[2]⟩]) (BCv)
def BCw:Cd:=.skip
def BCs:Cd:=.cond (.t 45) (.seq (td [45]) (BCu)) (.seq (td [45]) (BCw))
def BCr:Cd:=.seq (.seq (.reg false [bc 46 .eql 8 8,
    mv 45 46]) (BCt)) (BCs)
def BCn:Cd:=.cond (.t 37) (.seq (td [37]) (BCp)) (.seq (td [37]) (BCr))
def BCj:Cd:=.cond (.t 28) (.seq (.reg true [od 31 (.fieldAddr (.d Z1) 2 (.t 1)) [0] [],
    od 32 (.load (.d (.int .i64)) (.t 31)) [0] [],
    od 33 (.fieldAddr (.d Z1) 3 (.t 1)) [0] [],
    od 34 (.load (.d (.int .i64)) (.t 33)) [0] [],
    od 35 (.fieldAddr (.d Z1) 2 (.t 3)) [2] [],
    ⟨none,.store (.d (.int .i64)) (.t 35) (.t 32),none,[],[2]⟩,
    od 36 (.fieldAddr (.d Z1) 3 (.t 3)) [2] [],
    ⟨none,.store (.d (.int .i64)) (.t 36) (.t 34),none,[],[2]⟩]) (BCm)) (.seq (.seq (.reg false [bc 38 .eql 8 7,
    mv 37 38]) (BCo)) (BCn))
def BCf:Cd:=.cond (.t 22) (.seq (.reg false [fa 25 Z1 2 1,
    ld 26 (.int .i64) 25,
    fa 27 Z1 2 3,
    sr (.int .i64) 27 26]) (BCi)) (.seq (.seq (.seq (.reg false [bc 29 .eql 8 5,
    mv 28 29]) (BCl)) (BCk)) (BCj))
def BCe:Cd:=.seq (.seq (.seq (.reg false [bc 23 .eql 8 3,
    mv 22 23]) (BCh)) (BCg)) (BCf)
def BCa:Cd:=.cond (.t 14) (.seq (td [14]) (BCc)) (.seq (td [14]) (BCe))
def BB9:Cd:=.seq (.seq (.reg false [bc 15 .eql 8 2,
    mv 14 15]) (BCb)) (BCa)
def BLs:Cd:=.cond (.t 9) (.seq (td [9]) (BLu)) (.seq (td [9]) (BB9))
def BLq:Cd:=.block 0 (.seq (.seq (.reg false [bc 10 .eql 8 1,
    mv 9 10]) (BLt)) (BLs))
def BB8:Cd:=td [62]
def BB7:Cd:=.ret
def BLp:Cd:=.seq (.seq (.reg false [ld 62 Z1 3,
    sr Z1 2 62]) (BB8)) (BB7)
def BLn:Cd:=.seq (.seq (.seq (.reg false [fa 7 Z1 0 1,
    ld 8 (.int .i64) 7]) (BLr)) (BLq)) (BLp)
def BLm:Cd:=.seq (.seq (.reg false [fa 4 Z1 0 1,
    ld 5 (.int .i64) 4,
    o_ 6 (.build Z1 [(0,(.t 5))] []),
    nb 3 2 Z1,
    sr Z1 3 6]) (BLo)) (BLn)
def Qb.fn:Fn:=⟨1,[.cell 2 (.d Z1)],.seq (.reg false [bx 1 0 0,
    nb 2 1 Z1]) (BLm)⟩
def BPw:Cd:=td [3,4,5,6,7,8,9,10,11,12,13,14,15,16,17]
def BPv:Cd:=.ret
def BPu:Cd:=.seq (.seq (.reg false [fa 3 Z1 0 1,
    ld 4 (.int .i64) 3,
    fa 5 Z1 1 1,
    ld 6 (.int .i64) 5,
    fa 7 Z1 2 1,
    ld 8 (.int .i64) 7,
    fa 9 Z1 3 1,
    ld 10 (.int .i64) 9,
    fa 11 Z1 4 1,
    ld 12 (.int .i64) 11,
    fa 13 Z1 6 1,
    ld 14 (.int .i64) 13,
    fa 15 Z1 8 1,
    ld 16 (.int .i64) 15,
    o_ 17 (.build Ua [(0,(.t 4)),(1,(.t 6)),(2,(.t 8)),(3,(.t 10)),(4,(.t 12)),(5,(.t 14)),(6,(.t 16))] []),
    sr Ua 2 17]) (BPw)) (BPv)
def Uf.fn:Fn:=⟨1,[.cell 2 (.d Ua)],.seq (.reg false [bx 1 0 0,
    nb 2 1 Ua]) (BPu)⟩
def BP0:Cd:=td [6,7,8,9]
def BP2:Cd:=.ret
def BP1:Cd:=.seq (.reg false [o_ 4 (.move (.c .bool false))]) (BP2)
def BP3:Cd:=.skip
def BPz:Cd:=.cond (.t 10) (.seq (td [10]) (BP1)) (.seq (td [10]) (BP3))
def BP5:Cd:=td [11]
def BFu:Cd:=.skip
def BF4:Cd:=.exit 0
def BFx:Cd:=td [15]
def BFz:Cd:=td [16,17,18,19,20,21,22,23]
def BF1:Cd:=.ret
def BF0:Cd:=.seq (.reg false [o_ 4 (.move (.c .bool false))]) (BF1)
def BF2:Cd:=.skip
def BFy:Cd:=.cond (.t 24) (.seq (td [24]) (BF0)) (.seq (td [24]) (BF2))
def BFw:Cd:=.seq (.seq (.reg true [mv 16 0,
    mv 17 5,
    ix 18 (.sl (.int .i64)) 16 17,
    ld 19 (.int .i64) 18,
    mv 20 1,
    mv 21 5,
    ix 22 (.sl (.int .i64)) 20 21,
    ld 23 (.int .i64) 22,
    bi 24 .neq 19 23]) (BFz)) (BFy)
def BF3:Cd:=td [25]
def BFv:Cd:=.seq (.reg false [bc 25 .add 13 1,
    mv 13 25]) (BF3)
def BFt:Cd:=.seq (.block 1 (.seq (.seq (.reg false [mv 15 13,
    mv 5 15]) (BFx)) (BFw))) (BFv)
def BFs:Cd:=.seq (.cond (.t 14) (.seq (td [14]) (BFu)) (.seq (td [14]) (BF4))) (BFt)
def BFr:Cd:=.tidy [5] [] [] (some 0)
def AKi:Cd:=.seq (.seq (.reg false [bi 14 .lss 13 12]) (BFs)) (BFr)
def BP4:Cd:=.block 0 (.loop (AKi))
def BF5:Cd:=.ret
def AQ2:Cd:=.seq (.reg false [o_ 4 (.move (.c .bool true))]) (BF5)
def BPy:Cd:=.seq (.seq (.seq (.reg false [mv 11 0,
    le 12 11,
    ci 13 0]) (BP5)) (BP4)) (AQ2)
def BPx:Cd:=.seq (.seq (.seq (.reg false [mv 6 0,
    le 7 6,
    mv 8 1,
    le 9 8,
    bi 10 .neq 7 9]) (BP0)) (BPz)) (BPy)
def Zl.fn:Fn:=⟨2,[.tmp 4],.seq (.reg false [o_ 4 (.move (.c .bool false))]) (BPx)⟩
def BLl:Cd:=td [5,6,7,8,9,10,11,12,13,14,15,16,17,18,19,20,21,22,23]
def BLk:Cd:=.ret
def BLj:Cd:=.seq (.seq (.reg true [od 5 (.load (.d Z1) (.t 2)) [0] [],
    o_ 6 (.call (.f 82) [(.t 5)] [.d Ua] [] false),
    od 7 (.load (.d Z1) (.t 3)) [1] [],
    o_ 8 (.call (.f 82) [(.t 7)] [.d Ua] [] false),
    o_ 9 (.eqs Ua false (.t 6) (.t 8)),
    mv 10 9,
    ogd 11 (.fieldAddr (.d Z1) 5 (.t 2)) 10 true [0],
    ogd 12 (.load (.d (.sl (.int .i64))) (.t 11)) 10 true [0],
    ogd 13 (.fieldAddr (.d Z1) 5 (.t 3)) 10 true [1],
    ogd 14 (.load (.d (.sl (.int .i64))) (.t 13)) 10 true [1],
    og 15 (.call (.f 83) [(.t 12),(.t 14)] [.d .bool] [] false) 10 true,
    o_ 16 (.pick (.t 10) (.t 15) (.c .bool false)),
    mv 17 16,
    ogd 18 (.fieldAddr (.d Z1) 7 (.t 2)) 17 true [0],
    ogd 19 (.load (.d (.sl (.int .i64))) (.t 18)) 17 true [0],
    ogd 20 (.fieldAddr (.d Z1) 7 (.t 3)) 17 true [1],
    ogd 21 (.load (.d (.sl (.int .i64))) (.t 20)) 17 true [1],
    og 22 (.call (.f 83) [(.t 19),(.t 21)] [.d .bool] [] false) 17 true,
    o_ 23 (.pick (.t 17) (.t 22) (.c .bool false)),
    mv 4 23]) (BLl)) (BLk)
def K8.fn:Fn:=⟨2,[.tmp 4],.seq (.reg false [bx 2 0 0,
    bx 3 1 1,
    o_ 4 (.move (.c .bool false))]) (BLj)⟩
def BLy:Cd:=td [3,4,5]
def BLx:Cd:=.ret
def BLw:Cd:=.seq (.seq (.reg false [o_ 3 (.slicearr 4 .str (.g 1)),
    mv 4 0,
    o_ 5 (.call (.f 81) [(.t 3),(.t 4)] [.d .str] [] false),
    mv 2 5]) (BLy)) (BLx)
def Gh.fn:Fn:=⟨1,[.tmp 2],.seq (.reg false [o_ 2 (.move (.c .str (⟨#[]⟩:ByteArray)))]) (BLw)⟩
def BL1:Cd:=td [3,4,5,6,7,8]
def BL0:Cd:=.ret
def BLz:Cd:=.seq (.seq (.reg false [mv 3 0,
    bc 4 .geq 3 0,
    mv 5 4,
    og 6 (.move (.t 0)) 5 true,
    og 7 (.bin .leq (.t 6) (.c (.int .i64) (1073741824:Int))) 5 true,
    o_ 8 (.pick (.t 5) (.t 7) (.c .bool false)),
    mv 2 8]) (BL1)) (BL0)
def Ka.fn:Fn:=⟨1,[.tmp 2],.seq (.reg false [o_ 2 (.move (.c .bool false))]) (BLz)⟩
def BQb:Cd:=td [3,4,5]
def BQa:Cd:=.ret
def BP9:Cd:=.seq (.seq (.reg false [mv 3 0,
    o_ 4 (.call (.f 49) [(.t 3)] [.d .bool] [] false),
    nt 5 4,
    mv 2 5]) (BQb)) (BQa)
def V2.fn:Fn:=⟨1,[.tmp 2],.seq (.reg false [o_ 2 (.move (.c .bool false))]) (BP9)⟩
def AUh:Cd:=td [6]
def AUl:Cd:=.skip
def AO0:Cd:=.exit 0
def AOs:Cd:=td [10]
def AOu:Cd:=td [11,12,13,14,15]
def AOx:Cd:=td [17]
def AOw:Cd:=.ret
def AOv:Cd:=.seq (.seq (.reg false [mv 17 5,
    mv 4 17]) (AOx)) (AOw)
def AOy:Cd:=.skip
def AOt:Cd:=.cond (.t 16) (.seq (td [16]) (AOv)) (.seq (td [16]) (AOy))
def AOr:Cd:=.seq (.seq (.reg false [mv 11 1,
    mv 12 0,
    mv 13 5,
    ix 14 (.sl (.int .i64)) 12 13,
    ld 15 (.int .i64) 14,
    o_ 16 (.call (.t 11) [(.t 15)] [.d .bool] [] false)]) (AOu)) (AOt)
def AOz:Cd:=td [18]
def AUm:Cd:=.seq (.reg false [bc 18 .add 8 1,
    mv 8 18]) (AOz)
def AUk:Cd:=.seq (.block 1 (.seq (.seq (.reg false [mv 10 8,
    mv 5 10]) (AOs)) (AOr))) (AUm)
def AUj:Cd:=.seq (.cond (.t 9) (.seq (td [9]) (AUl)) (.seq (td [9]) (AO0))) (AUk)
def AUi:Cd:=.tidy [5] [] [] (some 0)
def AA9:Cd:=.seq (.seq (.reg false [bi 9 .lss 8 7]) (AUj)) (AUi)
def AUg:Cd:=.block 0 (.loop (AA9))
def AO1:Cd:=.ret
def AA8:Cd:=.seq (.reg false [o_ 4 (.move (.c (.int .i64) ((-1):Int)))]) (AO1)
def AUf:Cd:=.seq (.seq (.seq (.reg false [mv 6 0,
    le 7 6,
    ci 8 0]) (AUh)) (AUg)) (AA8)
def Zh.fn:Fn:=⟨2,[.tmp 4],.seq (.reg false [ci 4 0]) (AUf)⟩
def BP8:Cd:=td [5,6,7,8]
def BP7:Cd:=.ret
def BP6:Cd:=.seq (.seq (.reg false [mv 5 0,
    mv 6 1,
    o_ 7 (.call (.f 127) [(.t 5),(.t 6)] [.d (.int .i64)] [] false),
    bc 8 .geq 7 0,
    mv 4 8]) (BP8)) (BP7)
def Z6.fn:Fn:=⟨2,[.tmp 4],.seq (.reg false [o_ 4 (.move (.c .bool false))]) (BP6)⟩
def BL4:Cd:=td [3,4,5,6,7,8,9,10]
def BL3:Cd:=.ret
def BL2:Cd:=.seq (.seq (.reg false [mv 3 0,
    le 4 3,
    bc 5 .leq 4 16,
    mv 6 5,
    og 7 (.move (.t 0)) 6 true,
    og 8 (.call (.f 84) [(.t 7),(.f 85)] [.d .bool] [] false) 6 true,
    og 9 (.not (.t 8)) 6 true,
    o_ 10 (.pick (.t 6) (.t 9) (.c .bool false)),
    mv 2 10]) (BL4)) (BL3)
def Hx.fn:Fn:=⟨1,[.tmp 2],.seq (.reg false [o_ 2 (.move (.c .bool false))]) (BL2)⟩
def BJs:Cd:=td [3,4,5,6,7,8,9,10,11,12,13,14,15,16,17,18,19,20,21,22,23,24,25,26,27,28,29,30,31,32,33,34,35,36,37,38,39,40,41,42,43,44,45,46,47,48,49,50,51,52,53]
def BJr:Cd:=.ret
def BJq:Cd:=.seq (.seq (.reg true [od 3 (.fieldAddr (.d Z1) 0 (.t 1)) [0] [],
    od 4 (.load (.d (.int .i64)) (.t 3)) [0] [],
    o_ 5 (.call (.f 45) [(.t 4)] [.d .str] [] false),
    o_ 6 (.eqs .str true (.t 5) (.c .str (⟨#[]⟩:ByteArray))),
    mv 7 6,
    ogd 8 (.load (.d Z1) (.t 1)) 7 true [0],
    ogd 9 (.load (.d Z1) (.t 1)) 7 true [0],
    og 10 (.call (.f 47) [(.t 9)] [.d Z1] [] false) 7 true,
    og 11 (.call (.f 46) [(.t 8),(.t 10)] [.d .bool] [] false) 7 true,
    o_ 12 (.pick (.t 7) (.t 11) (.c .bool false)),
    mv 13 12,
    ogd 14 (.fieldAddr (.d Z1) 1 (.t 1)) 13 true [0],
    ogd 15 (.load (.d (.int .i64)) (.t 14)) 13 true [0],
    og 16 (.call (.f 48) [(.t 15)] [.d .str] [] false) 13 true,
    og 17 (.eqs .str true (.t 16) (.c .str (⟨#[]⟩:ByteArray))) 13 true,
    o_ 18 (.pick (.t 13) (.t 17) (.c .bool false)),
    mv 19 18,
    ogd 20 (.fieldAddr (.d Z1) 2 (.t 1)) 19 true [0],
    ogd 21 (.load (.d (.int .i64)) (.t 20)) 19 true [0],
    og 22 (.call (.f 49) [(.t 21)] [.d .bool] [] false) 19 true,
    o_ 23 (.pick (.t 19) (.t 22) (.c .bool false)),
    mv 24 23,
    ogd 25 (.fieldAddr (.d Z1) 3 (.t 1)) 24 true [0],
    ogd 26 (.load (.d (.int .i64)) (.t 25)) 24 true [0],
    og 27 (.call (.f 49) [(.t 26)] [.d .bool] [] false) 24 true,
    o_ 28 (.pick (.t 24) (.t 27) (.c .bool false)),
    mv 29 28,
    ogd 30 (.fieldAddr (.d Z1) 4 (.t 1)) 29 true [0],
    ogd 31 (.load (.d (.int .i64)) (.t 30)) 29 true [0],
    og 32 (.call (.f 49) [(.t 31)] [.d .bool] [] false) 29 true,
    o_ 33 (.pick (.t 29) (.t 32) (.c .bool false)),
    mv 34 33,
    ogd 35 (.fieldAddr (.d Z1) 6 (.t 1)) 34 true [0],
    ogd 36 (.load (.d (.int .i64)) (.t 35)) 34 true [0],
    og 37 (.call (.f 49) [(.t 36)] [.d .bool] [] false) 34 true,
    o_ 38 (.pick (.t 34) (.t 37) (.c .bool false)),
    mv 39 38,
    ogd 40 (.fieldAddr (.d Z1) 8 (.t 1)) 39 true [0],
    ogd 41 (.load (.d (.int .i64)) (.t 40)) 39 true [0],
    og 42 (.call (.f 49) [(.t 41)] [.d .bool] [] false) 39 true,
    o_ 43 (.pick (.t 39) (.t 42) (.c .bool false)),
    mv 44 43,
    ogd 45 (.fieldAddr (.d Z1) 5 (.t 1)) 44 true [0],
    ogd 46 (.load (.d (.sl (.int .i64))) (.t 45)) 44 true [0],
    og 47 (.call (.f 50) [(.t 46)] [.d .bool] [] false) 44 true,
    o_ 48 (.pick (.t 44) (.t 47) (.c .bool false)),
    mv 49 48,
    ogd 50 (.fieldAddr (.d Z1) 7 (.t 1)) 49 true [0],
    ogd 51 (.load (.d (.sl (.int .i64))) (.t 50)) 49 true [0],
    og 52 (.call (.f 50) [(.t 51)] [.d .bool] [] false) 49 true,
    o_ 53 (.pick (.t 49) (.t 52) (.c .bool false)),
    mv 2 53]) (BJs)) (BJr)
def K0.fn:Fn:=⟨1,[.tmp 2],.seq (.reg false [bx 1 0 0,
    o_ 2 (.move (.c .bool false))]) (BJq)⟩
def AV4:Cd:=td [5]
def AV3:Cd:=.ret
def AV2:Cd:=.seq (.seq (.reg false [o_ 5 (.func 138 [(.t 2),(.t 3)]),
    mv 4 5]) (AV4)) (AV3)
def H3.fn:Fn:=⟨2,[.tmp 4],.seq (.reg false [bx 2 0 0,
    bx 3 1 1,
    o_ 4 (.move .nf)]) (AV2)⟩
def AVz:Cd:=td [6,7,8,9]
def AV1:Cd:=td [10,11,12,13,14,15]
def AV0:Cd:=.ret
def AVy:Cd:=.seq (.seq (.reg false [mv 10 5,
    mv 11 5,
    le 12 11,
    bc 13 .sub 12 1,
    ix 14 (.sl Zb) 10 13,
    ld 15 Zb 14,
    sr Zb 4 15]) (AV1)) (AV0)
def AVx:Cd:=.seq (.seq (.reg false [ld 6 Za 2,
    mv 7 1,
    o_ 8 (.call (.f 131) [(.t 6),(.t 7)] [.clo 138 [.ref Za,.ref (.int .i64)]] [] false),
    o_ 9 (.call (.f 132) [(.t 8)] [.d (.sl Zb)] [] false),
    mv 5 9]) (AVz)) (AVy)
def Vq.fn:Fn:=⟨2,[.cell 4 (.d Zb)],.seq (.reg false [bx 2 0 0,
    nb 4 1 Zb]) (AVx)⟩
def AUa:Cd:=td [8]
def AUe:Cd:=.skip
def AOo:Cd:=.exit 0
def AOh:Cd:=td [13,14,15]
def AOj:Cd:=td [16,17,18,19]
def AOl:Cd:=td [21,22,23,24,25,26]
def AOk:Cd:=.seq (.reg false [mv 21 5,
    mv 22 6,
    ld 23 Zb 7,
    o_ 24 (.build X7 [(0,(.t 22)),(1,(.t 23))] []),
    o_ 25 (.slice 3 X7 [(.t 24)]),
    o_ 26 (.append 4 X7 (.t 21) (.t 25)),
    mv 5 26]) (AOl)
def AOn:Cd:=.skip
def AOi:Cd:=.cond (.t 20) (.seq (td [20]) (AOk)) (.seq (td [20]) (AOn))
def AOg:Cd:=.seq (.seq (.reg true [od 16 (.load (.d Za) (.t 2)) [0] [],
    mv 17 6,
    o_ 18 (.call (.f 130) [(.t 16),(.t 17)] [.d Zb] [] false),
    od 19 (.load (.d Zb) (.t 3)) [1] [],
    o_ 20 (.eqs Zb false (.t 18) (.t 19))]) (AOj)) (AOi)
def AOm:Cd:=td [27]
def AOf:Cd:=.seq (.reg false [bc 27 .add 11 1,
    mv 11 27]) (AOm)
def AUd:Cd:=.seq (.block 1 (.seq (.seq (.reg false [mv 13 11,
    ix 14 (.sl Zb) 9 11,
    ld 15 Zb 14,
    nb 7 2 Zb,
    mv 6 13,
    sr Zb 7 15]) (AOh)) (AOg))) (AOf)
def AUc:Cd:=.seq (.cond (.t 12) (.seq (td [12]) (AUe)) (.seq (td [12]) (AOo))) (AUd)
def AUb:Cd:=.tidy [6,7] [(4,5)] [2,3] (some 6)
def AJu:Cd:=.seq (.seq (.reg false [bi 12 .lss 11 10]) (AUc)) (AUb)
def AT9:Cd:=.block 0 (.loop (AJu))
def AOq:Cd:=td [28]
def AOp:Cd:=.ret
def AJt:Cd:=.seq (.seq (.reg false [mv 28 5,
    mv 4 28]) (AOq)) (AOp)
def AT8:Cd:=.seq (.seq (.seq (.reg false [fa 8 Za 3 2,
    ld 9 (.sl Zb) 8,
    le 10 9,
    ci 11 0]) (AUa)) (AT9)) (AJt)
def AT7:Cd:=.seq (.reg false [o_ 5 (.mknil 5 X7)]) (AT8)
def Xn.fn:Fn:=⟨2,[.tmp 4],.seq (.reg false [bx 2 0 0,
    bx 3 1 1,
    o_ 4 (.move (.c (.sl X7) []))]) (AT7)⟩
def BO9:Cd:=td [5,6,7,8,9,10,11,12,13,14]
def BO8:Cd:=.ret
def BO7:Cd:=.seq (.seq (.reg true [od 5 (.fieldAddr (.d Za) 2 (.t 2)) [0] [],
    od 6 (.load (.d (.sl (.int .i64))) (.t 5)) [0] [],
    mv 7 1,
    ix 8 (.sl (.int .i64)) 6 7,
    ld 9 (.int .i64) 8,
    od 10 (.load (.d Za) (.t 2)) [0] [],
    mv 11 1,
    o_ 12 (.build Zb [(0,(.c (.int .i64) (1:Int))),(1,(.t 11))] []),
    o_ 13 (.call (.f 125) [(.t 10),(.t 12)] [.d (.sl X7)] [] false),
    o_ 14 (.build Zn [(1,(.c (.int .i64) (10:Int))),(5,(.t 9)),(4,(.t 13))] []),
    ⟨none,.store (.d Zn) (.t 4) (.t 14),none,[],[1]⟩]) (BO9)) (BO8)
def V6.fn:Fn:=⟨2,[.cell 4 (.d Zn)],.seq (.reg false [bx 2 0 0,
    nb 4 1 Zn]) (BO7)⟩
def ATw:Cd:=td [6]
def ATy:Cd:=td [9,10,11,12,13]
def ATx:Cd:=.ret
def ATv:Cd:=.seq (.seq (.reg true [od 9 (.load (.d Za) (.t 4)) [0] [],
    o_ 10 (.load (.v false 1) (.t 3)),
    od 11 (.load (.d Za) (.t 4)) [0] [],
    mv 12 1,
    o_ 13 (.call (.t 10) [(.t 11),(.t 12)] [.d Zn] [] false),
    ⟨none,.store (.d Za) (.t 7) (.t 9),none,[],[2]⟩,
    ⟨none,.store (.d Zn) (.t 8) (.t 13),none,[],[3]⟩]) (ATy)) (ATx)
def Y2.fn:Fn:=⟨4,[.cell 7 (.d Za),.cell 8 (.d Zn)],.seq (.seq (.reg false [bx 4 0 0,
    bx 6 1 2,
    nb 7 2 Za,
    nb 8 3 Zn]) (ATw)) (ATv)⟩
def AT2:Cd:=td [7,8]
def AT6:Cd:=.skip
def AOc:Cd:=.exit 0
def AN5:Cd:=td [12]
def AN7:Cd:=td [13,14,15,16,17,18]
def AN9:Cd:=td [20,21,22,23]
def AN8:Cd:=.seq (.reg false [mv 20 5,
    mv 21 6,
    o_ 22 (.slice 1 (.int .i64) [(.t 21)]),
    o_ 23 (.append 2 (.int .i64) (.t 20) (.t 22)),
    mv 5 23]) (AN9)
def AOb:Cd:=.skip
def AN6:Cd:=.cond (.t 19) (.seq (td [19]) (AN8)) (.seq (td [19]) (AOb))
def AN4:Cd:=.seq (.seq (.reg false [fa 13 Za 1 2,
    o_ 14 (.load (.d (.sl (.int .i64))) (.t 13)),
    mv 15 6,
    ix 16 (.sl (.int .i64)) 14 15,
    ld 17 (.int .i64) 16,
    mv 18 1,
    bi 19 .eql 17 18]) (AN7)) (AN6)
def AOa:Cd:=td [24]
def AN3:Cd:=.seq (.reg false [bc 24 .add 10 1,
    mv 10 24]) (AOa)
def AT5:Cd:=.seq (.block 1 (.seq (.seq (.reg false [mv 12 10,
    mv 6 12]) (AN5)) (AN4))) (AN3)
def AT4:Cd:=.seq (.cond (.t 11) (.seq (td [11]) (AT6)) (.seq (td [11]) (AOc))) (AT5)
def AT3:Cd:=.tidy [6] [(2,3)] [1] (some 4)
def AJs:Cd:=.seq (.seq (.reg false [bi 11 .lss 10 9]) (AT4)) (AT3)
def AT1:Cd:=.block 0 (.loop (AJs))
def AOe:Cd:=td [25]
def AOd:Cd:=.ret
def AJr:Cd:=.seq (.seq (.reg false [mv 25 5,
    mv 4 25]) (AOe)) (AOd)
def AT0:Cd:=.seq (.seq (.seq (.reg false [fa 7 Za 1 2,
    o_ 8 (.load (.d (.sl (.int .i64))) (.t 7)),
    le 9 8,
    ci 10 0]) (AT2)) (AT1)) (AJr)
def ATz:Cd:=.seq (.reg false [o_ 5 (.mknil 3 (.int .i64))]) (AT0)
def Z7.fn:Fn:=⟨2,[.tmp 4],.seq (.reg false [bx 2 0 0,
    o_ 4 (.move (.c (.sl (.int .i64)) []))]) (ATz)⟩
def BO4:Cd:=td [6,7,8,9,10]
def BO6:Cd:=td [11,12,13,14,15,16,17,18,19]
def BO5:Cd:=.ret
def BO3:Cd:=.seq (.seq (.reg true [mv 11 5,
    od 12 (.load (.d Za) (.t 2)) [0] [],
    mv 13 5,
    o_ 14 (.call (.f 124) [(.t 12),(.t 13)] [.d (.sl (.int .i64))] [] false),
    od 15 (.load (.d Za) (.t 2)) [0] [],
    mv 16 5,
    o_ 17 (.build Zb [(0,(.c (.int .i64) (0:Int))),(1,(.t 16))] []),
    o_ 18 (.call (.f 125) [(.t 15),(.t 17)] [.d (.sl X7)] [] false),
    o_ 19 (.build Zn [(1,(.c (.int .i64) (9:Int))),(2,(.t 11)),(3,(.t 14)),(4,(.t 18))] []),
    ⟨none,.store (.d Zn) (.t 4) (.t 19),none,[],[1]⟩]) (BO6)) (BO5)
def BO2:Cd:=.seq (.seq (.reg false [fa 6 Za 1 2,
    o_ 7 (.load (.d (.sl (.int .i64))) (.t 6)),
    mv 8 1,
    ix 9 (.sl (.int .i64)) 7 8,
    ld 10 (.int .i64) 9,
    mv 5 10]) (BO4)) (BO3)
def Vf.fn:Fn:=⟨2,[.cell 4 (.d Zn)],.seq (.reg false [bx 2 0 0,
    nb 4 1 Zn]) (BO2)⟩
def ASv:Cd:=td [5,6,7,8,9,10,11,12,13]
def ASu:Cd:=.ret
def ASt:Cd:=.seq (.seq (.reg false [mv 5 1,
    bc 6 .geq 5 0,
    mv 7 6,
    og 8 (.move (.t 1)) 7 true,
    og 9 (.fieldAddr (.d Za) 1 (.t 2)) 7 true,
    og 10 (.load (.d (.sl (.int .i64))) (.t 9)) 7 true,
    og 11 (.len (.t 10)) 7 true,
    og 12 (.bin .lss (.t 8) (.t 11)) 7 true,
    o_ 13 (.pick (.t 7) (.t 12) (.c .bool false)),
    mv 4 13]) (ASv)) (ASu)
def Y4.fn:Fn:=⟨2,[.tmp 4],.seq (.reg false [bx 2 0 0,
    o_ 4 (.move (.c .bool false))]) (ASt)⟩
def ASs:Cd:=td [5,6,7,8,9,10,11,12,13]
def ASr:Cd:=.ret
def ASq:Cd:=.seq (.seq (.reg false [mv 5 1,
    bc 6 .geq 5 0,
    mv 7 6,
    og 8 (.move (.t 1)) 7 true,
    og 9 (.fieldAddr (.d Za) 3 (.t 2)) 7 true,
    og 10 (.load (.d (.sl Zb)) (.t 9)) 7 true,
    og 11 (.len (.t 10)) 7 true,
    og 12 (.bin .lss (.t 8) (.t 11)) 7 true,
    o_ 13 (.pick (.t 7) (.t 12) (.c .bool false)),
    mv 4 13]) (ASs)) (ASr)
def Ko.fn:Fn:=⟨2,[.tmp 4],.seq (.reg false [bx 2 0 0,
    o_ 4 (.move (.c .bool false))]) (ASq)⟩
def AS7:Cd:=td [4,5,6,7]
def AS6:Cd:=.ret
def AS5:Cd:=.seq (.seq (.reg false [ld 4 Za 1,
    mv 5 0,
    o_ 6 (.call (.f 113) [(.t 4),(.t 5)] [.d .bool] [] false),
    nt 7 6,
    mv 3 7]) (AS7)) (AS6)
def Y3.fn:Fn:=⟨2,[.tmp 3],.seq (.reg false [o_ 3 (.move (.c .bool false))]) (AS5)⟩
def ATa:Cd:=td [6]
def ATf:Cd:=.skip
def ANp:Cd:=.exit 0
def ANg:Cd:=td [11,12]
def ANj:Cd:=td [13,14]
def ANl:Cd:=.ret
def ANk:Cd:=.seq (.reg false [o_ 2 (.move (.c .bool true))]) (ANl)
def ANm:Cd:=.skip
def ANi:Cd:=.cond (.t 15) (.seq (td [15]) (ANk)) (.seq (td [15]) (ANm))
def ANn:Cd:=td [16,17]
def ANh:Cd:=.seq (.reg false [mv 16 3,
    mv 17 5,
    on_ (.mapset (.int .i64) .bool (.t 16) (.t 17) (.c .bool true))]) (ANn)
def ANf:Cd:=.seq (.seq (.seq (.reg false [mv 13 3,
    mv 14 5,
    o_ 15 (.lookup (.int .i64) .bool (.t 13) (.t 14))]) (ANj)) (ANi)) (ANh)
def ANo:Cd:=td [18]
def ANe:Cd:=.seq (.reg false [bc 18 .add 9 1,
    mv 9 18]) (ANo)
def ATe:Cd:=.seq (.block 1 (.seq (.seq (.reg false [ix 11 (.sl (.int .i64)) 7 9,
    ld 12 (.int .i64) 11,
    mv 5 12]) (ANg)) (ANf))) (ANe)
def ATd:Cd:=.seq (.cond (.t 10) (.seq (td [10]) (ATf)) (.seq (td [10]) (ANp))) (ATe)
def ATc:Cd:=.tidy [5] [] [] (some 1)
def AJq:Cd:=.seq (.seq (.reg false [bi 10 .lss 9 8]) (ATd)) (ATc)
def ATb:Cd:=.block 0 (.loop (AJq))
def ANq:Cd:=.ret
def AJp:Cd:=.seq (.reg false [o_ 2 (.move (.c .bool false))]) (ANq)
def AS9:Cd:=.seq (.seq (.reg false [mv 7 0,
    le 8 7,
    ci 9 0]) (ATb)) (AJp)
def AS8:Cd:=.seq (.seq (.reg false [o_ 6 (.mkmap 0 (.int .i64) .bool),
    mv 3 6]) (ATa)) (AS9)
def Xi.fn:Fn:=⟨1,[.tmp 2],.seq (.reg false [o_ 2 (.move (.c .bool false))]) (AS8)⟩
def ASy:Cd:=td [3,4]
def ASx:Cd:=.ret
def ASw:Cd:=.seq (.seq (.reg false [mv 3 0,
    o_ 4 (.build Zb [(0,(.c (.int .i64) (1:Int))),(1,(.t 3))] []),
    sr Zb 2 4]) (ASy)) (ASx)
def Yp.fn:Fn:=⟨1,[.cell 2 (.d Zb)],.seq (.reg false [nb 2 0 Zb]) (ASw)⟩
def AS4:Cd:=td [5,6,7,8,9,10,11,12]
def AS3:Cd:=.ret
def AS2:Cd:=.seq (.seq (.reg true [fa 5 Za 3 1,
    ld 6 (.sl Zb) 5,
    mv 7 0,
    ix 8 (.sl Zb) 6 7,
    ld 9 Zb 8,
    ld 10 (.int .i64) 2,
    o_ 11 (.call (.f 115) [(.t 10)] [.d Zb] [] false),
    o_ 12 (.eqs Zb true (.t 9) (.t 11)),
    mv 4 12]) (AS4)) (AS3)
def Yj.fn:Fn:=⟨3,[.tmp 4],.seq (.reg false [o_ 4 (.move (.c .bool false))]) (AS2)⟩
def AS1:Cd:=td [6,7,8]
def AS0:Cd:=.ret
def ASz:Cd:=.seq (.seq (.reg false [mv 6 0,
    o_ 7 (.func 118 [(.t 2),(.t 4)]),
    o_ 8 (.call (.f 84) [(.t 6),(.t 7)] [.d .bool] [] false),
    mv 5 8]) (AS1)) (AS0)
def Yv.fn:Fn:=⟨3,[.tmp 5],.seq (.reg false [bx 4 0 1,
    o_ 5 (.move (.c .bool false))]) (ASz)⟩
def AV8:Cd:=td [8]
def AWc:Cd:=.skip
def APq:Cd:=.exit 0
def APj:Cd:=td [13,14,15]
def APl:Cd:=td [16,17]
def APn:Cd:=td [19,20,21,22]
def APm:Cd:=.seq (.reg false [mv 19 5,
    mv 20 6,
    o_ 21 (.slice 3 (.int .i64) [(.t 20)]),
    o_ 22 (.append 4 (.int .i64) (.t 19) (.t 21)),
    mv 5 22]) (APn)
def APp:Cd:=.skip
def APk:Cd:=.cond (.t 18) (.seq (td [18]) (APm)) (.seq (td [18]) (APp))
def APi:Cd:=.seq (.seq (.reg false [ld 16 Zb 3,
    ld 17 Zb 7,
    o_ 18 (.eqs Zb false (.t 16) (.t 17))]) (APl)) (APk)
def APo:Cd:=td [23]
def APh:Cd:=.seq (.reg false [bc 23 .add 11 1,
    mv 11 23]) (APo)
def AWb:Cd:=.seq (.block 1 (.seq (.seq (.reg false [mv 13 11,
    ix 14 (.sl Zb) 9 11,
    ld 15 Zb 14,
    nb 7 2 Zb,
    mv 6 13,
    sr Zb 7 15]) (APj)) (APi))) (APh)
def AWa:Cd:=.seq (.cond (.t 12) (.seq (td [12]) (AWc)) (.seq (td [12]) (APq))) (AWb)
def AV9:Cd:=.tidy [6,7] [(4,5)] [2,3] (some 6)
def AJ0:Cd:=.seq (.seq (.reg false [bi 12 .lss 11 10]) (AWa)) (AV9)
def AV7:Cd:=.block 0 (.loop (AJ0))
def APs:Cd:=td [24]
def APr:Cd:=.ret
def AJz:Cd:=.seq (.seq (.reg false [mv 24 5,
    mv 4 24]) (APs)) (APr)
def AV6:Cd:=.seq (.seq (.seq (.reg false [fa 8 Za 3 2,
    ld 9 (.sl Zb) 8,
    le 10 9,
    ci 11 0]) (AV8)) (AV7)) (AJz)
def AV5:Cd:=.seq (.reg false [o_ 5 (.mknil 5 (.int .i64))]) (AV6)
def Yu.fn:Fn:=⟨2,[.tmp 4],.seq (.reg false [bx 2 0 0,
    bx 3 1 1,
    o_ 4 (.move (.c (.sl (.int .i64)) []))]) (AV5)⟩
def AR1:Cd:=td [6,7,8,9,10,11,12,13,14,15]
def AR3:Cd:=td [16,17,18,19,20,21,22,23,24]
def AR2:Cd:=.ret
def AR0:Cd:=.seq (.seq (.reg true [od 16 (.fieldAddr (.d Zb) 0 (.t 3)) [1] [],
    od 17 (.load (.d (.int .i64)) (.t 16)) [1] [],
    od 18 (.index (.arr 3 (.int .i64)) (.t 5) (.t 17)) [2] [],
    od 19 (.load (.d (.int .i64)) (.t 18)) [2] [],
    od 20 (.load (.d Za) (.t 2)) [0] [],
    od 21 (.load (.d Zb) (.t 3)) [1] [],
    o_ 22 (.call (.f 133) [(.t 20),(.t 21)] [.d (.sl (.int .i64))] [] false),
    le 23 22,
    bi 24 .sub 19 23,
    mv 4 24]) (AR3)) (AR2)
def ARz:Cd:=.seq (.seq (.reg false [fa 6 Za 0 2,
    fa 7 Zu 5 6,
    ld 8 (.int .i64) 7,
    fa 9 Za 0 2,
    fa 10 Zu 6 9,
    ld 11 (.int .i64) 10,
    fa 12 Za 0 2,
    fa 13 Zu 7 12,
    ld 14 (.int .i64) 13,
    o_ 15 (.build (.arr 3 (.int .i64)) [(0,(.t 8)),(1,(.t 11)),(2,(.t 14))] []),
    o_ 5 (.newbox 2 (.arr 3 (.int .i64)) []),
    on_ (.store (.d (.arr 3 (.int .i64))) (.t 5) (.t 15))]) (AR1)) (AR0)
def Qz.fn:Fn:=⟨2,[.tmp 4],.seq (.reg false [bx 2 0 0,
    bx 3 1 1,
    ci 4 0]) (ARz)⟩
def AWf:Cd:=td [3,4,5,6,7,8]
def AWe:Cd:=.ret
def AWd:Cd:=.seq (.seq (.reg false [mv 3 0,
    bc 4 .geq 3 0,
    mv 5 4,
    og 6 (.move (.t 0)) 5 true,
    og 7 (.bin .leq (.t 6) (.c (.int .i64) (1073741824:Int))) 5 true,
    o_ 8 (.pick (.t 5) (.t 7) (.c .bool false)),
    mv 2 8]) (AWf)) (AWe)
def Hy.fn:Fn:=⟨1,[.tmp 2],.seq (.reg false [o_ 2 (.move (.c .bool false))]) (AWd)⟩
def ATj:Cd:=td [12,13,14,15,16,17]
def ATm:Cd:=td [18,19]
def ATl:Cd:=.ret
def ATk:Cd:=.seq (.seq (.reg false [mv 18 0,
    mv 19 1,
    mv 8 18,
    mv 9 19,
    ci 10 1]) (ATm)) (ATl)
def ATp:Cd:=td [21,22,23,24,25,26,27,28]
def ANt:Cd:=td [29,30]
def ANs:Cd:=.ret
def ANr:Cd:=.seq (.seq (.reg false [mv 29 0,
    mv 30 1,
    mv 8 29,
    mv 9 30,
    ci 10 10]) (ANt)) (ANs)
def ANw:Cd:=td [32,33,34,35,36,37,38,39,40,41,42,43,44,45,46,47]
def ANz:Cd:=td [48,49]
def ANy:Cd:=.ret
def ANx:Cd:=.seq (.seq (.reg false [mv 48 0,
    mv 49 1,
    mv 8 48,
    mv 9 49,
    ci 10 11]) (ANz)) (ANy)
def AN0:Cd:=.skip
def ANv:Cd:=.cond (.t 31) (.seq (td [31]) (ANx)) (.seq (td [31]) (AN0))
def ANu:Cd:=.seq (.seq (.reg false [mv 32 0,
    mv 33 2,
    bi 34 .sub 32 33,
    mv 35 3,
    bi 36 .add 34 35,
    o_ 37 (.call (.f 135) [(.t 36)] [.d .bool] [] false),
    nt 38 37,
    mv 39 38,
    og 40 (.move (.t 1)) 39 false,
    og 41 (.move (.t 3)) 39 false,
    og 42 (.bin .sub (.t 40) (.t 41)) 39 false,
    og 43 (.move (.t 2)) 39 false,
    og 44 (.bin .add (.t 42) (.t 43)) 39 false,
    og 45 (.call (.f 135) [(.t 44)] [.d .bool] [] false) 39 false,
    og 46 (.not (.t 45)) 39 false,
    o_ 47 (.pick (.t 39) (.c .bool true) (.t 46)),
    mv 31 47]) (ANw)) (ANv)
def ATo:Cd:=.cond (.t 20) (.seq (td [20]) (ANr)) (.seq (td [20]) (ANu))
def ATn:Cd:=.seq (.seq (.reg false [mv 21 2,
    mv 22 0,
    bi 23 .gtr 21 22,
    mv 24 23,
    og 25 (.move (.t 3)) 24 false,
    og 26 (.move (.t 1)) 24 false,
    og 27 (.bin .gtr (.t 25) (.t 26)) 24 false,
    o_ 28 (.pick (.t 24) (.c .bool true) (.t 27)),
    mv 20 28]) (ATp)) (ATo)
def ATi:Cd:=.cond (.t 11) (.seq (td [11]) (ATk)) (.seq (td [11]) (ATn))
def AN2:Cd:=td [50,51,52,53,54,55,56,57,58,59]
def AN1:Cd:=.ret
def ATh:Cd:=.seq (.seq (.reg false [mv 50 0,
    mv 51 2,
    bi 52 .sub 50 51,
    mv 53 3,
    bi 54 .add 52 53,
    mv 55 1,
    mv 56 3,
    bi 57 .sub 55 56,
    mv 58 2,
    bi 59 .add 57 58,
    mv 8 54,
    mv 9 59,
    ci 10 0]) (AN2)) (AN1)
def ATg:Cd:=.seq (.block 0 (.seq (.seq (.reg false [mv 12 2,
    bc 13 .lss 12 0,
    mv 14 13,
    og 15 (.move (.t 3)) 14 false,
    og 16 (.bin .lss (.t 15) (.c (.int .i64) (0:Int))) 14 false,
    o_ 17 (.pick (.t 14) (.c .bool true) (.t 16)),
    mv 11 17]) (ATj)) (ATi))) (ATh)
def V3.fn:Fn:=⟨4,[.tmp 8,.tmp 9,.tmp 10],.seq (.reg false [ci 8 0,
    ci 9 0,
    ci 10 0]) (ATg)⟩
def ATs:Cd:=td [3,4,5,6,7,8,9,10,11,12,13,14]
def ATu:Cd:=td [15]
def ATt:Cd:=.ret
def ATr:Cd:=.seq (.seq (.reg false [ld 15 Za 1,
    sr Za 2 15]) (ATu)) (ATt)
def ATq:Cd:=.seq (.seq (.reg true [od 3 (.fieldAddr (.d Za) 1 (.t 1)) [0] [],
    od 4 (.load (.d (.sl (.int .i64))) (.t 3)) [0] [],
    od 5 (.call (.f 136) [(.t 4)] [.d (.sl (.int .i64))] [((0,[]),2)] false) [] [2],
    od 6 (.fieldAddr (.d Za) 2 (.t 1)) [0] [],
    od 7 (.load (.d (.sl (.int .i64))) (.t 6)) [0] [],
    od 8 (.call (.f 136) [(.t 7)] [.d (.sl (.int .i64))] [((0,[]),3)] false) [] [3],
    od 9 (.fieldAddr (.d Za) 3 (.t 1)) [0] [],
    od 10 (.load (.d (.sl Zb)) (.t 9)) [0] [],
    od 11 (.call (.f 137) [(.t 10)] [.d (.sl Zb)] [((0,[]),4)] false) [] [4],
    od 12 (.fieldAddr (.d Za) 1 (.t 1)) [0] [],
    ⟨none,.store (.d (.sl (.int .i64))) (.t 12) (.t 5),none,[],[0]⟩,
    od 13 (.fieldAddr (.d Za) 2 (.t 1)) [0] [],
    ⟨none,.store (.d (.sl (.int .i64))) (.t 13) (.t 8),none,[],[0]⟩,
    od 14 (.fieldAddr (.d Za) 3 (.t 1)) [0] [],
    ⟨none,.store (.d (.sl Zb)) (.t 14) (.t 11),none,[],[0]⟩]) (ATs)) (ATr)
def Ja.fn:Fn:=⟨1,[.cell 2 (.d Za)],.seq (.reg false [bx 1 0 0,
    nb 2 1 Za]) (ATq)⟩
def BOr:Cd:=td [20,21,22,23,24,25,26,27]
def BOt:Cd:=td [28]
def BOw:Cd:=td [30,31,32,33,34,35,36,37,38]
def BDp:Cd:=td [39]
def BOy:Cd:=.ret
def BOx:Cd:=.seq (.seq (.reg false [ld 39 Za 3,
    sr Za 6 39,
    ci 7 3]) (BDp)) (BOy)
def BDs:Cd:=td [41,42,43]
def BDv:Cd:=td [44]
def BDu:Cd:=.ret
def BDt:Cd:=.seq (.seq (.reg false [ld 44 Za 3,
    sr Za 6 44,
    ci 7 12]) (BDv)) (BDu)
def BDy:Cd:=td [46,47,48,49,50,51,52,53,54,55,56]
def BD1:Cd:=td [57]
def BD0:Cd:=.ret
def BDz:Cd:=.seq (.seq (.reg false [ld 57 Za 3,
    sr Za 6 57,
    ci 7 5]) (BD1)) (BD0)
def BD4:Cd:=td [59,60]
def BD7:Cd:=td [61]
def BD6:Cd:=.ret
def BD5:Cd:=.seq (.seq (.reg false [ld 61 Za 3,
    sr Za 6 61,
    ci 7 13]) (BD7)) (BD6)
def BEa:Cd:=td [63,64,65,66,67,68,69,70,71,72,73,74]
def BEd:Cd:=td [75]
def BEc:Cd:=.ret
def BEb:Cd:=.seq (.seq (.reg false [ld 75 Za 3,
    sr Za 6 75,
    ci 7 5]) (BEd)) (BEc)
def BEe:Cd:=.skip
def BD9:Cd:=.cond (.t 62) (.seq (td [62]) (BEb)) (.seq (td [62]) (BEe))
def BD8:Cd:=.seq (.seq (.reg false [mv 63 10,
    fa 64 Z1 5 5,
    o_ 65 (.load (.d (.sl (.int .i64))) (.t 64)),
    mv 66 1,
    o_ 67 (.call (.t 63) [(.t 65),(.t 66)] [.d .bool] [] false),
    mv 68 67,
    og 69 (.move (.t 10)) 68 false,
    og 70 (.fieldAddr (.d Z1) 7 (.t 5)) 68 false,
    og 71 (.load (.d (.sl (.int .i64))) (.t 70)) 68 false,
    og 72 (.move (.t 8)) 68 false,
    og 73 (.call (.t 69) [(.t 71),(.t 72)] [.d .bool] [] false) 68 false,
    o_ 74 (.pick (.t 68) (.c .bool true) (.t 73)),
    mv 62 74]) (BEa)) (BD9)
def BD3:Cd:=.cond (.t 58) (.seq (td [58]) (BD5)) (.seq (td [58]) (BD8))
def BD2:Cd:=.seq (.seq (.reg false [mv 59 9,
    o_ 60 (.call (.f 120) [(.t 59)] [.d .bool] [] false),
    mv 58 60]) (BD4)) (BD3)
def BDx:Cd:=.cond (.t 45) (.seq (td [45]) (BDz)) (.seq (td [45]) (BD2))
def BDw:Cd:=.seq (.seq (.reg true [od 46 (.fieldAddr (.d Za) 1 (.t 3)) [0] [],
    od 47 (.load (.d (.sl (.int .i64))) (.t 46)) [0] [],
    mv 48 8,
    ix 49 (.sl (.int .i64)) 47 48,
    ld 50 (.int .i64) 49,
    od 51 (.fieldAddr (.d Za) 1 (.t 3)) [0] [],
    od 52 (.load (.d (.sl (.int .i64))) (.t 51)) [0] [],
    mv 53 1,
    ix 54 (.sl (.int .i64)) 52 53,
    ld 55 (.int .i64) 54,
    bi 56 .neq 50 55,
    mv 45 56]) (BDy)) (BDx)
def BDr:Cd:=.cond (.t 40) (.seq (td [40]) (BDt)) (.seq (td [40]) (BDw))
def BDq:Cd:=.seq (.seq (.reg false [mv 41 8,
    mv 42 1,
    bi 43 .eql 41 42,
    mv 40 43]) (BDs)) (BDr)
def BOv:Cd:=.cond (.t 29) (.seq (td [29]) (BOx)) (.seq (td [29]) (BDq))
def BEg:Cd:=td [76,77,78,79,80,81,82]
def BEj:Cd:=td [83,84,85,86,87,88,89,90,91,92,93,94,95,96]
def BEm:Cd:=td [98]
def BEl:Cd:=.ret
def BEk:Cd:=.seq (.seq (.reg false [ld 98 Za 3,
    sr Za 6 98,
    ci 7 9]) (BEm)) (BEl)
def BEn:Cd:=.skip
def BEi:Cd:=.cond (.t 97) (.seq (td [97]) (BEk)) (.seq (td [97]) (BEn))
def BEp:Cd:=td [99,100,101,102,103,104,105,106,107,108,109,110,111,112,113,114,115,116,117]
def BEs:Cd:=td [118]
def BEv:Cd:=td [120,121]
def BEu:Cd:=.ret
def BEt:Cd:=.seq (.seq (.reg false [ld 120 Za 3,
    mv 121 14,
    sr Za 6 120,
    mv 7 121]) (BEv)) (BEu)
def BEw:Cd:=.skip
def BEr:Cd:=.cond (.t 119) (.seq (td [119]) (BEt)) (.seq (td [119]) (BEw))
def BEy:Cd:=td [122,123]
def BE0:Cd:=td [124,125,126,127,128,129,130,131,132,133]
def BE2:Cd:=td [134]
def BE6:Cd:=.skip
def BFc:Cd:=.exit 1
def BE9:Cd:=td [139,140]
def BFa:Cd:=td [141,142,143,144,145,146]
def BE8:Cd:=.seq (.reg true [od 141 (.fieldAddr (.d Za) 3 (.t 15)) [4] [],
    od 142 (.load (.d (.sl Zb)) (.t 141)) [4] [],
    mv 143 17,
    mv 144 8,
    o_ 145 (.call (.f 115) [(.t 144)] [.d Zb] [] false),
    od 146 (.index (.sl Zb) (.t 142) (.t 143)) [6] [],
    ⟨none,.store (.d Zb) (.t 146) (.t 145),none,[],[6]⟩]) (BFa)
def BFb:Cd:=td [147]
def BE7:Cd:=.seq (.reg false [bc 147 .add 137 1,
    mv 137 147]) (BFb)
def BE5:Cd:=.seq (.block 2 (.seq (.seq (.reg false [ix 139 (.sl (.int .i64)) 135 137,
    ld 140 (.int .i64) 139,
    mv 17 140]) (BE9)) (BE8))) (BE7)
def BE4:Cd:=.seq (.cond (.t 138) (.seq (td [138]) (BE6)) (.seq (td [138]) (BFc))) (BE5)
def BE3:Cd:=.tidy [17] [] [] (some 7)
def AKf:Cd:=.seq (.seq (.reg false [bi 138 .lss 137 136]) (BE4)) (BE3)
def BE1:Cd:=.block 1 (.loop (AKf))
def BFe:Cd:=td [148]
def BFi:Cd:=.skip
def BFo:Cd:=.exit 3
def BFl:Cd:=td [153,154]
def BFm:Cd:=td [155,156,157,158,159,160]
def BFk:Cd:=.seq (.reg true [od 155 (.fieldAddr (.d Za) 3 (.t 15)) [4] [],
    od 156 (.load (.d (.sl Zb)) (.t 155)) [4] [],
    mv 157 19,
    mv 158 1,
    o_ 159 (.call (.f 115) [(.t 158)] [.d Zb] [] false),
    od 160 (.index (.sl Zb) (.t 156) (.t 157)) [6] [],
    ⟨none,.store (.d Zb) (.t 160) (.t 159),none,[],[6]⟩]) (BFm)
def BFn:Cd:=td [161]
def BFj:Cd:=.seq (.reg false [bc 161 .add 151 1,
    mv 151 161]) (BFn)
def BFh:Cd:=.seq (.block 4 (.seq (.seq (.reg false [ix 153 (.sl (.int .i64)) 149 151,
    ld 154 (.int .i64) 153,
    mv 19 154]) (BFl)) (BFk))) (BFj)
def BFg:Cd:=.seq (.cond (.t 152) (.seq (td [152]) (BFi)) (.seq (td [152]) (BFo))) (BFh)
def BFf:Cd:=.tidy [19] [] [] (some 7)
def AKh:Cd:=.seq (.seq (.reg false [bi 152 .lss 151 150]) (BFg)) (BFf)
def BFd:Cd:=.block 3 (.loop (AKh))
def BFq:Cd:=td [162]
def BFp:Cd:=.ret
def AKg:Cd:=.seq (.seq (.reg false [ld 162 Za 15,
    sr Za 6 162,
    ci 7 0]) (BFq)) (BFp)
def AKe:Cd:=.seq (.seq (.seq (.reg false [fa 148 Z1 7 5,
    o_ 149 (.load (.d (.sl (.int .i64))) (.t 148)),
    le 150 149,
    ci 151 0]) (BFe)) (BFd)) (AKg)
def BEz:Cd:=.seq (.seq (.seq (.reg false [fa 134 Z1 5 5,
    o_ 135 (.load (.d (.sl (.int .i64))) (.t 134)),
    le 136 135,
    ci 137 0]) (BE2)) (BE1)) (AKe)
def BEx:Cd:=.seq (.seq (.reg true [od 124 (.fieldAddr (.d Za) 2 (.t 15)) [4] [],
    od 125 (.load (.d (.sl (.int .i64))) (.t 124)) [4] [],
    mv 126 1,
    od 127 (.fieldAddr (.d Za) 2 (.t 15)) [4] [],
    od 128 (.load (.d (.sl (.int .i64))) (.t 127)) [4] [],
    mv 129 8,
    mv 130 12,
    mv 131 13,
    od 132 (.index (.sl (.int .i64)) (.t 125) (.t 126)) [5] [],
    ⟨none,.store (.d (.int .i64)) (.t 132) (.t 130),none,[],[5]⟩,
    od 133 (.index (.sl (.int .i64)) (.t 128) (.t 129)) [5] [],
    ⟨none,.store (.d (.int .i64)) (.t 133) (.t 131),none,[],[5]⟩]) (BE0)) (BEz)
def BEq:Cd:=.seq (.seq (.reg false [ld 122 Za 3,
    o_ 123 (.call (.f 122) [(.t 122)] [.d Za] [((0,[2]),5),((0,[3]),6)] false),
    nb 15 4 Za,
    sr Za 15 123]) (BEy)) (BEx)
def BEo:Cd:=.seq (.seq (.seq (.reg false [mv 118 14,
    bc 119 .neq 118 0]) (BEs)) (BEr)) (BEq)
def BEh:Cd:=.seq (.seq (.reg true [od 100 (.fieldAddr (.d Za) 2 (.t 3)) [0] [],
    od 101 (.load (.d (.sl (.int .i64))) (.t 100)) [0] [],
    mv 102 1,
    ix 103 (.sl (.int .i64)) 101 102,
    ld 104 (.int .i64) 103,
    od 105 (.fieldAddr (.d Za) 2 (.t 3)) [0] [],
    od 106 (.load (.d (.sl (.int .i64))) (.t 105)) [0] [],
    mv 107 8,
    ix 108 (.sl (.int .i64)) 106 107,
    ld 109 (.int .i64) 108,
    od 110 (.fieldAddr (.d Z1) 6 (.t 5)) [1] [],
    od 111 (.load (.d (.int .i64)) (.t 110)) [1] [],
    od 112 (.fieldAddr (.d Z1) 8 (.t 5)) [1] [],
    od 113 (.load (.d (.int .i64)) (.t 112)) [1] [],
    o_ 114 (.call (.f 121) [(.t 104),(.t 109),(.t 111),(.t 113)] [.d (.int .i64),.d (.int .i64),.d (.int .i64)] [] false),
    mv 99 114,
    xt 115 99 0,
    xt 116 99 1,
    xt 117 99 2,
    mv 12 115,
    mv 13 116,
    mv 14 117]) (BEp)) (BEo)
def BEf:Cd:=.seq (.seq (.seq (.reg true [od 83 (.load (.d Za) (.t 3)) [0] [],
    mv 84 1,
    o_ 85 (.call (.f 115) [(.t 84)] [.d Zb] [] false),
    o_ 86 (.call (.f 106) [(.t 83),(.t 85)] [.d (.int .i64)] [] false),
    mv 87 11,
    bi 88 .lss 86 87,
    mv 89 88,
    ogd 90 (.load (.d Za) (.t 3)) 89 false [0],
    og 91 (.move (.t 8)) 89 false,
    og 92 (.call (.f 115) [(.t 91)] [.d Zb] [] false) 89 false,
    og 93 (.call (.f 106) [(.t 90),(.t 92)] [.d (.int .i64)] [] false) 89 false,
    og 94 (.move (.t 11)) 89 false,
    og 95 (.neg (.t 94)) 89 false,
    og 96 (.bin .lss (.t 93) (.t 95)) 89 false,
    o_ 97 (.pick (.t 89) (.c .bool true) (.t 96))]) (BEj)) (BEi)) (BEh)
def BOu:Cd:=.seq (.seq (.reg false [fa 76 Z1 7 5,
    o_ 77 (.load (.d (.sl (.int .i64))) (.t 76)),
    le 78 77,
    fa 79 Z1 5 5,
    o_ 80 (.load (.d (.sl (.int .i64))) (.t 79)),
    le 81 80,
    bi 82 .sub 78 81,
    mv 11 82]) (BEg)) (BEf)
def BOs:Cd:=.seq (.block 0 (.seq (.seq (.reg false [ld 30 Za 3,
    mv 31 8,
    o_ 32 (.call (.f 114) [(.t 30),(.t 31)] [.d .bool] [] false),
    nt 33 32,
    mv 34 33,
    og 35 (.move (.t 9)) 34 false,
    og 36 (.func 119 [(.t 3)]) 34 false,
    og 37 (.call (.f 84) [(.t 35),(.t 36)] [.d .bool] [] false) 34 false,
    o_ 38 (.pick (.t 34) (.c .bool true) (.t 37)),
    mv 29 38]) (BOw)) (BOv))) (BOu)
def BOq:Cd:=.seq (.seq (.reg false [o_ 28 (.func 117 [(.t 3)]),
    mv 10 28]) (BOt)) (BOs)
def BOp:Cd:=.seq (.seq (.reg true [od 20 (.fieldAddr (.d Z1) 4 (.t 5)) [1] [],
    od 21 (.load (.d (.int .i64)) (.t 20)) [1] [],
    od 22 (.fieldAddr (.d Z1) 5 (.t 5)) [1] [],
    od 23 (.load (.d (.sl (.int .i64))) (.t 22)) [1] [],
    od 24 (.fieldAddr (.d Z1) 7 (.t 5)) [1] [],
    od 25 (.load (.d (.sl (.int .i64))) (.t 24)) [1] [],
    od 26 (.slice 3 (.sl (.int .i64)) [(.t 23),(.t 25)]) [] [3],
    od 27 (.call (.f 116) [(.t 26)] [.d (.sl (.int .i64))] [] false) [] [3],
    mv 8 21,
    mv 9 27]) (BOr)) (BOq)
def Z2.fn:Fn:=⟨3,[.cell 6 (.d Za),.tmp 7],.seq (.reg false [bx 3 0 0,
    bx 5 1 2,
    nb 6 2 Za,
    ci 7 0]) (BOp)⟩
def BQk:Cd:=td [7]
def BQn:Cd:=td [9,10]
def BQm:Cd:=.ret
def BQl:Cd:=.seq (.seq (.reg false [mv 9 2,
    o_ 10 (.build Zn [(0,(.t 9))] []),
    sr Zn 6 10]) (BQn)) (BQm)
def BQo:Cd:=.skip
def BQj:Cd:=.cond (.t 8) (.seq (td [8]) (BQl)) (.seq (td [8]) (BQo))
def BQq:Cd:=td [11,12,13]
def BQp:Cd:=.ret
def BQi:Cd:=.seq (.seq (.reg false [mv 11 0,
    mv 12 1,
    o_ 13 (.build Zn [(1,(.t 11)),(2,(.t 12))] []),
    sr Zn 6 13]) (BQq)) (BQp)
def BQh:Cd:=.seq (.seq (.seq (.reg false [mv 7 2,
    bc 8 .neq 7 0]) (BQk)) (BQj)) (BQi)
def Yd.fn:Fn:=⟨3,[.cell 6 (.d Zn)],.seq (.reg false [nb 6 0 Zn]) (BQh)⟩
def BQ8:Cd:=td [11,12,13,14,15,16,17,18]
def BRa:Cd:=td [19,20,21,22,23]
def BQ9:Cd:=.ret
def BQ7:Cd:=.seq (.seq (.reg true [od 19 (.load (.d Za) (.t 9)) [4] [],
    od 20 (.fieldAddr (.d Z1) 0 (.t 6)) [1] [],
    od 21 (.load (.d (.int .i64)) (.t 20)) [1] [],
    mv 22 10,
    o_ 23 (.call (.f 87) [(.t 21),(.c (.int .i64) (0:Int)),(.t 22)] [.d Zn] [] false),
    ⟨none,.store (.d Za) (.t 7) (.t 19),none,[],[2]⟩,
    ⟨none,.store (.d Zn) (.t 8) (.t 23),none,[],[3]⟩]) (BRa)) (BQ9)
def BQ6:Cd:=.seq (.seq (.reg false [o_ 12 (.load (.v false 1) (.t 3)),
    ld 13 Za 4,
    mv 14 1,
    ld 15 Z1 6,
    o_ 16 (.call (.t 12) [(.t 13),(.t 14),(.t 15)] [.d Za,.d (.int .i64)] [] false),
    mv 11 16,
    xt 17 11 0,
    xt 18 11 1,
    nb 9 4 Za,
    sr Za 9 17,
    mv 10 18]) (BQ8)) (BQ7)
def Qn.fn:Fn:=⟨4,[.cell 7 (.d Za),.cell 8 (.d Zn)],.seq (.reg false [bx 4 0 0,
    bx 6 1 2,
    nb 7 2 Za,
    nb 8 3 Zn]) (BQ6)⟩
def AR6:Cd:=td [8,9]
def AR8:Cd:=td [10,11,12,13,14]
def ASa:Cd:=td [15]
def AR9:Cd:=.ret
def AR7:Cd:=.seq (.seq (.reg false [ld 15 Za 7,
    sr Za 6 15]) (ASa)) (AR9)
def AR5:Cd:=.seq (.seq (.reg false [fa 10 Za 3 7,
    ld 11 (.sl Zb) 10,
    mv 12 1,
    ld 13 Zb 5,
    ix 14 (.sl Zb) 11 12,
    sr Zb 14 13]) (AR8)) (AR7)
def AR4:Cd:=.seq (.seq (.reg false [ld 8 Za 3,
    o_ 9 (.call (.f 122) [(.t 8)] [.d Za] [((0,[3]),4)] false),
    nb 7 3 Za,
    sr Za 7 9]) (AR6)) (AR5)
def K2.fn:Fn:=⟨3,[.cell 6 (.d Za)],.seq (.reg false [bx 3 0 0,
    bx 5 1 2,
    nb 6 2 Za]) (AR4)⟩
def BOi:Cd:=td [11,12,13,14,15,16,17,18,19,20]
def BOl:Cd:=td [21]
def BOk:Cd:=.ret
def BOj:Cd:=.seq (.seq (.reg false [ld 21 Za 4,
    sr Za 8 21,
    ci 9 3]) (BOl)) (BOk)
def BOo:Cd:=td [23,24,25]
def BC9:Cd:=td [26]
def BC8:Cd:=.ret
def BC7:Cd:=.seq (.seq (.reg false [ld 26 Za 4,
    sr Za 8 26,
    ci 9 12]) (BC9)) (BC8)
def BDc:Cd:=td [28,29,30,31,32,33,34,35,36,37,38,39,40,41,42,43,44,45,46,47,48]
def BDf:Cd:=td [49]
def BDe:Cd:=.ret
def BDd:Cd:=.seq (.seq (.reg false [ld 49 Za 4,
    sr Za 8 49,
    ci 9 5]) (BDf)) (BDe)
def BDi:Cd:=td [51,52,53,54,55]
def BDl:Cd:=td [56]
def BDk:Cd:=.ret
def BDj:Cd:=.seq (.seq (.reg false [ld 56 Za 4,
    sr Za 8 56,
    ci 9 9]) (BDl)) (BDk)
def BDm:Cd:=.skip
def BDh:Cd:=.cond (.t 50) (.seq (td [50]) (BDj)) (.seq (td [50]) (BDm))
def BDg:Cd:=.seq (.seq (.reg true [od 51 (.load (.d Za) (.t 4)) [0] [],
    mv 52 3,
    o_ 53 (.call (.f 115) [(.t 52)] [.d Zb] [] false),
    o_ 54 (.call (.f 106) [(.t 51),(.t 53)] [.d (.int .i64)] [] false),
    bc 55 .lss 54 1,
    mv 50 55]) (BDi)) (BDh)
def BDb:Cd:=.cond (.t 27) (.seq (td [27]) (BDd)) (.seq (td [27]) (BDg))
def BDa:Cd:=.seq (.seq (.reg true [od 28 (.fieldAddr (.d Za) 1 (.t 4)) [0] [],
    od 29 (.load (.d (.sl (.int .i64))) (.t 28)) [0] [],
    mv 30 3,
    ix 31 (.sl (.int .i64)) 29 30,
    ld 32 (.int .i64) 31,
    od 33 (.fieldAddr (.d Za) 1 (.t 4)) [0] [],
    od 34 (.load (.d (.sl (.int .i64))) (.t 33)) [0] [],
    mv 35 1,
    ix 36 (.sl (.int .i64)) 34 35,
    ld 37 (.int .i64) 36,
    bi 38 .neq 32 37,
    mv 39 38,
    ogd 40 (.fieldAddr (.d Za) 3 (.t 4)) 39 false [0],
    ogd 41 (.load (.d (.sl Zb)) (.t 40)) 39 false [0],
    og 42 (.move (.t 2)) 39 false,
    og 43 (.index (.sl Zb) (.t 41) (.t 42)) 39 false,
    og 44 (.load (.d Zb) (.t 43)) 39 false,
    og 45 (.move (.t 1)) 39 false,
    og 46 (.call (.f 115) [(.t 45)] [.d Zb] [] false) 39 false,
    og 47 (.eqs Zb true (.t 44) (.t 46)) 39 false,
    o_ 48 (.pick (.t 39) (.c .bool true) (.t 47)),
    mv 27 48]) (BDc)) (BDb)
def BOn:Cd:=.cond (.t 22) (.seq (td [22]) (BC7)) (.seq (td [22]) (BDa))
def BOm:Cd:=.seq (.seq (.reg false [mv 23 3,
    mv 24 1,
    bi 25 .eql 23 24,
    mv 22 25]) (BOo)) (BOn)
def BOh:Cd:=.cond (.t 10) (.seq (td [10]) (BOj)) (.seq (td [10]) (BOm))
def BDo:Cd:=td [57,58,59,60,61]
def BDn:Cd:=.ret
def BOg:Cd:=.seq (.seq (.reg true [od 57 (.load (.d Za) (.t 4)) [0] [],
    mv 58 2,
    mv 59 3,
    o_ 60 (.call (.f 115) [(.t 59)] [.d Zb] [] false),
    o_ 61 (.call (.f 107) [(.t 57),(.t 58),(.t 60)] [.d Za] [] false),
    ⟨none,.store (.d Za) (.t 8) (.t 61),none,[],[1]⟩,
    ci 9 0]) (BDo)) (BDn)
def BOf:Cd:=.seq (.block 0 (.seq (.seq (.reg false [ld 11 Za 4,
    mv 12 2,
    o_ 13 (.call (.f 113) [(.t 11),(.t 12)] [.d .bool] [] false),
    nt 14 13,
    mv 15 14,
    og 16 (.load (.d Za) (.t 4)) 15 false,
    og 17 (.move (.t 3)) 15 false,
    og 18 (.call (.f 114) [(.t 16),(.t 17)] [.d .bool] [] false) 15 false,
    og 19 (.not (.t 18)) 15 false,
    o_ 20 (.pick (.t 15) (.c .bool true) (.t 19)),
    mv 10 20]) (BOi)) (BOh))) (BOg)
def Ve.fn:Fn:=⟨4,[.cell 8 (.d Za),.tmp 9],.seq (.reg false [bx 4 0 0,
    nb 8 1 Za,
    ci 9 0]) (BOf)⟩
def BOe:Cd:=td [8,9,10,11,12,13,14,15,16]
def BOd:Cd:=.ret
def BOc:Cd:=.seq (.seq (.reg false [ld 8 Za 3,
    mv 9 1,
    fa 10 Z1 2 5,
    ld 11 (.int .i64) 10,
    fa 12 Z1 4 5,
    ld 13 (.int .i64) 12,
    o_ 14 (.call (.f 66) [(.t 8),(.t 9),(.t 11),(.t 13)] [.d Za,.d (.int .i64)] [] false),
    xt 15 14 0,
    xt 16 14 1,
    sr Za 6 15,
    mv 7 16]) (BOe)) (BOd)
def Ql.fn:Fn:=⟨3,[.cell 6 (.d Za),.tmp 7],.seq (.reg false [bx 3 0 0,
    bx 5 1 2,
    nb 6 2 Za,
    ci 7 0]) (BOc)⟩
def BR3:Cd:=td [5,6,7,8,9,10,11,12,13]
def BR2:Cd:=.ret
def BR1:Cd:=.seq (.seq (.reg false [mv 5 1,
    bc 6 .lss 5 0,
    mv 7 6,
    og 8 (.move (.t 1)) 7 false,
    og 9 (.fieldAddr (.d Za) 3 (.t 2)) 7 false,
    og 10 (.load (.d (.sl Zb)) (.t 9)) 7 false,
    og 11 (.len (.t 10)) 7 false,
    og 12 (.bin .geq (.t 8) (.t 11)) 7 false,
    o_ 13 (.pick (.t 7) (.c .bool true) (.t 12)),
    mv 4 13]) (BR3)) (BR2)
def Qv.fn:Fn:=⟨2,[.tmp 4],.seq (.reg false [bx 2 0 0,
    o_ 4 (.move (.c .bool false))]) (BR1)⟩
def ASd:Cd:=td [4,5,6,7,8,9,10,11]
def ASc:Cd:=.ret
def ASb:Cd:=.seq (.seq (.reg false [ld 4 Za 0,
    ld 5 (.int .i64) 1,
    o_ 6 (.call (.f 96) [(.t 4),(.t 5)] [.d .bool] [] false),
    mv 7 6,
    og 8 (.load (.d Za) (.t 0)) 7 false,
    og 9 (.load (.d (.int .i64)) (.t 2)) 7 false,
    og 10 (.call (.f 96) [(.t 8),(.t 9)] [.d .bool] [] false) 7 false,
    o_ 11 (.pick (.t 7) (.c .bool true) (.t 10)),
    mv 3 11]) (ASd)) (ASc)
def Yh.fn:Fn:=⟨3,[.tmp 3],.seq (.reg false [o_ 3 (.move (.c .bool false))]) (ASb)⟩
def BR9:Cd:=td [8,9,10]
def BSb:Cd:=td [11,12,13,14,15,16,17,18,19,20,21,22,23,24]
def BSa:Cd:=.ret
def BR8:Cd:=.seq (.seq (.reg true [od 11 (.load (.d Zb) (.t 7)) [1] [],
    od 12 (.fieldAddr (.d Za) 1 (.t 3)) [0] [],
    od 13 (.load (.d (.sl (.int .i64))) (.t 12)) [0] [],
    mv 14 1,
    ix 15 (.sl (.int .i64)) 13 14,
    ld 16 (.int .i64) 15,
    o_ 17 (.build Zb [(0,(.c (.int .i64) (0:Int))),(1,(.t 16))] []),
    o_ 18 (.eqs Zb false (.t 11) (.t 17)),
    mv 19 18,
    ogd 20 (.load (.d Zb) (.t 7)) 19 false [1],
    og 21 (.move (.t 1)) 19 false,
    og 22 (.build Zb [(0,(.c (.int .i64) (1:Int))),(1,(.t 21))] []) 19 false,
    og 23 (.eqs Zb false (.t 20) (.t 22)) 19 false,
    o_ 24 (.pick (.t 19) (.c .bool true) (.t 23)),
    mv 6 24]) (BSb)) (BSa)
def BR7:Cd:=.seq (.seq (.reg false [ld 8 Za 3,
    mv 9 2,
    o_ 10 (.call (.f 130) [(.t 8),(.t 9)] [.d Zb] [] false),
    nb 7 1 Zb,
    sr Zb 7 10]) (BR9)) (BR8)
def Jp.fn:Fn:=⟨3,[.tmp 6],.seq (.reg false [bx 3 0 0,
    o_ 6 (.move (.c .bool false))]) (BR7)⟩
def ASg:Cd:=td [4,5,6,7,8]
def ASf:Cd:=.ret
def ASe:Cd:=.seq (.seq (.reg false [ld 4 Za 0,
    ld 5 (.int .i64) 1,
    ld 6 (.int .i64) 2,
    o_ 7 (.call (.f 98) [(.t 4),(.t 5),(.t 6)] [.d .bool] [] false),
    nt 8 7,
    mv 3 8]) (ASg)) (ASf)
def Qo.fn:Fn:=⟨3,[.tmp 3],.seq (.reg false [o_ 3 (.move (.c .bool false))]) (ASe)⟩
def ASj:Cd:=td [3,4,5,6,7,8,9]
def ASi:Cd:=.ret
def ASh:Cd:=.seq (.seq (.reg false [fa 3 Za 0 0,
    fa 4 Zu 4 3,
    ld 5 (.sl .bool) 4,
    ld 6 (.int .i64) 1,
    ix 7 (.sl .bool) 5 6,
    ld 8 .bool 7,
    nt 9 8,
    mv 2 9]) (ASj)) (ASi)
def Qp.fn:Fn:=⟨2,[.tmp 2],.seq (.reg false [o_ 2 (.move (.c .bool false))]) (ASh)⟩
def ASm:Cd:=td [4,5,6,7,8,9,10]
def ASl:Cd:=.ret
def ASk:Cd:=.seq (.seq (.reg true [fa 4 Za 3 0,
    ld 5 (.sl Zb) 4,
    ld 6 (.int .i64) 1,
    ix 7 (.sl Zb) 5 6,
    ld 8 Zb 7,
    ld 9 Zb 2,
    o_ 10 (.eqs Zb true (.t 8) (.t 9)),
    mv 3 10]) (ASm)) (ASl)
def Qq.fn:Fn:=⟨3,[.tmp 3],.seq (.reg false [o_ 3 (.move (.c .bool false))]) (ASk)⟩
def ASp:Cd:=td [3,4,5,6]
def ASo:Cd:=.ret
def ASn:Cd:=.seq (.seq (.reg false [ld 3 Za 0,
    ld 4 Zb 1,
    o_ 5 (.call (.f 106) [(.t 3),(.t 4)] [.d (.int .i64)] [] false),
    bc 6 .lss 5 1,
    mv 2 6]) (ASp)) (ASo)
def Qr.fn:Fn:=⟨2,[.tmp 2],.seq (.reg false [o_ 2 (.move (.c .bool false))]) (ASn)⟩
def BRv:Cd:=.skip
def BGy:Cd:=.exit 0
def BGq:Cd:=td [9,10]
def BGs:Cd:=td [11,12]
def BGv:Cd:=td [14,15]
def BGu:Cd:=.ret
def BGt:Cd:=.seq (.seq (.reg false [o_ 14 (.fieldAddr (.v [1,1]) 1 (.t 4)),
    ld 15 (.int .i64) 14,
    mv 2 15]) (BGv)) (BGu)
def BGw:Cd:=.skip
def BGr:Cd:=.cond (.t 13) (.seq (td [13]) (BGt)) (.seq (td [13]) (BGw))
def BRx:Cd:=.seq (.seq (.reg false [o_ 11 (.fieldAddr (.v [1,1]) 0 (.t 4)),
    o_ 12 (.load (.v false 1) (.t 11)),
    o_ 13 (.call (.t 12) [] [.d .bool] [] false)]) (BGs)) (BGr)
def BGx:Cd:=td [16]
def BRw:Cd:=.seq (.reg false [bc 16 .add 7 1,
    mv 7 16]) (BGx)
def BRu:Cd:=.seq (.block 1 (.seq (.seq (.reg false [o_ 9 (.index (.slv 2) (.t 5) (.t 7)),
    o_ 10 (.load (.v true 2) (.t 9)),
    o_ 4 (.newboxv 0 (.agv [.nilfn,.dat (.int .i64) 0 []])),
    on_ (.store (.v true 2) (.t 4) (.t 10))]) (BGq)) (BRx))) (BRw)
def BRt:Cd:=.seq (.cond (.t 8) (.seq (td [8]) (BRv)) (.seq (td [8]) (BGy))) (BRu)
def BRs:Cd:=.tidy [4] [] [] (some 0)
def BRr:Cd:=.seq (.seq (.reg false [bi 8 .lss 7 6]) (BRt)) (BRs)
def BRq:Cd:=.block 0 (.loop (BRr))
def BGz:Cd:=.ret
def BRp:Cd:=.seq (.reg false [ci 2 0]) (BGz)
def BRo:Cd:=.seq (.seq (.reg false [mv 5 0,
    le 6 5,
    ci 7 0]) (BRq)) (BRp)
def Y1.fn:Fn:=⟨1,[.tmp 2],.seq (.reg false [ci 2 0]) (BRo)⟩
def BN4:Cd:=td [13,14,15,16]
def BN6:Cd:=td [17,18,19,20,21,22,23,24,25,26,27,28]
def BN9:Cd:=td [29]
def BC3:Cd:=td [31,32]
def BOb:Cd:=.ret
def BOa:Cd:=.seq (.seq (.reg false [ld 31 Za 4,
    mv 32 12,
    sr Za 8 31,
    mv 9 32]) (BC3)) (BOb)
def BC4:Cd:=.skip
def BN8:Cd:=.cond (.t 30) (.seq (td [30]) (BOa)) (.seq (td [30]) (BC4))
def BC6:Cd:=td [33,34,35,36]
def BC5:Cd:=.ret
def BN7:Cd:=.seq (.seq (.reg false [ld 33 Za 4,
    ld 34 (.int .i64) 6,
    ld 35 Zb 10,
    o_ 36 (.call (.f 107) [(.t 33),(.t 34),(.t 35)] [.d Za] [] false),
    sr Za 8 36,
    ci 9 0]) (BC6)) (BC5)
def BN5:Cd:=.seq (.seq (.seq (.reg false [mv 29 12,
    bc 30 .neq 29 0]) (BN9)) (BN8)) (BN7)
def BN3:Cd:=.seq (.seq (.reg false [o_ 17 (.func 108 [(.t 4),(.t 6),(.t 7)]),
    o_ 18 (.buildv [1,1] [(.t 17),(.c (.int .i64) (3:Int))]),
    o_ 19 (.func 109 [(.t 4),(.t 5),(.t 7)]),
    o_ 20 (.buildv [1,1] [(.t 19),(.c (.int .i64) (5:Int))]),
    o_ 21 (.func 110 [(.t 4),(.t 7)]),
    o_ 22 (.buildv [1,1] [(.t 21),(.c (.int .i64) (6:Int))]),
    o_ 23 (.func 111 [(.t 4),(.t 6),(.t 11)]),
    o_ 24 (.buildv [1,1] [(.t 23),(.c (.int .i64) (5:Int))]),
    o_ 25 (.func 112 [(.t 4),(.t 10)]),
    o_ 26 (.buildv [1,1] [(.t 25),(.c (.int .i64) (9:Int))]),
    o_ 27 (.slicev 2 [(.t 18),(.t 20),(.t 22),(.t 24),(.t 26)]),
    o_ 28 (.call (.f 94) [(.t 27)] [.d (.int .i64)] [] false),
    mv 12 28]) (BN6)) (BN5)
def BN2:Cd:=.seq (.seq (.reg true [od 13 (.load (.d (.int .i64)) (.t 5)) [1] [],
    o_ 14 (.build Zb [(0,(.c (.int .i64) (1:Int))),(1,(.t 13))] []),
    od 15 (.load (.d (.int .i64)) (.t 7)) [3] [],
    o_ 16 (.build Zb [(0,(.c (.int .i64) (2:Int))),(1,(.t 15))] []),
    od 10 (.newbox 5 Zb []) [] [5],
    od 11 (.newbox 6 Zb []) [] [6],
    ⟨none,.store (.d Zb) (.t 10) (.t 14),none,[],[5]⟩,
    ⟨none,.store (.d Zb) (.t 11) (.t 16),none,[],[6]⟩]) (BN4)) (BN3)
def Vd.fn:Fn:=⟨4,[.cell 8 (.d Za),.tmp 9],.seq (.reg false [bx 4 0 0,
    bx 5 1 1,
    bx 6 2 2,
    bx 7 3 3,
    nb 8 4 Za,
    ci 9 0]) (BN2)⟩
def BN1:Cd:=td [8,9,10,11,12,13,14,15,16]
def BN0:Cd:=.ret
def BNz:Cd:=.seq (.seq (.reg false [ld 8 Za 3,
    mv 9 1,
    fa 10 Z1 2 5,
    ld 11 (.int .i64) 10,
    fa 12 Z1 3 5,
    ld 13 (.int .i64) 12,
    o_ 14 (.call (.f 64) [(.t 8),(.t 9),(.t 11),(.t 13)] [.d Za,.d (.int .i64)] [] false),
    xt 15 14 0,
    xt 16 14 1,
    sr Za 6 15,
    mv 7 16]) (BN1)) (BN0)
def Qk.fn:Fn:=⟨3,[.cell 6 (.d Za),.tmp 7],.seq (.reg false [bx 3 0 0,
    bx 5 1 2,
    nb 6 2 Za,
    ci 7 0]) (BNz)⟩
def BR0:Cd:=td [4,5,6,7,8,9,10,11]
def BRz:Cd:=.ret
def BRy:Cd:=.seq (.seq (.reg false [ld 4 Za 0,
    ld 5 (.int .i64) 1,
    o_ 6 (.call (.f 96) [(.t 4),(.t 5)] [.d .bool] [] false),
    mv 7 6,
    og 8 (.load (.d Za) (.t 0)) 7 false,
    og 9 (.load (.d (.int .i64)) (.t 2)) 7 false,
    og 10 (.call (.f 96) [(.t 8),(.t 9)] [.d .bool] [] false) 7 false,
    o_ 11 (.pick (.t 7) (.c .bool true) (.t 10)),
    mv 3 11]) (BR0)) (BRz)
def Yy.fn:Fn:=⟨3,[.tmp 3],.seq (.reg false [o_ 3 (.move (.c .bool false))]) (BRy)⟩
def BR6:Cd:=td [6,7,8,9,10,11,12,13,14,15,16,17,18,19]
def BR5:Cd:=.ret
def BR4:Cd:=.seq (.seq (.reg true [fa 6 Za 3 0,
    ld 7 (.sl Zb) 6,
    ld 8 (.int .i64) 1,
    ix 9 (.sl Zb) 7 8,
    ld 10 Zb 9,
    ld 11 Zb 2,
    o_ 12 (.eqs Zb true (.t 10) (.t 11)),
    mv 13 12,
    og 14 (.load (.d Za) (.t 0)) 13 false,
    og 15 (.load (.d (.int .i64)) (.t 3)) 13 false,
    og 16 (.load (.d (.int .i64)) (.t 4)) 13 false,
    og 17 (.call (.f 98) [(.t 14),(.t 15),(.t 16)] [.d .bool] [] false) 13 false,
    og 18 (.not (.t 17)) 13 false,
    o_ 19 (.pick (.t 13) (.c .bool true) (.t 18)),
    mv 5 19]) (BR6)) (BR5)
def Jb.fn:Fn:=⟨5,[.tmp 5],.seq (.reg false [o_ 5 (.move (.c .bool false))]) (BR4)⟩
def BSe:Cd:=td [3,4,5,6,7,8,9]
def BSd:Cd:=.ret
def BSc:Cd:=.seq (.seq (.reg false [fa 3 Za 0 0,
    fa 4 Zu 4 3,
    ld 5 (.sl .bool) 4,
    ld 6 (.int .i64) 1,
    ix 7 (.sl .bool) 5 6,
    ld 8 .bool 7,
    nt 9 8,
    mv 2 9]) (BSe)) (BSd)
def Jc.fn:Fn:=⟨2,[.tmp 2],.seq (.reg false [o_ 2 (.move (.c .bool false))]) (BSc)⟩
def ARh:Cd:=td [4,5,6,7]
def ARg:Cd:=.ret
def ARf:Cd:=.seq (.seq (.reg false [ld 4 Za 0,
    ld 5 (.int .i64) 1,
    ld 6 (.int .i64) 2,
    o_ 7 (.call (.f 101) [(.t 4),(.t 5),(.t 6)] [.d .bool] [] false),
    mv 3 7]) (ARh)) (ARg)
def Jd.fn:Fn:=⟨3,[.tmp 3],.seq (.reg false [o_ 3 (.move (.c .bool false))]) (ARf)⟩
def ARn:Cd:=td [5,6,7,8,9,10]
def ARm:Cd:=.ret
def ARl:Cd:=.seq (.seq (.reg false [ld 5 Za 2,
    mv 6 1,
    o_ 7 (.call (.f 131) [(.t 5),(.t 6)] [.clo 138 [.ref Za,.ref (.int .i64)]] [] false),
    o_ 8 (.call (.f 132) [(.t 7)] [.d (.sl Zb)] [] false),
    le 9 8,
    bc 10 .sub 9 1,
    mv 4 10]) (ARn)) (ARm)
def Q9.fn:Fn:=⟨2,[.tmp 4],.seq (.reg false [bx 2 0 0,
    ci 4 0]) (ARl)⟩
def ARr:Cd:=td [7,8]
def ARv:Cd:=.skip
def ANb:Cd:=.exit 0
def AM4:Cd:=td [12]
def AM6:Cd:=td [13,14,15]
def AM8:Cd:=td [17,18,19,20,21,22,23,24,25]
def AM7:Cd:=.seq (.reg true [mv 17 5,
    od 18 (.load (.d Za) (.t 2)) [0] [],
    mv 19 6,
    o_ 20 (.call (.f 103) [(.t 18),(.t 19)] [.d (.int .i64)] [] false),
    od 21 (.load (.d Za) (.t 2)) [0] [],
    mv 22 1,
    o_ 23 (.call (.f 103) [(.t 21),(.t 22)] [.d (.int .i64)] [] false),
    bi 24 .sub 20 23,
    o_ 25 (.max [(.t 17),(.t 24)]),
    mv 5 25]) (AM8)
def ANa:Cd:=.skip
def AM5:Cd:=.cond (.t 16) (.seq (td [16]) (AM7)) (.seq (td [16]) (ANa))
def AM3:Cd:=.seq (.seq (.reg false [ld 13 Za 2,
    mv 14 6,
    mv 15 1,
    o_ 16 (.call (.f 101) [(.t 13),(.t 14),(.t 15)] [.d .bool] [] false)]) (AM6)) (AM5)
def AM9:Cd:=td [26]
def AM2:Cd:=.seq (.reg false [bc 26 .add 10 1,
    mv 10 26]) (AM9)
def ARu:Cd:=.seq (.block 1 (.seq (.seq (.reg false [mv 12 10,
    mv 6 12]) (AM4)) (AM3))) (AM2)
def ARt:Cd:=.seq (.cond (.t 11) (.seq (td [11]) (ARv)) (.seq (td [11]) (ANb))) (ARu)
def ARs:Cd:=.tidy [6] [] [] (some 1)
def AJo:Cd:=.seq (.seq (.reg false [bi 11 .lss 10 9]) (ARt)) (ARs)
def ARq:Cd:=.block 0 (.loop (AJo))
def ANd:Cd:=td [27]
def ANc:Cd:=.ret
def AJn:Cd:=.seq (.seq (.reg false [mv 27 5,
    mv 4 27]) (ANd)) (ANc)
def ARp:Cd:=.seq (.seq (.seq (.reg false [fa 7 Za 3 2,
    ld 8 (.sl Zb) 7,
    le 9 8,
    ci 10 0]) (ARr)) (ARq)) (AJn)
def ARo:Cd:=.seq (.reg false [ci 5 0]) (ARp)
def Xg.fn:Fn:=⟨2,[.tmp 4],.seq (.reg false [bx 2 0 0,
    ci 4 0]) (ARo)⟩
def ARk:Cd:=td [4,5,6,7,8,9,10,11,12]
def ARj:Cd:=.ret
def ARi:Cd:=.seq (.seq (.reg true [ld 4 Za 0,
    ld 5 (.int .i64) 1,
    o_ 6 (.call (.f 103) [(.t 4),(.t 5)] [.d (.int .i64)] [] false),
    bc 7 .add 6 1,
    ld 8 Za 0,
    ld 9 (.int .i64) 2,
    o_ 10 (.call (.f 104) [(.t 8),(.t 9)] [.d (.int .i64)] [] false),
    bi 11 .add 7 10,
    bc 12 .gtr 11 4,
    mv 3 12]) (ARk)) (ARj)
def Je.fn:Fn:=⟨3,[.tmp 3],.seq (.reg false [o_ 3 (.move (.c .bool false))]) (ARi)⟩
def ARy:Cd:=td [3,4,5,6]
def ARx:Cd:=.ret
def ARw:Cd:=.seq (.seq (.reg false [ld 3 Za 0,
    ld 4 Zb 1,
    o_ 5 (.call (.f 106) [(.t 3),(.t 4)] [.d (.int .i64)] [] false),
    bc 6 .lss 5 1,
    mv 2 6]) (ARy)) (ARx)
def Jf.fn:Fn:=⟨2,[.tmp 2],.seq (.reg false [o_ 2 (.move (.c .bool false))]) (ARw)⟩
def BNr:Cd:=td [13,14,15,16]
def BNt:Cd:=td [17,18,19,20,21,22,23,24,25,26,27,28,29,30]
def BNw:Cd:=td [31]
def BCz:Cd:=td [33,34]
def BNy:Cd:=.ret
def BNx:Cd:=.seq (.seq (.reg false [ld 33 Za 4,
    mv 34 12,
    sr Za 8 33,
    mv 9 34]) (BCz)) (BNy)
def BC0:Cd:=.skip
def BNv:Cd:=.cond (.t 32) (.seq (td [32]) (BNx)) (.seq (td [32]) (BC0))
def BC2:Cd:=td [35,36,37,38]
def BC1:Cd:=.ret
def BNu:Cd:=.seq (.seq (.reg false [ld 35 Za 4,
    ld 36 (.int .i64) 6,
    ld 37 Zb 11,
    o_ 38 (.call (.f 107) [(.t 35),(.t 36),(.t 37)] [.d Za] [] false),
    sr Za 8 38,
    ci 9 0]) (BC2)) (BC1)
def BNs:Cd:=.seq (.seq (.seq (.reg false [mv 31 12,
    bc 32 .neq 31 0]) (BNw)) (BNv)) (BNu)
def BNq:Cd:=.seq (.seq (.reg false [o_ 17 (.func 95 [(.t 4),(.t 6),(.t 7)]),
    o_ 18 (.buildv [1,1] [(.t 17),(.c (.int .i64) (3:Int))]),
    o_ 19 (.func 97 [(.t 4),(.t 6),(.t 10),(.t 5),(.t 7)]),
    o_ 20 (.buildv [1,1] [(.t 19),(.c (.int .i64) (5:Int))]),
    o_ 21 (.func 99 [(.t 4),(.t 7)]),
    o_ 22 (.buildv [1,1] [(.t 21),(.c (.int .i64) (6:Int))]),
    o_ 23 (.func 100 [(.t 4),(.t 7),(.t 6)]),
    o_ 24 (.buildv [1,1] [(.t 23),(.c (.int .i64) (7:Int))]),
    o_ 25 (.func 102 [(.t 4),(.t 7),(.t 6)]),
    o_ 26 (.buildv [1,1] [(.t 25),(.c (.int .i64) (8:Int))]),
    o_ 27 (.func 105 [(.t 4),(.t 11)]),
    o_ 28 (.buildv [1,1] [(.t 27),(.c (.int .i64) (9:Int))]),
    o_ 29 (.slicev 2 [(.t 18),(.t 20),(.t 22),(.t 24),(.t 26),(.t 28)]),
    o_ 30 (.call (.f 94) [(.t 29)] [.d (.int .i64)] [] false),
    mv 12 30]) (BNt)) (BNs)
def BNp:Cd:=.seq (.seq (.reg true [od 13 (.load (.d (.int .i64)) (.t 5)) [1] [],
    o_ 14 (.build Zb [(0,(.c (.int .i64) (1:Int))),(1,(.t 13))] []),
    od 15 (.load (.d (.int .i64)) (.t 7)) [3] [],
    o_ 16 (.build Zb [(0,(.c (.int .i64) (2:Int))),(1,(.t 15))] []),
    od 10 (.newbox 5 Zb []) [] [5],
    od 11 (.newbox 6 Zb []) [] [6],
    ⟨none,.store (.d Zb) (.t 10) (.t 14),none,[],[5]⟩,
    ⟨none,.store (.d Zb) (.t 11) (.t 16),none,[],[6]⟩]) (BNr)) (BNq)
def V1.fn:Fn:=⟨4,[.cell 8 (.d Za),.tmp 9],.seq (.reg false [bx 4 0 0,
    bx 5 1 1,
    bx 6 2 2,
    bx 7 3 3,
    nb 8 4 Za,
    ci 9 0]) (BNp)⟩
def BNo:Cd:=td [8,9,10,11,12,13,14,15,16]
def BNn:Cd:=.ret
def BNm:Cd:=.seq (.seq (.reg false [ld 8 Za 3,
    mv 9 1,
    fa 10 Z1 2 5,
    ld 11 (.int .i64) 10,
    fa 12 Z1 3 5,
    ld 13 (.int .i64) 12,
    o_ 14 (.call (.f 62) [(.t 8),(.t 9),(.t 11),(.t 13)] [.d Za,.d (.int .i64)] [] false),
    xt 15 14 0,
    xt 16 14 1,
    sr Za 6 15,
    mv 7 16]) (BNo)) (BNn)
def Qj.fn:Fn:=⟨3,[.cell 6 (.d Za),.tmp 7],.seq (.reg false [bx 3 0 0,
    bx 5 1 2,
    nb 6 2 Za,
    ci 7 0]) (BNm)⟩
def BRd:Cd:=td [6,7,8,9,10,11,12,13]
def BRc:Cd:=.ret
def BRb:Cd:=.seq (.seq (.reg false [fa 6 Za 1 2,
    o_ 7 (.load (.d (.sl (.int .i64))) (.t 6)),
    mv 8 1,
    ix 9 (.sl (.int .i64)) 7 8,
    ld 10 (.int .i64) 9,
    o_ 11 (.build Zb [(0,(.c (.int .i64) (0:Int))),(1,(.t 10))] []),
    mv 12 1,
    o_ 13 (.build Zb [(0,(.c (.int .i64) (1:Int))),(1,(.t 12))] []),
    sr Zb 4 11,
    sr Zb 5 13]) (BRd)) (BRc)
def Qx.fn:Fn:=⟨2,[.cell 4 (.d Zb),.cell 5 (.d Zb)],.seq (.reg false [bx 2 0 0,
    nb 4 1 Zb,
    nb 5 2 Zb]) (BRb)⟩
def BRh:Cd:=td [11,12,13,14,15,16,17,18,19]
def BRk:Cd:=td [20]
def BRj:Cd:=.ret
def BRi:Cd:=.seq (.seq (.reg false [ld 20 Za 4,
    sr Za 8 20,
    ci 9 3]) (BRk)) (BRj)
def BRn:Cd:=td [22,23,24,25,26,27,28]
def BGg:Cd:=td [29]
def BGf:Cd:=.ret
def BGe:Cd:=.seq (.seq (.reg false [ld 29 Za 4,
    sr Za 8 29,
    ci 9 5]) (BGg)) (BGf)
def BGj:Cd:=td [31,32,33,34]
def BGm:Cd:=td [35]
def BGl:Cd:=.ret
def BGk:Cd:=.seq (.seq (.reg false [ld 35 Za 4,
    sr Za 8 35,
    ci 9 9]) (BGm)) (BGl)
def BGn:Cd:=.skip
def BGi:Cd:=.cond (.t 30) (.seq (td [30]) (BGk)) (.seq (td [30]) (BGn))
def BGh:Cd:=.seq (.seq (.reg false [ld 31 Za 4,
    ld 32 Zb 7,
    o_ 33 (.call (.f 106) [(.t 31),(.t 32)] [.d (.int .i64)] [] false),
    bc 34 .lss 33 1,
    mv 30 34]) (BGj)) (BGi)
def BRm:Cd:=.cond (.t 21) (.seq (td [21]) (BGe)) (.seq (td [21]) (BGh))
def BRl:Cd:=.seq (.seq (.reg true [od 22 (.fieldAddr (.d Za) 3 (.t 4)) [0] [],
    od 23 (.load (.d (.sl Zb)) (.t 22)) [0] [],
    mv 24 1,
    ix 25 (.sl Zb) 23 24,
    ld 26 Zb 25,
    od 27 (.load (.d Zb) (.t 6)) [1] [],
    o_ 28 (.eqs Zb true (.t 26) (.t 27)),
    mv 21 28]) (BRn)) (BRm)
def BRg:Cd:=.cond (.t 10) (.seq (td [10]) (BRi)) (.seq (td [10]) (BRl))
def BGp:Cd:=td [36,37,38,39]
def BGo:Cd:=.ret
def BRf:Cd:=.seq (.seq (.reg false [ld 36 Za 4,
    mv 37 1,
    ld 38 Zb 7,
    o_ 39 (.call (.f 107) [(.t 36),(.t 37),(.t 38)] [.d Za] [] false),
    sr Za 8 39,
    ci 9 0]) (BGp)) (BGo)
def BRe:Cd:=.seq (.block 0 (.seq (.seq (.reg false [mv 11 1,
    bc 12 .lss 11 0,
    mv 13 12,
    og 14 (.move (.t 1)) 13 false,
    og 15 (.fieldAddr (.d Za) 3 (.t 4)) 13 false,
    og 16 (.load (.d (.sl Zb)) (.t 15)) 13 false,
    og 17 (.len (.t 16)) 13 false,
    og 18 (.bin .geq (.t 14) (.t 17)) 13 false,
    o_ 19 (.pick (.t 13) (.c .bool true) (.t 18)),
    mv 10 19]) (BRh)) (BRg))) (BRf)
def Vn.fn:Fn:=⟨4,[.cell 8 (.d Za),.tmp 9],.seq (.reg false [bx 4 0 0,
    bx 6 1 2,
    bx 7 2 3,
    nb 8 3 Za,
    ci 9 0]) (BRe)⟩
def BNj:Cd:=td [10,11,12,13,14,15]
def BNl:Cd:=td [16,17,18,19,20,21,22]
def BNk:Cd:=.ret
def BNi:Cd:=.seq (.seq (.reg false [ld 16 Za 3,
    mv 17 2,
    ld 18 Zb 9,
    ld 19 Zb 8,
    o_ 20 (.call (.f 93) [(.t 16),(.t 17),(.t 18),(.t 19)] [.d Za,.d (.int .i64)] [] false),
    xt 21 20 0,
    xt 22 20 1,
    sr Za 6 21,
    mv 7 22]) (BNl)) (BNk)
def BNh:Cd:=.seq (.seq (.reg false [ld 11 Za 3,
    mv 12 1,
    o_ 13 (.call (.f 92) [(.t 11),(.t 12)] [.d Zb,.d Zb] [] false),
    mv 10 13,
    xt 14 10 0,
    xt 15 10 1,
    nb 8 2 Zb,
    nb 9 3 Zb,
    sr Zb 8 14,
    sr Zb 9 15]) (BNj)) (BNi)
def V5.fn:Fn:=⟨3,[.cell 6 (.d Za),.tmp 7],.seq (.reg false [bx 3 0 0,
    nb 6 1 Za,
    ci 7 0]) (BNh)⟩
def BMy:Cd:=td [8,9,10,11,12,13,14]
def BMx:Cd:=.ret
def BMw:Cd:=.seq (.seq (.reg false [ld 8 Za 3,
    mv 9 1,
    fa 10 Z1 2 5,
    ld 11 (.int .i64) 10,
    o_ 12 (.call (.f 60) [(.t 8),(.t 9),(.t 11)] [.d Za,.d (.int .i64)] [] false),
    xt 13 12 0,
    xt 14 12 1,
    sr Za 6 13,
    mv 7 14]) (BMy)) (BMx)
def Qi.fn:Fn:=⟨3,[.cell 6 (.d Za),.tmp 7],.seq (.reg false [bx 3 0 0,
    bx 5 1 2,
    nb 6 2 Za,
    ci 7 0]) (BMw)⟩
def BMt:Cd:=td [10,11,12,13,14,15]
def BMv:Cd:=td [16,17,18,19,20,21,22]
def BMu:Cd:=.ret
def BMs:Cd:=.seq (.seq (.reg false [ld 16 Za 3,
    mv 17 2,
    ld 18 Zb 8,
    ld 19 Zb 9,
    o_ 20 (.call (.f 93) [(.t 16),(.t 17),(.t 18),(.t 19)] [.d Za,.d (.int .i64)] [] false),
    xt 21 20 0,
    xt 22 20 1,
    sr Za 6 21,
    mv 7 22]) (BMv)) (BMu)
def BMr:Cd:=.seq (.seq (.reg false [ld 11 Za 3,
    mv 12 1,
    o_ 13 (.call (.f 92) [(.t 11),(.t 12)] [.d Zb,.d Zb] [] false),
    mv 10 13,
    xt 14 10 0,
    xt 15 10 1,
    nb 8 2 Zb,
    nb 9 3 Zb,
    sr Zb 8 14,
    sr Zb 9 15]) (BMt)) (BMs)
def K9.fn:Fn:=⟨3,[.cell 6 (.d Za),.tmp 7],.seq (.reg false [bx 3 0 0,
    nb 6 1 Za,
    ci 7 0]) (BMr)⟩
def BMq:Cd:=td [8,9,10,11,12,13,14]
def BMp:Cd:=.ret
def BMo:Cd:=.seq (.seq (.reg false [ld 8 Za 3,
    mv 9 1,
    fa 10 Z1 2 5,
    ld 11 (.int .i64) 10,
    o_ 12 (.call (.f 58) [(.t 8),(.t 9),(.t 11)] [.d Za,.d (.int .i64)] [] false),
    xt 13 12 0,
    xt 14 12 1,
    sr Za 6 13,
    mv 7 14]) (BMq)) (BMp)
def Qh.fn:Fn:=⟨3,[.cell 6 (.d Za),.tmp 7],.seq (.reg false [bx 3 0 0,
    bx 5 1 2,
    nb 6 2 Za,
    ci 7 0]) (BMo)⟩
def BQt:Cd:=td [7]
def BQs:Cd:=.ret
def BQr:Cd:=.seq (.seq (.reg false [o_ 7 (.func 128 [(.t 5),(.t 3),(.t 4)]),
    mv 6 7]) (BQt)) (BQs)
def Vu.fn:Fn:=⟨3,[.tmp 6],.seq (.reg false [bx 3 0 0,
    bx 4 1 1,
    bx 5 2 2,
    o_ 6 (.move .nf)]) (BQr)⟩
def BQz:Cd:=td [5,6,7,8,9,10,11,12,13]
def BQ1:Cd:=.ret
def BQ0:Cd:=.seq (.reg false [ci 3 3]) (BQ1)
def BQ4:Cd:=td [15,16,17]
def BF6:Cd:=.ret
def BQ5:Cd:=.seq (.reg false [ci 3 12]) (BF6)
def BF9:Cd:=td [19,20,21,22,23,24,25,26,27,28,29]
def BGb:Cd:=.ret
def BGa:Cd:=.seq (.reg false [ci 3 5]) (BGb)
def BGc:Cd:=.skip
def BF8:Cd:=.cond (.t 18) (.seq (td [18]) (BGa)) (.seq (td [18]) (BGc))
def BF7:Cd:=.seq (.seq (.reg true [fa 19 Za 1 1,
    o_ 20 (.load (.d (.sl (.int .i64))) (.t 19)),
    ld 21 (.int .i64) 0,
    ix 22 (.sl (.int .i64)) 20 21,
    ld 23 (.int .i64) 22,
    fa 24 Za 1 1,
    o_ 25 (.load (.d (.sl (.int .i64))) (.t 24)),
    ld 26 (.int .i64) 2,
    ix 27 (.sl (.int .i64)) 25 26,
    ld 28 (.int .i64) 27,
    bi 29 .neq 23 28,
    mv 18 29]) (BF9)) (BF8)
def BQ3:Cd:=.cond (.t 14) (.seq (td [14]) (BQ5)) (.seq (td [14]) (BF7))
def BQ2:Cd:=.seq (.seq (.reg false [ld 15 (.int .i64) 0,
    ld 16 (.int .i64) 2,
    bi 17 .eql 15 16,
    mv 14 17]) (BQ4)) (BQ3)
def BQy:Cd:=.cond (.t 4) (.seq (td [4]) (BQ0)) (.seq (td [4]) (BQ2))
def BGd:Cd:=.ret
def BQx:Cd:=.seq (.reg false [ci 3 0]) (BGd)
def BQw:Cd:=.seq (.block 0 (.seq (.seq (.reg false [ld 5 (.int .i64) 0,
    bc 6 .lss 5 0,
    mv 7 6,
    og 8 (.load (.d (.int .i64)) (.t 0)) 7 false,
    og 9 (.fieldAddr (.d Za) 1 (.t 1)) 7 false,
    og 10 (.load (.d (.sl (.int .i64))) (.t 9)) 7 false,
    og 11 (.len (.t 10)) 7 false,
    og 12 (.bin .geq (.t 8) (.t 11)) 7 false,
    o_ 13 (.pick (.t 7) (.c .bool true) (.t 12)),
    mv 4 13]) (BQz)) (BQy))) (BQx)
def Jh.fn:Fn:=⟨3,[.tmp 3],.seq (.reg false [ci 3 0]) (BQw)⟩
def AUz:Cd:=td [9,10,11,12,13,14,15,16]
def AU1:Cd:=td [17,18,19,20]
def AU0:Cd:=.ret
def AUy:Cd:=.seq (.seq (.reg false [mv 17 8,
    o_ 18 (.max [(.t 17),(.c (.int .i64) (0:Int))]),
    mv 19 8,
    bc 20 .geq 19 0,
    mv 6 18,
    mv 7 20]) (AU1)) (AU0)
def AUx:Cd:=.seq (.seq (.reg false [fa 9 Za 0 3,
    fa 10 Zu 0 9,
    o_ 11 (.load (.d (.sl (.arr 4 (.int .i64)))) (.t 10)),
    mv 12 1,
    mv 13 2,
    o_ 14 (.index (.sl (.arr 4 (.int .i64))) (.t 11) (.t 12)),
    o_ 15 (.index (.arr 4 (.int .i64)) (.t 14) (.t 13)),
    ld 16 (.int .i64) 15,
    mv 8 16]) (AUz)) (AUy)
def J6.fn:Fn:=⟨3,[.tmp 6,.tmp 7],.seq (.reg false [bx 3 0 0,
    ci 6 0,
    o_ 7 (.move (.c .bool false))]) (AUx)⟩
def AUq:Cd:=td [12,13]
def AUs:Cd:=td [14]
def AUv:Cd:=td [16,17]
def AUu:Cd:=.ret
def AUt:Cd:=.seq (.seq (.reg false [ld 16 Za 2,
    mv 17 8,
    sr Za 5 16,
    ci 6 0,
    mv 7 17]) (AUv)) (AUu)
def AUw:Cd:=.skip
def AUr:Cd:=.cond (.t 15) (.seq (td [15]) (AUt)) (.seq (td [15]) (AUw))
def AUp:Cd:=.seq (.seq (.reg false [mv 14 8,
    bc 15 .neq 14 0]) (AUs)) (AUr)
def AO3:Cd:=td [18,19,20,21,22,23,24,25,26,27,28]
def AO6:Cd:=td [29]
def AO9:Cd:=td [31]
def AO8:Cd:=.ret
def AO7:Cd:=.seq (.seq (.reg false [ld 31 Za 2,
    sr Za 5 31,
    ci 6 0,
    ci 7 4]) (AO9)) (AO8)
def APa:Cd:=.skip
def AO5:Cd:=.cond (.t 30) (.seq (td [30]) (AO7)) (.seq (td [30]) (APa))
def APc:Cd:=td [32,33]
def APe:Cd:=td [34,35,36,37,38]
def APg:Cd:=td [39,40]
def APf:Cd:=.ret
def APd:Cd:=.seq (.seq (.reg false [ld 39 Za 11,
    mv 40 9,
    sr Za 5 39,
    mv 6 40,
    ci 7 0]) (APg)) (APf)
def APb:Cd:=.seq (.seq (.reg false [fa 34 Za 1 11,
    o_ 35 (.load (.d (.sl (.int .i64))) (.t 34)),
    mv 36 0,
    mv 37 9,
    ix 38 (.sl (.int .i64)) 35 36,
    sr (.int .i64) 38 37]) (APe)) (APd)
def AO4:Cd:=.seq (.seq (.reg false [ld 32 Za 2,
    o_ 33 (.call (.f 122) [(.t 32)] [.d Za] [((0,[1]),2)] false),
    nb 11 1 Za,
    sr Za 11 33]) (APc)) (APb)
def AO2:Cd:=.seq (.seq (.seq (.reg false [mv 29 10,
    nt 30 29]) (AO6)) (AO5)) (AO4)
def AUo:Cd:=.seq (.seq (.reg true [ld 19 Za 2,
    fa 20 Za 1 2,
    o_ 21 (.load (.d (.sl (.int .i64))) (.t 20)),
    mv 22 0,
    ix 23 (.sl (.int .i64)) 21 22,
    ld 24 (.int .i64) 23,
    ld 25 (.int .i64) 3,
    o_ 26 (.call (.f 129) [(.t 19),(.t 24),(.t 25)] [.d (.int .i64),.d .bool] [] false),
    mv 18 26,
    xt 27 18 0,
    xt 28 18 1,
    mv 9 27,
    mv 10 28]) (AO3)) (AO2)
def AUn:Cd:=.seq (.seq (.seq (.reg false [o_ 12 (.load (.v false 1) (.t 1)),
    o_ 13 (.call (.t 12) [] [.d (.int .i64)] [] false),
    mv 8 13]) (AUq)) (AUp)) (AUo)
def Qu.fn:Fn:=⟨4,[.cell 5 (.d Za),.tmp 6,.tmp 7],.seq (.reg false [nb 5 0 Za,
    ci 6 0,
    ci 7 0]) (AUn)⟩
def BMk:Cd:=.reg true [od 11 (.load (.d Za) (.t 4)) [0] [],
    mv 12 3,
    o_ 13 (.func 90 [(.t 6),(.t 4),(.t 5)]),
    od 14 (.call (.f 88) [(.t 11),(.t 12),(.t 13)] [.clo 128 [.refv (.clo 90 [.ref (.int .i64),.ref Za,.ref (.int .i64)]),.ref Za,.ref (.int .i64)]] [] false) [0,1,2] [],
    od 15 (.load (.d (.int .i64)) (.t 6)) [2] [],
    o_ 16 (.call (.t 14) [(.t 15)] [.d Za,.d (.int .i64),.d (.int .i64)] [] false),
    xt 17 16 0,
    xt 18 16 1,
    xt 19 16 2,
    ⟨none,.store (.d Za) (.t 8) (.t 17),none,[],[3]⟩,
    mv 9 18,
    mv 10 19]
def BMj:Cd:=td [11,12,13,14,15,16,17,18,19]
def BMi:Cd:=.ret
def BMh:Cd:=.seq (.seq (.seq (.frz [0,1,2]) (BMk)) (BMj)) (BMi)
def V8.fn:Fn:=⟨4,[.cell 8 (.d Za),.tmp 9,.tmp 10],.seq (.reg false [bx 4 0 0,
    bx 5 1 1,
    bx 6 2 2,
    nb 8 3 Za,
    ci 9 0,
    ci 10 0]) (BMh)⟩
def BMg:Cd:=td [9,10,11,12,13,14,15,16,17,18]
def BMf:Cd:=.ret
def BMe:Cd:=.seq (.seq (.reg false [ld 9 Za 3,
    mv 10 1,
    fa 11 Z1 4 5,
    ld 12 (.int .i64) 11,
    fa 13 Z1 1 5,
    ld 14 (.int .i64) 13,
    o_ 15 (.call (.f 55) [(.t 9),(.t 10),(.t 12),(.t 14)] [.d Za,.d (.int .i64),.d (.int .i64)] [] false),
    xt 16 15 0,
    xt 17 15 1,
    xt 18 15 2,
    sr Za 6 16,
    mv 7 17,
    mv 8 18]) (BMg)) (BMf)
def Qg.fn:Fn:=⟨3,[.cell 6 (.d Za),.tmp 7,.tmp 8],.seq (.reg false [bx 3 0 0,
    bx 5 1 2,
    nb 6 2 Za,
    ci 7 0,
    ci 8 0]) (BMe)⟩
def BQe:Cd:=td [12,13,14,15,16,17,18,19,20]
def BQg:Cd:=td [21,22,23,24,25,26]
def BQf:Cd:=.ret
def BQd:Cd:=.seq (.seq (.reg true [od 21 (.load (.d Za) (.t 9)) [4] [],
    od 22 (.fieldAddr (.d Z1) 0 (.t 6)) [1] [],
    od 23 (.load (.d (.int .i64)) (.t 22)) [1] [],
    mv 24 10,
    mv 25 11,
    o_ 26 (.call (.f 87) [(.t 23),(.t 24),(.t 25)] [.d Zn] [] false),
    ⟨none,.store (.d Za) (.t 7) (.t 21),none,[],[2]⟩,
    ⟨none,.store (.d Zn) (.t 8) (.t 26),none,[],[3]⟩]) (BQg)) (BQf)
def BQc:Cd:=.seq (.seq (.reg false [o_ 13 (.load (.v false 1) (.t 3)),
    ld 14 Za 4,
    mv 15 1,
    ld 16 Z1 6,
    o_ 17 (.call (.t 13) [(.t 14),(.t 15),(.t 16)] [.d Za,.d (.int .i64),.d (.int .i64)] [] false),
    mv 12 17,
    xt 18 12 0,
    xt 19 12 1,
    xt 20 12 2,
    nb 9 4 Za,
    sr Za 9 18,
    mv 10 19,
    mv 11 20]) (BQe)) (BQd)
def Qm.fn:Fn:=⟨4,[.cell 7 (.d Za),.cell 8 (.d Zn)],.seq (.reg false [bx 4 0 0,
    bx 6 1 2,
    nb 7 2 Za,
    nb 8 3 Zn]) (BQc)⟩
def BQv:Cd:=.ret
def BQu:Cd:=.seq (.reg false [ci 0 0]) (BQv)
def J1.fn:Fn:=⟨0,[.tmp 0],.seq (.reg false [ci 0 0]) (BQu)⟩
def BMd:Cd:=td [9,10,11,12,13,14,15,16]
def BMc:Cd:=.ret
def BMb:Cd:=.seq (.seq (.reg false [ld 9 Za 3,
    mv 10 2,
    o_ 11 (.call (.f 88) [(.t 9),(.t 10),(.f 89)] [.clo 128 [.refv (.clo 89 []),.ref Za,.ref (.int .i64)]] [] false),
    mv 12 1,
    o_ 13 (.call (.t 11) [(.t 12)] [.d Za,.d (.int .i64),.d (.int .i64)] [] false),
    xt 14 13 0,
    xt 15 13 1,
    xt 16 13 2,
    sr Za 6 14,
    mv 7 15,
    mv 8 16]) (BMd)) (BMc)
def V7.fn:Fn:=⟨3,[.cell 6 (.d Za),.tmp 7,.tmp 8],.seq (.reg false [bx 3 0 0,
    nb 6 1 Za,
    ci 7 0,
    ci 8 0]) (BMb)⟩
def BMa:Cd:=td [9,10,11,12,13,14,15,16]
def BL9:Cd:=.ret
def BL8:Cd:=.seq (.seq (.reg false [ld 9 Za 3,
    mv 10 1,
    fa 11 Z1 1 5,
    ld 12 (.int .i64) 11,
    o_ 13 (.call (.f 53) [(.t 9),(.t 10),(.t 12)] [.d Za,.d (.int .i64),.d (.int .i64)] [] false),
    xt 14 13 0,
    xt 15 13 1,
    xt 16 13 2,
    sr Za 6 14,
    mv 7 15,
    mv 8 16]) (BMa)) (BL9)
def Qf.fn:Fn:=⟨3,[.cell 6 (.d Za),.tmp 7,.tmp 8],.seq (.reg false [bx 3 0 0,
    bx 5 1 2,
    nb 6 2 Za,
    ci 7 0,
    ci 8 0]) (BL8)⟩
def BH8:Cd:=td [8,9]
def BIb:Cd:=td [11,12]
def BIa:Cd:=.ret
def BH9:Cd:=.seq (.seq (.reg false [ld 11 Za 3,
    o_ 12 (.build Zn [(0,(.c (.int .i64) (2:Int)))] []),
    sr Za 6 11,
    sr Zn 7 12]) (BIb)) (BIa)
def BIc:Cd:=.skip
def BH7:Cd:=.cond (.t 10) (.seq (td [10]) (BH9)) (.seq (td [10]) (BIc))
def BIe:Cd:=td [13,14,15,16,17,18,19,20,21,22]
def BId:Cd:=.ret
def BH6:Cd:=.seq (.seq (.reg true [o_ 13 (.call (.f 22) [] [.fmap [1,2,3,4,5,6,7,8,9,10] [.clo 86 [.refv (.clo 52 [])],.clo 86 [.refv (.clo 54 [])],.clo 91 [.refv (.clo 57 [])],.clo 91 [.refv (.clo 59 [])],.clo 91 [.refv (.clo 61 [])],.clo 91 [.refv (.clo 63 [])],.clo 91 [.refv (.clo 65 [])],.clo 91 [.refv (.clo 67 [])],.clo 123 [.refv (.clo 69 [])],.clo 123 [.refv (.clo 70 [])]]] [] false),
    od 14 (.fieldAddr (.d Z1) 0 (.t 5)) [1] [],
    od 15 (.load (.d (.int .i64)) (.t 14)) [1] [],
    o_ 16 (.lookv (.t 13) (.t 15) false),
    od 17 (.load (.d Za) (.t 3)) [0] [],
    mv 18 1,
    od 19 (.load (.d Z1) (.t 5)) [1] [],
    o_ 20 (.call (.t 16) [(.t 17),(.t 18),(.t 19)] [.d Za,.d Zn] [] false),
    xt 21 20 0,
    xt 22 20 1,
    ⟨none,.store (.d Za) (.t 6) (.t 21),none,[],[2]⟩,
    ⟨none,.store (.d Zn) (.t 7) (.t 22),none,[],[3]⟩]) (BIe)) (BId)
def BH5:Cd:=.seq (.seq (.seq (.reg false [ld 8 Z1 5,
    o_ 9 (.call (.f 21) [(.t 8)] [.d .bool] [] false),
    nt 10 9]) (BH8)) (BH7)) (BH6)
def Qe.fn:Fn:=⟨3,[.cell 6 (.d Za),.cell 7 (.d Zn)],.seq (.reg false [bx 3 0 0,
    bx 5 1 2,
    nb 6 2 Za,
    nb 7 3 Zn]) (BH5)⟩
def BJj:Cd:=.skip
def AYa:Cd:=.exit 0
def AX3:Cd:=td [15,16]
def AX5:Cd:=td [17,18,19,20,21,22,23,24,25]
def AX7:Cd:=td [26]
def AX8:Cd:=td [27,28,29,30]
def AX6:Cd:=.seq (.reg false [mv 27 6,
    ld 28 Zn 10,
    o_ 29 (.slice 5 Zn [(.t 28)]),
    o_ 30 (.append 6 Zn (.t 27) (.t 29)),
    mv 6 30]) (AX8)
def AX4:Cd:=.seq (.seq (.reg false [ld 26 Za 9,
    sr Za 2 26]) (AX7)) (AX6)
def AX2:Cd:=.seq (.seq (.reg false [ld 18 Za 2,
    fa 19 Of 0 8,
    ld 20 (.int .i64) 19,
    fa 21 Of 1 8,
    ld 22 Z1 21,
    o_ 23 (.call (.f 10) [(.t 18),(.t 20),(.t 22)] [.d Za,.d Zn] [] false),
    mv 17 23,
    xt 24 17 0,
    xt 25 17 1,
    nb 9 3 Za,
    nb 10 4 Zn,
    sr Za 9 24,
    sr Zn 10 25]) (AX5)) (AX4)
def AX9:Cd:=td [31]
def BJk:Cd:=.seq (.reg false [bc 31 .add 13 1,
    mv 13 31]) (AX9)
def BJi:Cd:=.seq (.block 1 (.seq (.seq (.reg false [ix 15 (.sl Of) 11 13,
    ld 16 Of 15,
    nb 8 2 Of,
    sr Of 8 16]) (AX3)) (AX2))) (BJk)
def BJh:Cd:=.seq (.cond (.t 14) (.seq (td [14]) (BJj)) (.seq (td [14]) (AYa))) (BJi)
def BJg:Cd:=.tidy [8,9,10] [(6,7)] [2,3,4,5] (some 8)
def BJf:Cd:=.seq (.seq (.reg false [bi 14 .lss 13 12]) (BJh)) (BJg)
def BJe:Cd:=.block 0 (.loop (BJf))
def AYc:Cd:=td [32,33]
def AYb:Cd:=.ret
def BJd:Cd:=.seq (.seq (.reg false [ld 32 Za 2,
    mv 33 6,
    sr Za 4 32,
    mv 5 33]) (AYc)) (AYb)
def BJc:Cd:=.seq (.seq (.reg false [mv 11 1,
    le 12 11,
    ci 13 0]) (BJe)) (BJd)
def BJb:Cd:=.seq (.reg false [o_ 6 (.mknil 7 Zn)]) (BJc)
def Wx.fn:Fn:=⟨2,[.cell 4 (.d Za),.tmp 5],.seq (.reg false [bx 2 0 0,
    nb 4 1 Za,
    o_ 5 (.move (.c (.sl Zn) []))]) (BJb)⟩
def BJw:Cd:=td [6,7,8,9]
def BJy:Cd:=.ret
def BJx:Cd:=.seq (.reg false [o_ 4 (.move (.c .bool false))]) (BJy)
def BJz:Cd:=.skip
def BJv:Cd:=.cond (.t 10) (.seq (td [10]) (BJx)) (.seq (td [10]) (BJz))
def AYg:Cd:=td [11,12,13]
def AYh:Cd:=.skip
def AYp:Cd:=.exit 0
def AYf:Cd:=.cond (.t 14) (.seq (td [14]) (AYh)) (.seq (td [14]) (AYp))
def AYk:Cd:=td [17,18,19,20,21,22,23,24]
def AYm:Cd:=.ret
def AYl:Cd:=.seq (.reg false [o_ 4 (.move (.c .bool false))]) (AYm)
def AYn:Cd:=.skip
def AYj:Cd:=.cond (.t 25) (.seq (td [25]) (AYl)) (.seq (td [25]) (AYn))
def AYo:Cd:=td [15,16]
def AYi:Cd:=.seq (.reg false [mv 15 5,
    bc 16 .add 15 1,
    mv 5 16]) (AYo)
def AYe:Cd:=.seq (.block 1 (.seq (.seq (.reg true [mv 17 0,
    mv 18 5,
    ix 19 (.sl (.int .i64)) 17 18,
    ld 20 (.int .i64) 19,
    mv 21 1,
    mv 22 5,
    ix 23 (.sl (.int .i64)) 21 22,
    ld 24 (.int .i64) 23,
    bi 25 .neq 20 24]) (AYk)) (AYj))) (AYi)
def AYd:Cd:=.tidy [] [] [] (some 0)
def AQt:Cd:=.seq (.seq (.seq (.seq (.reg false [mv 11 5,
    mv 12 0,
    le 13 12,
    bi 14 .lss 11 13]) (AYg)) (AYf)) (AYe)) (AYd)
def BJ0:Cd:=.block 0 (.loop (AQt))
def AYq:Cd:=.ret
def AQs:Cd:=.seq (.reg false [o_ 4 (.move (.c .bool true))]) (AYq)
def BJu:Cd:=.seq (.seq (.reg false [ci 5 0]) (BJ0)) (AQs)
def BJt:Cd:=.seq (.seq (.seq (.reg false [mv 6 0,
    le 7 6,
    mv 8 1,
    le 9 8,
    bi 10 .neq 7 9]) (BJw)) (BJv)) (BJu)
def Zq.fn:Fn:=⟨2,[.tmp 4],.seq (.reg false [o_ 4 (.move (.c .bool false))]) (BJt)⟩
def BKc:Cd:=td [6,7,8,9]
def BKe:Cd:=.ret
def BKd:Cd:=.seq (.reg false [o_ 4 (.move (.c .bool false))]) (BKe)
def BKf:Cd:=.skip
def BKb:Cd:=.cond (.t 10) (.seq (td [10]) (BKd)) (.seq (td [10]) (BKf))
def AY8:Cd:=td [11,12,13]
def AY9:Cd:=.skip
def AZh:Cd:=.exit 0
def AY7:Cd:=.cond (.t 14) (.seq (td [14]) (AY9)) (.seq (td [14]) (AZh))
def AZc:Cd:=td [17,18,19,20,21,22,23,24]
def AZe:Cd:=.ret
def AZd:Cd:=.seq (.reg false [o_ 4 (.move (.c .bool false))]) (AZe)
def AZf:Cd:=.skip
def AZb:Cd:=.cond (.t 25) (.seq (td [25]) (AZd)) (.seq (td [25]) (AZf))
def AZg:Cd:=td [15,16]
def AZa:Cd:=.seq (.reg false [mv 15 5,
    bc 16 .add 15 1,
    mv 5 16]) (AZg)
def AY6:Cd:=.seq (.block 1 (.seq (.seq (.reg true [mv 17 0,
    mv 18 5,
    ix 19 (.sl X7) 17 18,
    ld 20 X7 19,
    mv 21 1,
    mv 22 5,
    ix 23 (.sl X7) 21 22,
    ld 24 X7 23,
    o_ 25 (.eqs X7 true (.t 20) (.t 24))]) (AZc)) (AZb))) (AZa)
def AY5:Cd:=.tidy [] [] [] (some 0)
def AQx:Cd:=.seq (.seq (.seq (.seq (.reg false [mv 11 5,
    mv 12 0,
    le 13 12,
    bi 14 .lss 11 13]) (AY8)) (AY7)) (AY6)) (AY5)
def BKg:Cd:=.block 0 (.loop (AQx))
def AZi:Cd:=.ret
def AQw:Cd:=.seq (.reg false [o_ 4 (.move (.c .bool true))]) (AZi)
def BKa:Cd:=.seq (.seq (.reg false [ci 5 0]) (BKg)) (AQw)
def BJ9:Cd:=.seq (.seq (.seq (.reg false [mv 6 0,
    le 7 6,
    mv 8 1,
    le 9 8,
    bi 10 .neq 7 9]) (BKc)) (BKb)) (BKa)
def Zx.fn:Fn:=⟨2,[.tmp 4],.seq (.reg false [o_ 4 (.move (.c .bool false))]) (BJ9)⟩
def BIr:Cd:=td [5,6,7,8,9,10,11,12,13,14,15,16,17,18,19,20,21,22,23,24,25,26,27,28,29,30,31,32,33,34,35,36,37,38,39,40,41,42,43,44]
def BIq:Cd:=.ret
def BIp:Cd:=.seq (.seq (.reg false [fa 5 Zn 0 2,
    ld 6 (.int .i64) 5,
    fa 7 Zn 0 3,
    ld 8 (.int .i64) 7,
    bi 9 .eql 6 8,
    mv 10 9,
    og 11 (.fieldAddr (.d Zn) 1 (.t 2)) 10 true,
    og 12 (.load (.d (.int .i64)) (.t 11)) 10 true,
    og 13 (.fieldAddr (.d Zn) 1 (.t 3)) 10 true,
    og 14 (.load (.d (.int .i64)) (.t 13)) 10 true,
    og 15 (.bin .eql (.t 12) (.t 14)) 10 true,
    o_ 16 (.pick (.t 10) (.t 15) (.c .bool false)),
    mv 17 16,
    og 18 (.fieldAddr (.d Zn) 2 (.t 2)) 17 true,
    og 19 (.load (.d (.int .i64)) (.t 18)) 17 true,
    og 20 (.fieldAddr (.d Zn) 2 (.t 3)) 17 true,
    og 21 (.load (.d (.int .i64)) (.t 20)) 17 true,
    og 22 (.bin .eql (.t 19) (.t 21)) 17 true,
    o_ 23 (.pick (.t 17) (.t 22) (.c .bool false)),
    mv 24 23,
    og 25 (.fieldAddr (.d Zn) 5 (.t 2)) 24 true,
    og 26 (.load (.d (.int .i64)) (.t 25)) 24 true,
    og 27 (.fieldAddr (.d Zn) 5 (.t 3)) 24 true,
    og 28 (.load (.d (.int .i64)) (.t 27)) 24 true,
    og 29 (.bin .eql (.t 26) (.t 28)) 24 true,
    o_ 30 (.pick (.t 24) (.t 29) (.c .bool false)),
    mv 31 30,
    og 32 (.fieldAddr (.d Zn) 3 (.t 2)) 31 true,
    og 33 (.load (.d (.sl (.int .i64))) (.t 32)) 31 true,
    og 34 (.fieldAddr (.d Zn) 3 (.t 3)) 31 true,
    og 35 (.load (.d (.sl (.int .i64))) (.t 34)) 31 true,
    og 36 (.call (.f 33) [(.t 33),(.t 35)] [.d .bool] [] false) 31 true,
    o_ 37 (.pick (.t 31) (.t 36) (.c .bool false)),
    mv 38 37,
    og 39 (.fieldAddr (.d Zn) 4 (.t 2)) 38 true,
    og 40 (.load (.d (.sl X7)) (.t 39)) 38 true,
    og 41 (.fieldAddr (.d Zn) 4 (.t 3)) 38 true,
    og 42 (.load (.d (.sl X7)) (.t 41)) 38 true,
    og 43 (.call (.f 35) [(.t 40),(.t 42)] [.d .bool] [] false) 38 true,
    o_ 44 (.pick (.t 38) (.t 43) (.c .bool false)),
    mv 4 44]) (BIr)) (BIq)
def Xy.fn:Fn:=⟨2,[.tmp 4],.seq (.reg false [bx 2 0 0,
    bx 3 1 1,
    o_ 4 (.move (.c .bool false))]) (BIp)⟩
def BS1:Cd:=td [12,13,14,15,16,17,18,19,20]
def BS3:Cd:=td [21,22,23,24,25,26]
def BS5:Cd:=td [4,27,28,29,30,31,32]
def BS7:Cd:=td [33,34,35,36,37,38]
def BPa:Cd:=td [8,39,40,41,42,43,44]
def BPc:Cd:=td [10,45,46,47,48,49,50,51,52,53,54,55,56]
def BPf:Cd:=td [57,58]
def BPh:Cd:=.ret
def BPg:Cd:=.seq (.reg false [o_ 0 (.move (.c .bool false))]) (BPh)
def BPi:Cd:=.skip
def BPe:Cd:=.cond (.t 59) (.seq (td [59]) (BPg)) (.seq (td [59]) (BPi))
def BPk:Cd:=td [60,61,62,63,64,65,66,67,68,69,70,71,72,73,74,75,76,77,78,79,80,81,82,83,84,85,86,87,88,89,90,91,92,93,94,95,96,97,98,99]
def BPj:Cd:=.ret
def BPd:Cd:=.seq (.seq (.reg false [ld 60 Zn 3,
    o_ 61 (.build Zn [(1,(.c (.int .i64) (3:Int)))] []),
    o_ 62 (.call (.f 13) [(.t 60),(.t 61)] [.d .bool] [] false),
    mv 63 62,
    og 64 (.load (.d Zn) (.t 5)) 63 true,
    og 65 (.build Zn [(0,(.c (.int .i64) (5:Int)))] []) 63 true,
    og 66 (.call (.f 13) [(.t 64),(.t 65)] [.d .bool] [] false) 63 true,
    o_ 67 (.pick (.t 63) (.t 66) (.c .bool false)),
    mv 68 67,
    og 69 (.load (.d Zn) (.t 7)) 68 true,
    og 70 (.build Zn [(1,(.c (.int .i64) (2:Int))),(2,(.c (.int .i64) (1:Int)))] []) 68 true,
    og 71 (.call (.f 13) [(.t 69),(.t 70)] [.d .bool] [] false) 68 true,
    o_ 72 (.pick (.t 68) (.t 71) (.c .bool false)),
    mv 73 72,
    og 74 (.fieldAddr (.d Za) 1 (.t 6)) 73 true,
    og 75 (.load (.d (.sl (.int .i64))) (.t 74)) 73 true,
    og 76 (.index (.sl (.int .i64)) (.t 75) (.c (.int .i64) (0:Int))) 73 true,
    og 77 (.load (.d (.int .i64)) (.t 76)) 73 true,
    og 78 (.bin .eql (.t 77) (.c (.int .i64) (1:Int))) 73 true,
    o_ 79 (.pick (.t 73) (.t 78) (.c .bool false)),
    mv 80 79,
    og 81 (.load (.d Zn) (.t 9)) 80 true,
    og 82 (.build Zn [(0,(.c (.int .i64) (2:Int)))] []) 80 true,
    og 83 (.call (.f 13) [(.t 81),(.t 82)] [.d .bool] [] false) 80 true,
    o_ 84 (.pick (.t 80) (.t 83) (.c .bool false)),
    mv 85 84,
    og 86 (.move (.t 11)) 85 true,
    og 87 (.index (.sl Zn) (.t 86) (.c (.int .i64) (2:Int))) 85 true,
    og 88 (.fieldAddr (.d Zn) 4 (.t 87)) 85 true,
    og 89 (.load (.d (.sl X7)) (.t 88)) 85 true,
    og 90 (.len (.t 89)) 85 true,
    og 91 (.bin .eql (.t 90) (.c (.int .i64) (2:Int))) 85 true,
    o_ 92 (.pick (.t 85) (.t 91) (.c .bool false)),
    mv 93 92,
    og 94 (.move (.t 11)) 93 true,
    og 95 (.index (.sl Zn) (.t 94) (.c (.int .i64) (1:Int))) 93 true,
    og 96 (.fieldAddr (.d Zn) 1 (.t 95)) 93 true,
    og 97 (.load (.d (.int .i64)) (.t 96)) 93 true,
    og 98 (.bin .eql (.t 97) (.c (.int .i64) (5:Int))) 93 true,
    o_ 99 (.pick (.t 93) (.t 98) (.c .bool false)),
    mv 0 99]) (BPk)) (BPj)
def BPb:Cd:=.seq (.seq (.seq (.reg false [mv 57 11,
    le 58 57,
    bc 59 .neq 58 3]) (BPf)) (BPe)) (BPd)
def BS8:Cd:=.seq (.seq (.reg false [ld 46 Za 1,
    o_ 47 (.build Z1 [(0,(.c (.int .i64) (3:Int))),(2,(.c (.int .i64) (1:Int)))] []),
    o_ 48 (.build Of [(1,(.t 47))] []),
    o_ 49 (.build Z1 [(0,(.c (.int .i64) (5:Int))),(2,(.c (.int .i64) (1:Int)))] []),
    o_ 50 (.build Of [(1,(.t 49))] []),
    o_ 51 (.build Z1 [(0,(.c (.int .i64) (9:Int)))] []),
    o_ 52 (.build Of [(0,(.c (.int .i64) (1:Int))),(1,(.t 51))] []),
    o_ 53 (.slice 14 Of [(.t 48),(.t 50),(.t 52)]),
    o_ 54 (.call (.f 19) [(.t 46),(.t 53)] [.d Za,.d (.sl Zn)] [] false),
    mv 45 54,
    xt 55 45 0,
    xt 56 45 1,
    nb 10 15 Za,
    sr Za 10 55,
    mv 11 56]) (BPc)) (BPb)
def BS6:Cd:=.seq (.seq (.reg false [ld 40 Za 2,
    o_ 41 (.build Z1 [(0,(.c (.int .i64) (9:Int))),(2,(.c (.int .i64) (1:Int)))] []),
    o_ 42 (.call (.f 10) [(.t 40),(.c (.int .i64) (0:Int)),(.t 41)] [.d Za,.d Zn] [] false),
    mv 39 42,
    xt 43 39 0,
    xt 44 39 1,
    nb 8 12 Za,
    nb 9 13 Zn,
    sr Za 8 43,
    sr Zn 9 44]) (BPa)) (BS8)
def BS4:Cd:=.seq (.seq (.reg false [ld 34 Za 2,
    o_ 35 (.build Z1 [(0,(.c (.int .i64) (2:Int))),(4,(.c (.int .i64) (0:Int)))] []),
    o_ 36 (.call (.f 10) [(.t 34),(.c (.int .i64) (1:Int)),(.t 35)] [.d Za,.d Zn] [] false),
    mv 33 36,
    xt 37 33 0,
    xt 38 33 1,
    nb 6 10 Za,
    nb 7 11 Zn,
    sr Za 6 37,
    sr Zn 7 38]) (BS7)) (BS6)
def BS2:Cd:=.seq (.seq (.reg false [ld 28 Za 2,
    o_ 29 (.build Z1 [(0,(.c (.int .i64) (3:Int))),(2,(.c (.int .i64) (1:Int)))] []),
    o_ 30 (.call (.f 10) [(.t 28),(.c (.int .i64) (1:Int)),(.t 29)] [.d Za,.d Zn] [] false),
    mv 27 30,
    xt 31 27 0,
    xt 32 27 1,
    nb 4 8 Za,
    nb 5 9 Zn,
    sr Za 4 31,
    sr Zn 5 32]) (BS5)) (BS4)
def BS0:Cd:=.seq (.seq (.reg false [ld 22 Za 1,
    o_ 23 (.build Z1 [(0,(.c (.int .i64) (3:Int))),(2,(.c (.int .i64) (1:Int)))] []),
    o_ 24 (.call (.f 10) [(.t 22),(.c (.int .i64) (0:Int)),(.t 23)] [.d Za,.d Zn] [] false),
    mv 21 24,
    xt 25 21 0,
    xt 26 21 1,
    nb 2 6 Za,
    nb 3 7 Zn,
    sr Za 2 25,
    sr Zn 3 26]) (BS3)) (BS2)
def BSz:Cd:=.seq (.seq (.reg false [o_ 12 (.build (.arr 4 (.int .i64)) [(0,(.c (.int .i64) (1:Int))),(1,(.c (.int .i64) ((-1):Int))),(2,(.c (.int .i64) ((-1):Int))),(3,(.c (.int .i64) ((-1):Int)))] []),
    o_ 13 (.build (.arr 4 (.int .i64)) [(0,(.c (.int .i64) ((-1):Int))),(1,(.c (.int .i64) ((-1):Int))),(2,(.c (.int .i64) (0:Int))),(3,(.c (.int .i64) ((-1):Int)))] []),
    o_ 14 (.slice 0 (.arr 4 (.int .i64)) [(.t 12),(.t 13)]),
    o_ 15 (.slice 1 (.int .i64) [(.c (.int .i64) (0:Int)),(.c (.int .i64) (0:Int))]),
    o_ 16 (.slice 2 (.int .i64) [(.c (.int .i64) (5:Int)),(.c (.int .i64) (2:Int))]),
    o_ 17 (.slice 3 (.int .i64) [(.c (.int .i64) (0:Int)),(.c (.int .i64) (0:Int))]),
    o_ 18 (.slice 4 .bool [(.c .bool true),(.c .bool false)]),
    o_ 19 (.build Zu [(0,(.t 14)),(1,(.t 15)),(2,(.t 16)),(3,(.t 17)),(4,(.t 18)),(5,(.c (.int .i64) (4:Int))),(6,(.c (.int .i64) (2:Int))),(7,(.c (.int .i64) (1:Int)))] []),
    o_ 20 (.call (.f 18) [(.t 19)] [.d Za] [] false),
    nb 1 5 Za,
    sr Za 1 20]) (BS1)) (BS0)
def Xd.fn:Fn:=⟨0,[.tmp 0],.seq (.reg false [o_ 0 (.move (.c .bool false))]) (BSz)⟩
def BJn:Cd:=td [4,5]
def BJp:Cd:=td [6,7,8,9,10,11,12,13,14,15,16,17,18,19,20,21,22,23,24,25,26,27,28,29,30,31,32,33,34,35,36,37,38,39,40,41,42,43,44,45,46,47,48,49,50,51]
def BJo:Cd:=.ret
def BJm:Cd:=.seq (.seq (.reg false [fa 6 Zu 0 3,
    o_ 7 (.load (.d (.sl (.arr 4 (.int .i64)))) (.t 6)),
    le 8 7,
    bc 9 .leq 8 20,
    mv 10 9,
    og 11 (.fieldAddr (.d Zu) 1 (.t 3)) 10 true,
    og 12 (.load (.d (.sl (.int .i64))) (.t 11)) 10 true,
    og 13 (.len (.t 12)) 10 true,
    og 14 (.bin .leq (.t 13) (.c (.int .i64) (20:Int))) 10 true,
    o_ 15 (.pick (.t 10) (.t 14) (.c .bool false)),
    mv 16 15,
    og 17 (.fieldAddr (.d Zu) 2 (.t 3)) 16 true,
    og 18 (.load (.d (.sl (.int .i64))) (.t 17)) 16 true,
    og 19 (.len (.t 18)) 16 true,
    og 20 (.bin .leq (.t 19) (.c (.int .i64) (20:Int))) 16 true,
    o_ 21 (.pick (.t 16) (.t 20) (.c .bool false)),
    mv 22 21,
    og 23 (.fieldAddr (.d Zu) 3 (.t 3)) 22 true,
    og 24 (.load (.d (.sl (.int .i64))) (.t 23)) 22 true,
    og 25 (.len (.t 24)) 22 true,
    og 26 (.bin .leq (.t 25) (.c (.int .i64) (40:Int))) 22 true,
    o_ 27 (.pick (.t 22) (.t 26) (.c .bool false)),
    mv 28 27,
    og 29 (.fieldAddr (.d Zu) 4 (.t 3)) 28 true,
    og 30 (.load (.d (.sl .bool)) (.t 29)) 28 true,
    og 31 (.len (.t 30)) 28 true,
    og 32 (.bin .leq (.t 31) (.c (.int .i64) (40:Int))) 28 true,
    o_ 33 (.pick (.t 28) (.t 32) (.c .bool false)),
    mv 34 33,
    og 35 (.fieldAddr (.d Za) 1 (.t 1)) 34 true,
    og 36 (.load (.d (.sl (.int .i64))) (.t 35)) 34 true,
    og 37 (.len (.t 36)) 34 true,
    og 38 (.bin .leq (.t 37) (.c (.int .i64) (40:Int))) 34 true,
    o_ 39 (.pick (.t 34) (.t 38) (.c .bool false)),
    mv 40 39,
    og 41 (.fieldAddr (.d Za) 2 (.t 1)) 40 true,
    og 42 (.load (.d (.sl (.int .i64))) (.t 41)) 40 true,
    og 43 (.len (.t 42)) 40 true,
    og 44 (.bin .leq (.t 43) (.c (.int .i64) (40:Int))) 40 true,
    o_ 45 (.pick (.t 40) (.t 44) (.c .bool false)),
    mv 46 45,
    og 47 (.fieldAddr (.d Za) 3 (.t 1)) 46 true,
    og 48 (.load (.d (.sl Zb)) (.t 47)) 46 true,
    og 49 (.len (.t 48)) 46 true,
    og 50 (.bin .leq (.t 49) (.c (.int .i64) (40:Int))) 46 true,
    o_ 51 (.pick (.t 46) (.t 50) (.c .bool false)),
    mv 2 51]) (BJp)) (BJo)
def BJl:Cd:=.seq (.seq (.reg false [fa 4 Za 0 1,
    ld 5 Zu 4,
    nb 3 1 Zu,
    sr Zu 3 5]) (BJn)) (BJm)
def X5.fn:Fn:=⟨1,[.tmp 2],.seq (.reg false [bx 1 0 0,
    o_ 2 (.move (.c .bool false))]) (BJl)⟩
def BKt:Cd:=td [5,6,7,8,9,10,11]
def BKs:Cd:=.ret
def BKr:Cd:=.seq (.seq (.reg false [mv 5 0,
    bc 6 .geq 5 0,
    mv 7 6,
    og 8 (.move (.t 0)) 7 true,
    og 9 (.move (.t 1)) 7 true,
    og 10 (.bin .lss (.t 8) (.t 9)) 7 true,
    o_ 11 (.pick (.t 7) (.t 10) (.c .bool false)),
    mv 4 11]) (BKt)) (BKs)
def Z5.fn:Fn:=⟨2,[.tmp 4],.seq (.reg false [o_ 4 (.move (.c .bool false))]) (BKr)⟩
def BKw:Cd:=td [3,4,5,6,7,8]
def BKv:Cd:=.ret
def BKu:Cd:=.seq (.seq (.reg false [mv 3 0,
    o_ 4 (.bin .leq (.c (.int .i64) (0:Int)) (.t 3)),
    mv 5 4,
    og 6 (.move (.t 0)) 5 true,
    og 7 (.bin .leq (.t 6) (.c (.int .i64) (1073741824:Int))) 5 true,
    o_ 8 (.pick (.t 5) (.t 7) (.c .bool false)),
    mv 2 8]) (BKw)) (BKv)
def Ya.fn:Fn:=⟨1,[.tmp 2],.seq (.reg false [o_ 2 (.move (.c .bool false))]) (BKu)⟩
def BKj:Cd:=td [10,11,12]
def BKm:Cd:=td [13,14,15,16,17,18,19,20,21,22,23,24,25,26,27,28,29,30,31,32,33,34,35,36,37,38,39,40,41,42,43,44,45,46,47,48,49,50,51,52,53]
def BKo:Cd:=.ret
def BKn:Cd:=.seq (.reg false [o_ 2 (.move (.c .bool false))]) (BKo)
def BKp:Cd:=.skip
def BKl:Cd:=.cond (.t 54) (.seq (td [54]) (BKn)) (.seq (td [54]) (BKp))
def AZk:Cd:=td [55,56,57,58,59,60,61,62,63,64,65,66,67,68,69]
def AZm:Cd:=.ret
def AZl:Cd:=.seq (.reg false [o_ 2 (.move (.c .bool false))]) (AZm)
def AZn:Cd:=.skip
def AZj:Cd:=.cond (.t 70) (.seq (td [70]) (AZl)) (.seq (td [70]) (AZn))
def AZr:Cd:=td [71,72]
def AZs:Cd:=.skip
def BAs:Cd:=.exit 0
def AZq:Cd:=.cond (.t 73) (.seq (td [73]) (AZs)) (.seq (td [73]) (BAs))
def AZx:Cd:=td [76]
def AZy:Cd:=.skip
def AZ6:Cd:=.exit 2
def AZw:Cd:=.cond (.t 77) (.seq (td [77]) (AZy)) (.seq (td [77]) (AZ6))
def AZ1:Cd:=td [80,81,82,83,84,85,86,87,88,89,90,91,92,93,94,95,96,97,98]
def AZ3:Cd:=.ret
def AZ2:Cd:=.seq (.reg false [o_ 2 (.move (.c .bool false))]) (AZ3)
def AZ4:Cd:=.skip
def AZ0:Cd:=.cond (.t 99) (.seq (td [99]) (AZ2)) (.seq (td [99]) (AZ4))
def AZ5:Cd:=td [78,79]
def AZz:Cd:=.seq (.reg false [mv 78 5,
    bc 79 .add 78 1,
    mv 5 79]) (AZ5)
def AZv:Cd:=.seq (.block 3 (.seq (.seq (.reg false [fa 80 Zu 0 1,
    o_ 81 (.load (.d (.sl (.arr 4 (.int .i64)))) (.t 80)),
    mv 82 4,
    mv 83 5,
    o_ 84 (.index (.sl (.arr 4 (.int .i64))) (.t 81) (.t 82)),
    o_ 85 (.index (.arr 4 (.int .i64)) (.t 84) (.t 83)),
    ld 86 (.int .i64) 85,
    o_ 87 (.bin .neq (.t 86) (.c (.int .i64) ((-1):Int))),
    mv 88 87,
    og 89 (.fieldAddr (.d Zu) 0 (.t 1)) 88 true,
    og 90 (.load (.d (.sl (.arr 4 (.int .i64)))) (.t 89)) 88 true,
    og 91 (.move (.t 4)) 88 true,
    og 92 (.move (.t 5)) 88 true,
    og 93 (.index (.sl (.arr 4 (.int .i64))) (.t 90) (.t 91)) 88 true,
    og 94 (.index (.arr 4 (.int .i64)) (.t 93) (.t 92)) 88 true,
    og 95 (.load (.d (.int .i64)) (.t 94)) 88 true,
    og 96 (.move (.t 3)) 88 true,
    og 97 (.call (.f 37) [(.t 95),(.t 96)] [.d .bool] [] false) 88 true,
    og 98 (.not (.t 97)) 88 true,
    o_ 99 (.pick (.t 88) (.t 98) (.c .bool false))]) (AZ1)) (AZ0))) (AZz)
def AZu:Cd:=.tidy [] [] [] (some 1)
def AJ7:Cd:=.seq (.seq (.seq (.seq (.reg false [mv 76 5,
    bc 77 .lss 76 4]) (AZx)) (AZw)) (AZv)) (AZu)
def AZt:Cd:=.block 2 (.loop (AJ7))
def BAc:Cd:=td [100,101,102,103]
def BAd:Cd:=.skip
def BAl:Cd:=.exit 4
def BAb:Cd:=.cond (.t 104) (.seq (td [104]) (BAd)) (.seq (td [104]) (BAl))
def BAg:Cd:=td [107,108,109,110,111,112]
def BAi:Cd:=td [114,115]
def BAh:Cd:=.seq (.reg false [mv 114 6,
    bc 115 .add 114 1,
    mv 6 115]) (BAi)
def BAk:Cd:=.skip
def BAf:Cd:=.cond (.t 113) (.seq (td [113]) (BAh)) (.seq (td [113]) (BAk))
def BAj:Cd:=td [105,106]
def BAe:Cd:=.seq (.reg false [mv 105 7,
    bc 106 .add 105 1,
    mv 7 106]) (BAj)
def BAa:Cd:=.seq (.block 5 (.seq (.seq (.reg false [fa 107 Zu 3 1,
    o_ 108 (.load (.d (.sl (.int .i64))) (.t 107)),
    mv 109 7,
    ix 110 (.sl (.int .i64)) 108 109,
    ld 111 (.int .i64) 110,
    mv 112 4,
    bi 113 .eql 111 112]) (BAg)) (BAf))) (BAe)
def AZ9:Cd:=.tidy [] [] [] (some 1)
def AJ9:Cd:=.seq (.seq (.seq (.seq (.reg false [mv 100 7,
    fa 101 Zu 3 1,
    o_ 102 (.load (.d (.sl (.int .i64))) (.t 101)),
    le 103 102,
    bi 104 .lss 100 103]) (BAc)) (BAb)) (BAa)) (AZ9)
def AZ8:Cd:=.block 4 (.loop (AJ9))
def BAn:Cd:=td [116,117,118]
def BAp:Cd:=.ret
def BAo:Cd:=.seq (.reg false [o_ 2 (.move (.c .bool false))]) (BAp)
def BAq:Cd:=.skip
def BAm:Cd:=.cond (.t 119) (.seq (td [119]) (BAo)) (.seq (td [119]) (BAq))
def AJ8:Cd:=.seq (.seq (.reg false [mv 116 6,
    fa 117 Zu 5 1,
    ld 118 (.int .i64) 117,
    bi 119 .gtr 116 118]) (BAn)) (BAm)
def AZ7:Cd:=.seq (.seq (.reg false [ci 7 0]) (AZ8)) (AJ8)
def AJ6:Cd:=.seq (.reg false [ci 6 0]) (AZ7)
def BAr:Cd:=td [74,75]
def Mu:Cd:=.seq (.reg false [mv 74 4,
    bc 75 .add 74 1,
    mv 4 75]) (BAr)
def AZp:Cd:=.seq (.block 1 (.seq (.seq (.reg false [ci 5 0]) (AZt)) (AJ6))) (Mu)
def Mt:Cd:=.tidy [5,6,7] [] [] (some 1)
def Or:Cd:=.seq (.seq (.seq (.seq (.reg false [mv 71 4,
    mv 72 3,
    bi 73 .lss 71 72]) (AZr)) (AZq)) (AZp)) (Mt)
def AZo:Cd:=.block 0 (.loop (Or))
def BAx:Cd:=td [120,121,122,123]
def BAy:Cd:=.skip
def BA6:Cd:=.exit 6
def BAw:Cd:=.cond (.t 124) (.seq (td [124]) (BAy)) (.seq (td [124]) (BA6))
def BA1:Cd:=td [127,128,129,130,131,132,133,134,135,136,137,138,139,140,141,142]
def BA3:Cd:=.ret
def BA2:Cd:=.seq (.reg false [o_ 2 (.move (.c .bool false))]) (BA3)
def BA4:Cd:=.skip
def BA0:Cd:=.cond (.t 143) (.seq (td [143]) (BA2)) (.seq (td [143]) (BA4))
def BA5:Cd:=td [125,126]
def BAz:Cd:=.seq (.reg false [mv 125 8,
    bc 126 .add 125 1,
    mv 8 126]) (BA5)
def BAv:Cd:=.seq (.block 7 (.seq (.seq (.reg false [fa 127 Zu 1 1,
    o_ 128 (.load (.d (.sl (.int .i64))) (.t 127)),
    mv 129 8,
    ix 130 (.sl (.int .i64)) 128 129,
    ld 131 (.int .i64) 130,
    mv 132 3,
    o_ 133 (.call (.f 37) [(.t 131),(.t 132)] [.d .bool] [] false),
    nt 134 133,
    mv 135 134,
    og 136 (.fieldAddr (.d Zu) 2 (.t 1)) 135 false,
    og 137 (.load (.d (.sl (.int .i64))) (.t 136)) 135 false,
    og 138 (.move (.t 8)) 135 false,
    og 139 (.index (.sl (.int .i64)) (.t 137) (.t 138)) 135 false,
    og 140 (.load (.d (.int .i64)) (.t 139)) 135 false,
    og 141 (.call (.f 38) [(.t 140)] [.d .bool] [] false) 135 false,
    og 142 (.not (.t 141)) 135 false,
    o_ 143 (.pick (.t 135) (.c .bool true) (.t 142))]) (BA1)) (BA0))) (BAz)
def BAu:Cd:=.tidy [] [] [] (some 1)
def AKb:Cd:=.seq (.seq (.seq (.seq (.reg false [mv 120 8,
    fa 121 Zu 1 1,
    o_ 122 (.load (.d (.sl (.int .i64))) (.t 121)),
    le 123 122,
    bi 124 .lss 120 123]) (BAx)) (BAw)) (BAv)) (BAu)
def BAt:Cd:=.block 6 (.loop (AKb))
def BBb:Cd:=td [144,145,146,147]
def BBc:Cd:=.skip
def BBk:Cd:=.exit 8
def BBa:Cd:=.cond (.t 148) (.seq (td [148]) (BBc)) (.seq (td [148]) (BBk))
def BBf:Cd:=td [151,152,153,154,155,156,157]
def BBh:Cd:=.ret
def BBg:Cd:=.seq (.reg false [o_ 2 (.move (.c .bool false))]) (BBh)
def BBi:Cd:=.skip
def BBe:Cd:=.cond (.t 158) (.seq (td [158]) (BBg)) (.seq (td [158]) (BBi))
def BBj:Cd:=td [149,150]
def BBd:Cd:=.seq (.reg false [mv 149 9,
    bc 150 .add 149 1,
    mv 9 150]) (BBj)
def BA9:Cd:=.seq (.block 9 (.seq (.seq (.reg false [fa 151 Zu 3 1,
    o_ 152 (.load (.d (.sl (.int .i64))) (.t 151)),
    mv 153 9,
    ix 154 (.sl (.int .i64)) 152 153,
    ld 155 (.int .i64) 154,
    mv 156 3,
    o_ 157 (.call (.f 37) [(.t 155),(.t 156)] [.d .bool] [] false),
    nt 158 157]) (BBf)) (BBe))) (BBd)
def BA8:Cd:=.tidy [] [] [] (some 1)
def AKd:Cd:=.seq (.seq (.seq (.seq (.reg false [mv 144 9,
    fa 145 Zu 3 1,
    o_ 146 (.load (.d (.sl (.int .i64))) (.t 145)),
    le 147 146,
    bi 148 .lss 144 147]) (BBb)) (BBa)) (BA9)) (BA8)
def BA7:Cd:=.block 8 (.loop (AKd))
def BBl:Cd:=.ret
def AKc:Cd:=.seq (.reg false [o_ 2 (.move (.c .bool true))]) (BBl)
def AKa:Cd:=.seq (.seq (.reg false [ci 9 0]) (BA7)) (AKc)
def Vi:Cd:=.seq (.seq (.reg false [ci 8 0]) (BAt)) (AKa)
def BKq:Cd:=.seq (.seq (.reg false [ci 4 0]) (AZo)) (Vi)
def BKk:Cd:=.seq (.seq (.seq (.reg false [fa 55 Zu 5 1,
    ld 56 (.int .i64) 55,
    o_ 57 (.call (.f 37) [(.t 56),(.c (.int .i64) (65:Int))] [.d .bool] [] false),
    nt 58 57,
    mv 59 58,
    og 60 (.fieldAddr (.d Zu) 6 (.t 1)) 59 false,
    og 61 (.load (.d (.int .i64)) (.t 60)) 59 false,
    og 62 (.call (.f 37) [(.t 61),(.c (.int .i64) (65:Int))] [.d .bool] [] false) 59 false,
    og 63 (.not (.t 62)) 59 false,
    o_ 64 (.pick (.t 59) (.c .bool true) (.t 63)),
    mv 65 64,
    og 66 (.fieldAddr (.d Zu) 7 (.t 1)) 65 false,
    og 67 (.load (.d (.int .i64)) (.t 66)) 65 false,
    og 68 (.call (.f 37) [(.t 67),(.c (.int .i64) (65:Int))] [.d .bool] [] false) 65 false,
    og 69 (.not (.t 68)) 65 false,
    o_ 70 (.pick (.t 65) (.c .bool true) (.t 69))]) (AZk)) (AZj)) (BKq)
def BKi:Cd:=.seq (.seq (.seq (.reg false [mv 13 3,
    bc 14 .lss 13 1,
    mv 15 14,
    og 16 (.move (.t 3)) 15 false,
    og 17 (.bin .gtr (.t 16) (.c (.int .i64) (8:Int))) 15 false,
    o_ 18 (.pick (.t 15) (.c .bool true) (.t 17)),
    mv 19 18,
    og 20 (.fieldAddr (.d Zu) 1 (.t 1)) 19 false,
    og 21 (.load (.d (.sl (.int .i64))) (.t 20)) 19 false,
    og 22 (.len (.t 21)) 19 false,
    og 23 (.bin .lss (.t 22) (.c (.int .i64) (1:Int))) 19 false,
    o_ 24 (.pick (.t 19) (.c .bool true) (.t 23)),
    mv 25 24,
    og 26 (.fieldAddr (.d Zu) 1 (.t 1)) 25 false,
    og 27 (.load (.d (.sl (.int .i64))) (.t 26)) 25 false,
    og 28 (.len (.t 27)) 25 false,
    og 29 (.bin .gtr (.t 28) (.c (.int .i64) (6:Int))) 25 false,
    o_ 30 (.pick (.t 25) (.c .bool true) (.t 29)),
    mv 31 30,
    og 32 (.fieldAddr (.d Zu) 2 (.t 1)) 31 false,
    og 33 (.load (.d (.sl (.int .i64))) (.t 32)) 31 false,
    og 34 (.len (.t 33)) 31 false,
    og 35 (.fieldAddr (.d Zu) 1 (.t 1)) 31 false,
    og 36 (.load (.d (.sl (.int .i64))) (.t 35)) 31 false,
    og 37 (.len (.t 36)) 31 false,
    og 38 (.bin .neq (.t 34) (.t 37)) 31 false,
    o_ 39 (.pick (.t 31) (.c .bool true) (.t 38)),
    mv 40 39,
    og 41 (.fieldAddr (.d Zu) 3 (.t 1)) 40 false,
    og 42 (.load (.d (.sl (.int .i64))) (.t 41)) 40 false,
    og 43 (.len (.t 42)) 40 false,
    og 44 (.bin .gtr (.t 43) (.c (.int .i64) (16:Int))) 40 false,
    o_ 45 (.pick (.t 40) (.c .bool true) (.t 44)),
    mv 46 45,
    og 47 (.fieldAddr (.d Zu) 4 (.t 1)) 46 false,
    og 48 (.load (.d (.sl .bool)) (.t 47)) 46 false,
    og 49 (.len (.t 48)) 46 false,
    og 50 (.fieldAddr (.d Zu) 3 (.t 1)) 46 false,
    og 51 (.load (.d (.sl (.int .i64))) (.t 50)) 46 false,
    og 52 (.len (.t 51)) 46 false,
    og 53 (.bin .neq (.t 49) (.t 52)) 46 false,
    o_ 54 (.pick (.t 46) (.c .bool true) (.t 53))]) (BKm)) (BKl)) (BKk)
def BKh:Cd:=.seq (.seq (.reg false [fa 10 Zu 0 1,
    o_ 11 (.load (.d (.sl (.arr 4 (.int .i64)))) (.t 10)),
    le 12 11,
    mv 3 12]) (BKj)) (BKi)
def Zc.fn:Fn:=⟨1,[.tmp 2],.seq (.reg false [bx 1 0 0,
    o_ 2 (.move (.c .bool false))]) (BKh)⟩
def BK2:Cd:=td [6,7]
def BK3:Cd:=.skip
def BBu:Cd:=.exit 0
def BK1:Cd:=.cond (.t 8) (.seq (td [8]) (BK3)) (.seq (td [8]) (BBu))
def BBm:Cd:=td [9,10]
def BBp:Cd:=td [11]
def BBr:Cd:=.ret
def BBq:Cd:=.seq (.reg false [ci 4 99]) (BBr)
def BBs:Cd:=.skip
def BBo:Cd:=.cond (.t 12) (.seq (td [12]) (BBq)) (.seq (td [12]) (BBs))
def BBt:Cd:=td [13,14,15,16,17,18]
def BBn:Cd:=.seq (.reg false [fa 13 Za 3 2,
    ld 14 (.sl Zb) 13,
    fa 15 Zb 1 3,
    ld 16 (.int .i64) 15,
    ix 17 (.sl Zb) 14 16,
    ld 18 Zb 17,
    sr Zb 3 18]) (BBt)
def BK4:Cd:=.seq (.seq (.seq (.reg false [mv 11 5,
    bc 12 .gtr 11 50]) (BBp)) (BBo)) (BBn)
def BK0:Cd:=.block 1 (.seq (.seq (.reg false [mv 9 5,
    bc 10 .add 9 1,
    mv 5 10]) (BBm)) (BK4))
def BKz:Cd:=.tidy [] [] [] (some 2)
def AQz:Cd:=.seq (.seq (.seq (.seq (.reg false [fa 6 Zb 0 3,
    ld 7 (.int .i64) 6,
    bc 8 .eql 7 2]) (BK2)) (BK1)) (BK0)) (BKz)
def BBw:Cd:=td [19]
def BBv:Cd:=.ret
def AQy:Cd:=.seq (.seq (.reg false [mv 19 5,
    mv 4 19]) (BBw)) (BBv)
def BKy:Cd:=.seq (.block 0 (.loop (AQz))) (AQy)
def BKx:Cd:=.seq (.reg false [ci 5 0]) (BKy)
def Zy.fn:Fn:=⟨2,[.tmp 4],.seq (.reg false [bx 2 0 0,
    bx 3 1 1,
    ci 4 0]) (BKx)⟩
def BLb:Cd:=td [7,8,9,10]
def BLc:Cd:=.skip
def BB4:Cd:=.exit 0
def BLa:Cd:=.cond (.t 11) (.seq (td [11]) (BLc)) (.seq (td [11]) (BB4))
def BBz:Cd:=td [14,15,16,17,18,19]
def BB1:Cd:=td [21,22]
def BB0:Cd:=.seq (.reg false [mv 21 5,
    bc 22 .add 21 1,
    mv 5 22]) (BB1)
def BB3:Cd:=.skip
def BBy:Cd:=.cond (.t 20) (.seq (td [20]) (BB0)) (.seq (td [20]) (BB3))
def BB2:Cd:=td [12,13]
def BBx:Cd:=.seq (.reg false [mv 12 6,
    bc 13 .add 12 1,
    mv 6 13]) (BB2)
def BK9:Cd:=.seq (.block 1 (.seq (.seq (.reg true [od 14 (.fieldAddr (.d Za) 3 (.t 2)) [0] [],
    od 15 (.load (.d (.sl Zb)) (.t 14)) [0] [],
    mv 16 6,
    ix 17 (.sl Zb) 15 16,
    ld 18 Zb 17,
    od 19 (.load (.d Zb) (.t 3)) [1] [],
    o_ 20 (.eqs Zb false (.t 18) (.t 19))]) (BBz)) (BBy))) (BBx)
def BK8:Cd:=.tidy [] [] [] (some 2)
def AQ1:Cd:=.seq (.seq (.seq (.seq (.reg false [mv 7 6,
    fa 8 Za 3 2,
    ld 9 (.sl Zb) 8,
    le 10 9,
    bi 11 .lss 7 10]) (BLb)) (BLa)) (BK9)) (BK8)
def BK7:Cd:=.block 0 (.loop (AQ1))
def BB6:Cd:=td [23]
def BB5:Cd:=.ret
def AQ0:Cd:=.seq (.seq (.reg false [mv 23 5,
    mv 4 23]) (BB6)) (BB5)
def BK6:Cd:=.seq (.seq (.reg false [ci 6 0]) (BK7)) (AQ0)
def BK5:Cd:=.seq (.reg false [ci 5 0]) (BK6)
def Z0.fn:Fn:=⟨2,[.tmp 4],.seq (.reg false [bx 2 0 0,
    bx 3 1 1,
    ci 4 0]) (BK5)⟩
def BLf:Cd:=td [5,6,7,8,9,10,11,12,13,14,15,16,17,18]
def BLe:Cd:=.ret
def BLd:Cd:=.seq (.seq (.reg false [fa 5 Za 0 2,
    fa 6 Zu 5 5,
    ld 7 (.int .i64) 6,
    fa 8 Za 0 2,
    fa 9 Zu 6 8,
    ld 10 (.int .i64) 9,
    fa 11 Za 0 2,
    fa 12 Zu 7 11,
    ld 13 (.int .i64) 12,
    o_ 14 (.slice 2 (.int .i64) [(.t 7),(.t 10),(.t 13)]),
    fa 15 Zb 0 3,
    ld 16 (.int .i64) 15,
    ix 17 (.sl (.int .i64)) 14 16,
    ld 18 (.int .i64) 17,
    mv 4 18]) (BLf)) (BLe)
def Yb.fn:Fn:=⟨2,[.tmp 4],.seq (.reg false [bx 2 0 0,
    bx 3 1 1,
    ci 4 0]) (BLd)⟩
def BIu:Cd:=td [9,10]
def BIx:Cd:=td [11,12,13,14,15,16,17,18,19,20,21,22,23,24,25,26,27,28,29,30,31,32,33,34,35,36,37,38,39]
def BIz:Cd:=.ret
def BIy:Cd:=.seq (.reg false [o_ 2 (.move (.c .bool false))]) (BIz)
def BI0:Cd:=.skip
def BIw:Cd:=.cond (.t 40) (.seq (td [40]) (BIy)) (.seq (td [40]) (BI0))
def AWk:Cd:=td [41,42,43,44]
def AWl:Cd:=.skip
def AWt:Cd:=.exit 0
def AWj:Cd:=.cond (.t 45) (.seq (td [45]) (AWl)) (.seq (td [45]) (AWt))
def AWo:Cd:=td [48,49,50,51,52,53,54,55,56,57,58,59,60,61,62,63,64,65]
def AWq:Cd:=.ret
def AWp:Cd:=.seq (.reg false [o_ 2 (.move (.c .bool false))]) (AWq)
def AWr:Cd:=.skip
def AWn:Cd:=.cond (.t 66) (.seq (td [66]) (AWp)) (.seq (td [66]) (AWr))
def AWs:Cd:=td [46,47]
def AWm:Cd:=.seq (.reg false [mv 46 4,
    bc 47 .add 46 1,
    mv 4 47]) (AWs)
def AWi:Cd:=.seq (.block 1 (.seq (.seq (.reg true [od 48 (.fieldAddr (.d Za) 1 (.t 1)) [0] [],
    od 49 (.load (.d (.sl (.int .i64))) (.t 48)) [0] [],
    mv 50 4,
    ix 51 (.sl (.int .i64)) 49 50,
    ld 52 (.int .i64) 51,
    od 53 (.fieldAddr (.d Zu) 0 (.t 3)) [1] [],
    od 54 (.load (.d (.sl (.arr 4 (.int .i64)))) (.t 53)) [1] [],
    le 55 54,
    o_ 56 (.call (.f 37) [(.t 52),(.t 55)] [.d .bool] [] false),
    nt 57 56,
    mv 58 57,
    ogd 59 (.fieldAddr (.d Za) 2 (.t 1)) 58 false [0],
    ogd 60 (.load (.d (.sl (.int .i64))) (.t 59)) 58 false [0],
    og 61 (.move (.t 4)) 58 false,
    og 62 (.index (.sl (.int .i64)) (.t 60) (.t 61)) 58 false,
    og 63 (.load (.d (.int .i64)) (.t 62)) 58 false,
    og 64 (.call (.f 38) [(.t 63)] [.d .bool] [] false) 58 false,
    og 65 (.not (.t 64)) 58 false,
    o_ 66 (.pick (.t 58) (.c .bool true) (.t 65))]) (AWo)) (AWn))) (AWm)
def AWh:Cd:=.tidy [] [] [] (some 2)
def AJ1:Cd:=.seq (.seq (.seq (.seq (.reg false [mv 41 4,
    fa 42 Za 1 1,
    o_ 43 (.load (.d (.sl (.int .i64))) (.t 42)),
    le 44 43,
    bi 45 .lss 41 44]) (AWk)) (AWj)) (AWi)) (AWh)
def AWg:Cd:=.block 0 (.loop (AJ1))
def AWy:Cd:=td [67,68,69,70]
def AWz:Cd:=.skip
def AXb:Cd:=.exit 2
def AWx:Cd:=.cond (.t 71) (.seq (td [71]) (AWz)) (.seq (td [71]) (AXb))
def AW2:Cd:=td [74,75,76,77,78]
def AW4:Cd:=td [79,80,81,82,83,84,85,86,87,88,89,90,91,92,93,94,95,96,97,98,99,100,101,102,103,104,105,106,107,108,109,110,111,112,113,114,115,116,117,118,119,120,121,122,123]
def AW6:Cd:=td [124]
def AXa:Cd:=.ret
def AW9:Cd:=.seq (.reg false [o_ 2 (.move (.c .bool false))]) (AXa)
def AW7:Cd:=.skip
def AW5:Cd:=.cond (.t 125) (.seq (td [125]) (AW9)) (.seq (td [125]) (AW7))
def AW3:Cd:=.seq (.seq (.reg false [mv 124 7,
    nt 125 124]) (AW6)) (AW5)
def AW1:Cd:=.seq (.seq (.reg false [fa 79 Zb 0 6,
    ld 80 (.int .i64) 79,
    bc 81 .eql 80 0,
    mv 82 81,
    og 83 (.fieldAddr (.d Zb) 1 (.t 6)) 82 true,
    og 84 (.load (.d (.int .i64)) (.t 83)) 82 true,
    og 85 (.fieldAddr (.d Zu) 0 (.t 3)) 82 true,
    og 86 (.load (.d (.sl (.arr 4 (.int .i64)))) (.t 85)) 82 true,
    og 87 (.len (.t 86)) 82 true,
    og 88 (.call (.f 37) [(.t 84),(.t 87)] [.d .bool] [] false) 82 true,
    o_ 89 (.pick (.t 82) (.t 88) (.c .bool false)),
    mv 90 89,
    og 91 (.fieldAddr (.d Zb) 0 (.t 6)) 90 false,
    og 92 (.load (.d (.int .i64)) (.t 91)) 90 false,
    og 93 (.bin .eql (.t 92) (.c (.int .i64) (1:Int))) 90 false,
    og 94 (.move (.t 93)) 90 false,
    og 95 (.fieldAddr (.d Zb) 1 (.t 6)) 94 true,
    og 96 (.load (.d (.int .i64)) (.t 95)) 94 true,
    og 97 (.fieldAddr (.d Zu) 1 (.t 3)) 94 true,
    og 98 (.load (.d (.sl (.int .i64))) (.t 97)) 94 true,
    og 99 (.len (.t 98)) 94 true,
    og 100 (.call (.f 37) [(.t 96),(.t 99)] [.d .bool] [] false) 94 true,
    og 101 (.pick (.t 94) (.t 100) (.c .bool false)) 90 false,
    o_ 102 (.pick (.t 90) (.c .bool true) (.t 101)),
    mv 103 102,
    og 104 (.fieldAddr (.d Zb) 0 (.t 6)) 103 false,
    og 105 (.load (.d (.int .i64)) (.t 104)) 103 false,
    og 106 (.bin .eql (.t 105) (.c (.int .i64) (2:Int))) 103 false,
    og 107 (.move (.t 106)) 103 false,
    og 108 (.fieldAddr (.d Zb) 1 (.t 6)) 107 true,
    og 109 (.load (.d (.int .i64)) (.t 108)) 107 true,
    og 110 (.fieldAddr (.d Zu) 3 (.t 3)) 107 true,
    og 111 (.load (.d (.sl (.int .i64))) (.t 110)) 107 true,
    og 112 (.len (.t 111)) 107 true,
    og 113 (.call (.f 37) [(.t 109),(.t 112)] [.d .bool] [] false) 107 true,
    og 114 (.pick (.t 107) (.t 113) (.c .bool false)) 103 false,
    og 115 (.move (.t 114)) 103 false,
    og 116 (.fieldAddr (.d Zu) 4 (.t 3)) 115 true,
    og 117 (.load (.d (.sl .bool)) (.t 116)) 115 true,
    og 118 (.fieldAddr (.d Zb) 1 (.t 6)) 115 true,
    og 119 (.load (.d (.int .i64)) (.t 118)) 115 true,
    og 120 (.index (.sl .bool) (.t 117) (.t 119)) 115 true,
    og 121 (.load (.d .bool) (.t 120)) 115 true,
    og 122 (.pick (.t 115) (.t 121) (.c .bool false)) 103 false,
    o_ 123 (.pick (.t 103) (.c .bool true) (.t 122)),
    mv 7 123]) (AW4)) (AW3)
def AW8:Cd:=td [72,73]
def AW0:Cd:=.seq (.reg false [mv 72 5,
    bc 73 .add 72 1,
    mv 5 73]) (AW8)
def AWw:Cd:=.seq (.block 3 (.seq (.seq (.reg false [fa 74 Za 3 1,
    ld 75 (.sl Zb) 74,
    mv 76 5,
    ix 77 (.sl Zb) 75 76,
    ld 78 Zb 77,
    nb 6 2 Zb,
    sr Zb 6 78]) (AW2)) (AW1))) (AW0)
def AWv:Cd:=.tidy [6,7] [] [] (some 2)
def AJ3:Cd:=.seq (.seq (.seq (.seq (.reg false [mv 67 5,
    fa 68 Za 3 1,
    ld 69 (.sl Zb) 68,
    le 70 69,
    bi 71 .lss 67 70]) (AWy)) (AWx)) (AWw)) (AWv)
def AWu:Cd:=.block 2 (.loop (AJ3))
def AXg:Cd:=td [126,127,128,129]
def AXh:Cd:=.skip
def AXp:Cd:=.exit 4
def AXf:Cd:=.cond (.t 130) (.seq (td [130]) (AXh)) (.seq (td [130]) (AXp))
def AXk:Cd:=td [133,134,135,136,137,138,139,140,141,142,143,144,145,146,147,148,149,150,151,152,153,154,155,156]
def AXm:Cd:=.ret
def AXl:Cd:=.seq (.reg false [o_ 2 (.move (.c .bool false))]) (AXm)
def AXn:Cd:=.skip
def AXj:Cd:=.cond (.t 157) (.seq (td [157]) (AXl)) (.seq (td [157]) (AXn))
def AXo:Cd:=td [131,132]
def AXi:Cd:=.seq (.reg false [mv 131 8,
    bc 132 .add 131 1,
    mv 8 132]) (AXo)
def AXe:Cd:=.seq (.block 5 (.seq (.seq (.reg true [od 133 (.load (.d Za) (.t 1)) [0] [],
    od 134 (.fieldAddr (.d Za) 3 (.t 1)) [0] [],
    od 135 (.load (.d (.sl Zb)) (.t 134)) [0] [],
    mv 136 8,
    ix 137 (.sl Zb) 135 136,
    ld 138 Zb 137,
    o_ 139 (.call (.f 39) [(.t 133),(.t 138)] [.d (.int .i64)] [] false),
    bc 140 .gtr 139 4,
    mv 141 140,
    ogd 142 (.load (.d Za) (.t 1)) 141 false [0],
    ogd 143 (.fieldAddr (.d Za) 3 (.t 1)) 141 false [0],
    ogd 144 (.load (.d (.sl Zb)) (.t 143)) 141 false [0],
    og 145 (.move (.t 8)) 141 false,
    og 146 (.index (.sl Zb) (.t 144) (.t 145)) 141 false,
    og 147 (.load (.d Zb) (.t 146)) 141 false,
    og 148 (.call (.f 40) [(.t 142),(.t 147)] [.d (.int .i64)] [] false) 141 false,
    ogd 149 (.load (.d Za) (.t 1)) 141 false [0],
    ogd 150 (.fieldAddr (.d Za) 3 (.t 1)) 141 false [0],
    ogd 151 (.load (.d (.sl Zb)) (.t 150)) 141 false [0],
    og 152 (.move (.t 8)) 141 false,
    og 153 (.index (.sl Zb) (.t 151) (.t 152)) 141 false,
    og 154 (.load (.d Zb) (.t 153)) 141 false,
    og 155 (.call (.f 41) [(.t 149),(.t 154)] [.d (.int .i64)] [] false) 141 false,
    og 156 (.bin .gtr (.t 148) (.t 155)) 141 false,
    o_ 157 (.pick (.t 141) (.c .bool true) (.t 156))]) (AXk)) (AXj))) (AXi)
def AXd:Cd:=.tidy [] [] [] (some 2)
def AJ5:Cd:=.seq (.seq (.seq (.seq (.reg false [mv 126 8,
    fa 127 Za 3 1,
    ld 128 (.sl Zb) 127,
    le 129 128,
    bi 130 .lss 126 129]) (AXg)) (AXf)) (AXe)) (AXd)
def AXc:Cd:=.block 4 (.loop (AJ5))
def AXq:Cd:=.ret
def AJ4:Cd:=.seq (.reg false [o_ 2 (.move (.c .bool true))]) (AXq)
def AJ2:Cd:=.seq (.seq (.reg false [ci 8 0]) (AXc)) (AJ4)
def AQr:Cd:=.seq (.seq (.reg false [ci 5 0]) (AWu)) (AJ2)
def BIv:Cd:=.seq (.seq (.reg false [ci 4 0]) (AWg)) (AQr)
def BIt:Cd:=.seq (.seq (.seq (.reg false [ld 11 Zu 3,
    o_ 12 (.call (.f 36) [(.t 11)] [.d .bool] [] false),
    nt 13 12,
    mv 14 13,
    og 15 (.fieldAddr (.d Za) 1 (.t 1)) 14 false,
    og 16 (.load (.d (.sl (.int .i64))) (.t 15)) 14 false,
    og 17 (.len (.t 16)) 14 false,
    og 18 (.fieldAddr (.d Zu) 1 (.t 3)) 14 false,
    og 19 (.load (.d (.sl (.int .i64))) (.t 18)) 14 false,
    og 20 (.len (.t 19)) 14 false,
    og 21 (.bin .neq (.t 17) (.t 20)) 14 false,
    o_ 22 (.pick (.t 14) (.c .bool true) (.t 21)),
    mv 23 22,
    og 24 (.fieldAddr (.d Za) 2 (.t 1)) 23 false,
    og 25 (.load (.d (.sl (.int .i64))) (.t 24)) 23 false,
    og 26 (.len (.t 25)) 23 false,
    og 27 (.fieldAddr (.d Zu) 1 (.t 3)) 23 false,
    og 28 (.load (.d (.sl (.int .i64))) (.t 27)) 23 false,
    og 29 (.len (.t 28)) 23 false,
    og 30 (.bin .neq (.t 26) (.t 29)) 23 false,
    o_ 31 (.pick (.t 23) (.c .bool true) (.t 30)),
    mv 32 31,
    og 33 (.fieldAddr (.d Za) 3 (.t 1)) 32 false,
    og 34 (.load (.d (.sl Zb)) (.t 33)) 32 false,
    og 35 (.len (.t 34)) 32 false,
    og 36 (.fieldAddr (.d Zu) 3 (.t 3)) 32 false,
    og 37 (.load (.d (.sl (.int .i64))) (.t 36)) 32 false,
    og 38 (.len (.t 37)) 32 false,
    og 39 (.bin .neq (.t 35) (.t 38)) 32 false,
    o_ 40 (.pick (.t 32) (.c .bool true) (.t 39))]) (BIx)) (BIw)) (BIv)
def BIs:Cd:=.seq (.seq (.reg false [fa 9 Za 0 1,
    ld 10 Zu 9,
    nb 3 1 Zu,
    sr Zu 3 10]) (BIu)) (BIt)
def Zf.fn:Fn:=⟨1,[.tmp 2],.seq (.reg false [bx 1 0 0,
    o_ 2 (.move (.c .bool false))]) (BIs)⟩
def BTb:Cd:=td [3,4,5,6,7,8]
def BTa:Cd:=.ret
def BS9:Cd:=.seq (.seq (.reg false [ld 3 Za 1,
    o_ 4 (.call (.f 20) [(.t 3)] [.d .bool] [] false),
    mv 5 4,
    og 6 (.load (.d Za) (.t 1)) 5 true,
    og 7 (.call (.f 14) [(.t 6)] [.d .bool] [] false) 5 true,
    o_ 8 (.pick (.t 5) (.t 7) (.c .bool false)),
    mv 2 8]) (BTb)) (BTa)
def X6.fn:Fn:=⟨1,[.tmp 2],.seq (.reg false [bx 1 0 0,
    o_ 2 (.move (.c .bool false))]) (BS9)⟩
def BTe:Cd:=td [3,4,5,6,7,8,9,10,11,12]
def BTd:Cd:=.ret
def BTc:Cd:=.seq (.seq (.reg false [fa 3 Z1 5 1,
    o_ 4 (.load (.d (.sl (.int .i64))) (.t 3)),
    le 5 4,
    bc 6 .leq 5 40,
    mv 7 6,
    og 8 (.fieldAddr (.d Z1) 7 (.t 1)) 7 true,
    og 9 (.load (.d (.sl (.int .i64))) (.t 8)) 7 true,
    og 10 (.len (.t 9)) 7 true,
    og 11 (.bin .leq (.t 10) (.c (.int .i64) (40:Int))) 7 true,
    o_ 12 (.pick (.t 7) (.t 11) (.c .bool false)),
    mv 2 12]) (BTe)) (BTd)
def X4.fn:Fn:=⟨1,[.tmp 2],.seq (.reg false [bx 1 0 0,
    o_ 2 (.move (.c .bool false))]) (BTc)⟩
def BJ4:Cd:=td [6,7,8,9]
def BJ6:Cd:=.ret
def BJ5:Cd:=.seq (.reg false [o_ 4 (.move (.c .bool false))]) (BJ6)
def BJ7:Cd:=.skip
def BJ3:Cd:=.cond (.t 10) (.seq (td [10]) (BJ5)) (.seq (td [10]) (BJ7))
def AYu:Cd:=td [11,12,13]
def AYv:Cd:=.skip
def AY3:Cd:=.exit 0
def AYt:Cd:=.cond (.t 14) (.seq (td [14]) (AYv)) (.seq (td [14]) (AY3))
def AYy:Cd:=td [17,18,19,20,21,22,23,24]
def AY0:Cd:=.ret
def AYz:Cd:=.seq (.reg false [o_ 4 (.move (.c .bool false))]) (AY0)
def AY1:Cd:=.skip
def AYx:Cd:=.cond (.t 25) (.seq (td [25]) (AYz)) (.seq (td [25]) (AY1))
def AY2:Cd:=td [15,16]
def AYw:Cd:=.seq (.reg false [mv 15 5,
    bc 16 .add 15 1,
    mv 5 16]) (AY2)
def AYs:Cd:=.seq (.block 1 (.seq (.seq (.reg true [mv 17 0,
    mv 18 5,
    ix 19 (.sl Zb) 17 18,
    ld 20 Zb 19,
    mv 21 1,
    mv 22 5,
    ix 23 (.sl Zb) 21 22,
    ld 24 Zb 23,
    o_ 25 (.eqs Zb true (.t 20) (.t 24))]) (AYy)) (AYx))) (AYw)
def AYr:Cd:=.tidy [] [] [] (some 0)
def AQv:Cd:=.seq (.seq (.seq (.seq (.reg false [mv 11 5,
    mv 12 0,
    le 13 12,
    bi 14 .lss 11 13]) (AYu)) (AYt)) (AYs)) (AYr)
def BJ8:Cd:=.block 0 (.loop (AQv))
def AY4:Cd:=.ret
def AQu:Cd:=.seq (.reg false [o_ 4 (.move (.c .bool true))]) (AY4)
def BJ2:Cd:=.seq (.seq (.reg false [ci 5 0]) (BJ8)) (AQu)
def BJ1:Cd:=.seq (.seq (.seq (.reg false [mv 6 0,
    le 7 6,
    mv 8 1,
    le 9 8,
    bi 10 .neq 7 9]) (BJ4)) (BJ3)) (BJ2)
def Zs.fn:Fn:=⟨2,[.tmp 4],.seq (.reg false [o_ 4 (.move (.c .bool false))]) (BJ1)⟩
def BIh:Cd:=td [9,10]
def BIj:Cd:=td [11,12]
def BIm:Cd:=td [13,14,15,16,17,18,19,20,21,22,23,24,25,26,27,28,29,30,31,32,33,34,35,36,37,38,39,40,41,42,43,44,45,46,47,48]
def BIo:Cd:=.ret
def BIn:Cd:=.seq (.reg false [o_ 4 (.move (.c .bool false))]) (BIo)
def AU2:Cd:=.skip
def BIl:Cd:=.cond (.t 49) (.seq (td [49]) (BIn)) (.seq (td [49]) (AU2))
def AU7:Cd:=td [50,51,52,53]
def AU8:Cd:=.skip
def AVg:Cd:=.exit 0
def AU6:Cd:=.cond (.t 54) (.seq (td [54]) (AU8)) (.seq (td [54]) (AVg))
def AVb:Cd:=td [57,58,59,60,61,62,63,64,65,66]
def AVd:Cd:=.ret
def AVc:Cd:=.seq (.reg false [o_ 4 (.move (.c .bool false))]) (AVd)
def AVe:Cd:=.skip
def AVa:Cd:=.cond (.t 67) (.seq (td [67]) (AVc)) (.seq (td [67]) (AVe))
def AVf:Cd:=td [55,56]
def AU9:Cd:=.seq (.reg false [mv 55 7,
    bc 56 .add 55 1,
    mv 7 56]) (AVf)
def AU5:Cd:=.seq (.block 1 (.seq (.seq (.reg true [od 57 (.fieldAddr (.d Zu) 0 (.t 5)) [2] [],
    od 58 (.load (.d (.sl (.arr 4 (.int .i64)))) (.t 57)) [2] [],
    mv 59 7,
    o_ 60 (.index (.sl (.arr 4 (.int .i64))) (.t 58) (.t 59)),
    o_ 61 (.load (.d (.arr 4 (.int .i64))) (.t 60)),
    od 62 (.fieldAddr (.d Zu) 0 (.t 6)) [3] [],
    od 63 (.load (.d (.sl (.arr 4 (.int .i64)))) (.t 62)) [3] [],
    mv 64 7,
    o_ 65 (.index (.sl (.arr 4 (.int .i64))) (.t 63) (.t 64)),
    o_ 66 (.load (.d (.arr 4 (.int .i64))) (.t 65)),
    o_ 67 (.eqs (.arr 4 (.int .i64)) true (.t 61) (.t 66))]) (AVb)) (AVa))) (AU9)
def AU4:Cd:=.tidy [] [] [] (some 4)
def AJw:Cd:=.seq (.seq (.seq (.seq (.reg false [mv 50 7,
    fa 51 Zu 0 5,
    o_ 52 (.load (.d (.sl (.arr 4 (.int .i64)))) (.t 51)),
    le 53 52,
    bi 54 .lss 50 53]) (AU7)) (AU6)) (AU5)) (AU4)
def AU3:Cd:=.block 0 (.loop (AJw))
def AVl:Cd:=td [68,69,70,71]
def AVm:Cd:=.skip
def AVu:Cd:=.exit 2
def AVk:Cd:=.cond (.t 72) (.seq (td [72]) (AVm)) (.seq (td [72]) (AVu))
def AVp:Cd:=td [75,76,77,78,79,80,81,82,83,84]
def AVr:Cd:=.ret
def AVq:Cd:=.seq (.reg false [o_ 4 (.move (.c .bool false))]) (AVr)
def AVs:Cd:=.skip
def AVo:Cd:=.cond (.t 85) (.seq (td [85]) (AVq)) (.seq (td [85]) (AVs))
def AVt:Cd:=td [73,74]
def AVn:Cd:=.seq (.reg false [mv 73 8,
    bc 74 .add 73 1,
    mv 8 74]) (AVt)
def AVj:Cd:=.seq (.block 3 (.seq (.seq (.reg true [od 75 (.fieldAddr (.d Zu) 4 (.t 5)) [2] [],
    od 76 (.load (.d (.sl .bool)) (.t 75)) [2] [],
    mv 77 8,
    ix 78 (.sl .bool) 76 77,
    ld 79 .bool 78,
    od 80 (.fieldAddr (.d Zu) 4 (.t 6)) [3] [],
    od 81 (.load (.d (.sl .bool)) (.t 80)) [3] [],
    mv 82 8,
    ix 83 (.sl .bool) 81 82,
    ld 84 .bool 83,
    o_ 85 (.eqs .bool true (.t 79) (.t 84))]) (AVp)) (AVo))) (AVn)
def AVi:Cd:=.tidy [] [] [] (some 4)
def AJy:Cd:=.seq (.seq (.seq (.seq (.reg false [mv 68 8,
    fa 69 Zu 4 5,
    ld 70 (.sl .bool) 69,
    le 71 70,
    bi 72 .lss 68 71]) (AVl)) (AVk)) (AVj)) (AVi)
def AVh:Cd:=.block 2 (.loop (AJy))
def AVw:Cd:=td [86,87,88,89,90,91,92,93,94,95,96,97,98,99,100,101,102,103,104,105,106,107,108,109,110,111,112,113,114,115,116,117,118,119,120,121,122,123,124,125]
def AVv:Cd:=.ret
def AJx:Cd:=.seq (.seq (.reg false [fa 86 Zu 1 5,
    o_ 87 (.load (.d (.sl (.int .i64))) (.t 86)),
    fa 88 Zu 1 6,
    o_ 89 (.load (.d (.sl (.int .i64))) (.t 88)),
    o_ 90 (.call (.f 33) [(.t 87),(.t 89)] [.d .bool] [] false),
    mv 91 90,
    og 92 (.fieldAddr (.d Zu) 2 (.t 5)) 91 true,
    og 93 (.load (.d (.sl (.int .i64))) (.t 92)) 91 true,
    og 94 (.fieldAddr (.d Zu) 2 (.t 6)) 91 true,
    og 95 (.load (.d (.sl (.int .i64))) (.t 94)) 91 true,
    og 96 (.call (.f 33) [(.t 93),(.t 95)] [.d .bool] [] false) 91 true,
    o_ 97 (.pick (.t 91) (.t 96) (.c .bool false)),
    mv 98 97,
    og 99 (.fieldAddr (.d Zu) 3 (.t 5)) 98 true,
    og 100 (.load (.d (.sl (.int .i64))) (.t 99)) 98 true,
    og 101 (.fieldAddr (.d Zu) 3 (.t 6)) 98 true,
    og 102 (.load (.d (.sl (.int .i64))) (.t 101)) 98 true,
    og 103 (.call (.f 33) [(.t 100),(.t 102)] [.d .bool] [] false) 98 true,
    o_ 104 (.pick (.t 98) (.t 103) (.c .bool false)),
    mv 105 104,
    og 106 (.fieldAddr (.d Za) 1 (.t 2)) 105 true,
    og 107 (.load (.d (.sl (.int .i64))) (.t 106)) 105 true,
    og 108 (.fieldAddr (.d Za) 1 (.t 3)) 105 true,
    og 109 (.load (.d (.sl (.int .i64))) (.t 108)) 105 true,
    og 110 (.call (.f 33) [(.t 107),(.t 109)] [.d .bool] [] false) 105 true,
    o_ 111 (.pick (.t 105) (.t 110) (.c .bool false)),
    mv 112 111,
    og 113 (.fieldAddr (.d Za) 2 (.t 2)) 112 true,
    og 114 (.load (.d (.sl (.int .i64))) (.t 113)) 112 true,
    og 115 (.fieldAddr (.d Za) 2 (.t 3)) 112 true,
    og 116 (.load (.d (.sl (.int .i64))) (.t 115)) 112 true,
    og 117 (.call (.f 33) [(.t 114),(.t 116)] [.d .bool] [] false) 112 true,
    o_ 118 (.pick (.t 112) (.t 117) (.c .bool false)),
    mv 119 118,
    og 120 (.fieldAddr (.d Za) 3 (.t 2)) 119 true,
    og 121 (.load (.d (.sl Zb)) (.t 120)) 119 true,
    og 122 (.fieldAddr (.d Za) 3 (.t 3)) 119 true,
    og 123 (.load (.d (.sl Zb)) (.t 122)) 119 true,
    og 124 (.call (.f 34) [(.t 121),(.t 123)] [.d .bool] [] false) 119 true,
    o_ 125 (.pick (.t 119) (.t 124) (.c .bool false)),
    mv 4 125]) (AVw)) (AVv)
def AJv:Cd:=.seq (.seq (.reg false [ci 8 0]) (AVh)) (AJx)
def BIk:Cd:=.seq (.seq (.reg false [ci 7 0]) (AU3)) (AJv)
def BIi:Cd:=.seq (.seq (.seq (.reg false [fa 13 Zu 5 5,
    ld 14 (.int .i64) 13,
    fa 15 Zu 5 6,
    ld 16 (.int .i64) 15,
    bi 17 .neq 14 16,
    mv 18 17,
    og 19 (.fieldAddr (.d Zu) 6 (.t 5)) 18 false,
    og 20 (.load (.d (.int .i64)) (.t 19)) 18 false,
    og 21 (.fieldAddr (.d Zu) 6 (.t 6)) 18 false,
    og 22 (.load (.d (.int .i64)) (.t 21)) 18 false,
    og 23 (.bin .neq (.t 20) (.t 22)) 18 false,
    o_ 24 (.pick (.t 18) (.c .bool true) (.t 23)),
    mv 25 24,
    og 26 (.fieldAddr (.d Zu) 7 (.t 5)) 25 false,
    og 27 (.load (.d (.int .i64)) (.t 26)) 25 false,
    og 28 (.fieldAddr (.d Zu) 7 (.t 6)) 25 false,
    og 29 (.load (.d (.int .i64)) (.t 28)) 25 false,
    og 30 (.bin .neq (.t 27) (.t 29)) 25 false,
    o_ 31 (.pick (.t 25) (.c .bool true) (.t 30)),
    mv 32 31,
    og 33 (.fieldAddr (.d Zu) 0 (.t 5)) 32 false,
    og 34 (.load (.d (.sl (.arr 4 (.int .i64)))) (.t 33)) 32 false,
    og 35 (.len (.t 34)) 32 false,
    og 36 (.fieldAddr (.d Zu) 0 (.t 6)) 32 false,
    og 37 (.load (.d (.sl (.arr 4 (.int .i64)))) (.t 36)) 32 false,
    og 38 (.len (.t 37)) 32 false,
    og 39 (.bin .neq (.t 35) (.t 38)) 32 false,
    o_ 40 (.pick (.t 32) (.c .bool true) (.t 39)),
    mv 41 40,
    og 42 (.fieldAddr (.d Zu) 4 (.t 5)) 41 false,
    og 43 (.load (.d (.sl .bool)) (.t 42)) 41 false,
    og 44 (.len (.t 43)) 41 false,
    og 45 (.fieldAddr (.d Zu) 4 (.t 6)) 41 false,
    og 46 (.load (.d (.sl .bool)) (.t 45)) 41 false,
    og 47 (.len (.t 46)) 41 false,
    og 48 (.bin .neq (.t 44) (.t 47)) 41 false,
    o_ 49 (.pick (.t 41) (.c .bool true) (.t 48))]) (BIm)) (BIl)) (BIk)
def BIg:Cd:=.seq (.seq (.reg false [fa 11 Za 0 3,
    ld 12 Zu 11,
    nb 6 3 Zu,
    sr Zu 6 12]) (BIj)) (BIi)
def BIf:Cd:=.seq (.seq (.reg false [fa 9 Za 0 2,
    ld 10 Zu 9,
    nb 5 2 Zu,
    sr Zu 5 10]) (BIh)) (BIg)
def Zk.fn:Fn:=⟨2,[.tmp 4],.seq (.reg false [bx 2 0 0,
    bx 3 1 1,
    o_ 4 (.move (.c .bool false))]) (BIf)⟩
def BSs:Cd:=td [21,22,23,24,25,26,27,28,29,30,31,32,33,34,35,36,37,38,39,40,41,42,43,44,45,46,47,48,49,50,51,52,53,54,55,56]
def BSv:Cd:=td [58]
def BSu:Cd:=.ret
def BSt:Cd:=.seq (.seq (.reg false [o_ 58 (.call (.f 7) [] [.d .bool] [] false),
    mv 10 58]) (BSv)) (BSu)
def BSw:Cd:=.skip
def BSr:Cd:=.cond (.t 57) (.seq (td [57]) (BSt)) (.seq (td [57]) (BSw))
def BSy:Cd:=td [59,60,61,62,63,64]
def BM0:Cd:=td [65,66,67,68,69,70]
def BM3:Cd:=td [71,72,73,74,75,76,77,78,79,80]
def BM5:Cd:=.ret
def BM4:Cd:=.seq (.reg false [o_ 10 (.move (.c .bool true))]) (BM5)
def BM6:Cd:=.skip
def BM2:Cd:=.cond (.t 81) (.seq (td [81]) (BM4)) (.seq (td [81]) (BM6))
def BM8:Cd:=td [82,83,84,85,86,87,88]
def BNa:Cd:=td [89,90,91,92,93,94,95]
def BNc:Cd:=td [96,97,98,99,100,101,102]
def BNe:Cd:=td [103,104,105,106,107,108,109]
def BNg:Cd:=td [110,111,112,113,114,115,116,117,118,119,120,121,122]
def BNf:Cd:=.ret
def BNd:Cd:=.seq (.seq (.reg false [ld 110 Zn 14,
    ld 111 Zn 20,
    o_ 112 (.call (.f 13) [(.t 110),(.t 111)] [.d .bool] [] false),
    mv 113 112,
    og 114 (.load (.d Zn) (.t 16)) 113 true,
    og 115 (.load (.d Zn) (.t 18)) 113 true,
    og 116 (.call (.f 13) [(.t 114),(.t 115)] [.d .bool] [] false) 113 true,
    o_ 117 (.pick (.t 113) (.t 116) (.c .bool false)),
    mv 118 117,
    og 119 (.load (.d Za) (.t 15)) 118 true,
    og 120 (.load (.d Za) (.t 19)) 118 true,
    og 121 (.call (.f 12) [(.t 119),(.t 120)] [.d .bool] [] false) 118 true,
    o_ 122 (.pick (.t 118) (.t 121) (.c .bool false)),
    mv 10 122]) (BNg)) (BNf)
def BNb:Cd:=.seq (.seq (.reg false [ld 104 Za 17,
    mv 105 11,
    ld 106 Z1 7,
    o_ 107 (.call (.f 10) [(.t 104),(.t 105),(.t 106)] [.d Za,.d Zn] [] false),
    mv 103 107,
    xt 108 103 0,
    xt 109 103 1,
    nb 19 9 Za,
    nb 20 10 Zn,
    sr Za 19 108,
    sr Zn 20 109]) (BNe)) (BNd)
def BM9:Cd:=.seq (.seq (.reg false [ld 97 Za 5,
    mv 98 12,
    ld 99 Z1 9,
    o_ 100 (.call (.f 10) [(.t 97),(.t 98),(.t 99)] [.d Za,.d Zn] [] false),
    mv 96 100,
    xt 101 96 0,
    xt 102 96 1,
    nb 17 7 Za,
    nb 18 8 Zn,
    sr Za 17 101,
    sr Zn 18 102]) (BNc)) (BNb)
def BM7:Cd:=.seq (.seq (.reg false [ld 90 Za 13,
    mv 91 12,
    ld 92 Z1 9,
    o_ 93 (.call (.f 10) [(.t 90),(.t 91),(.t 92)] [.d Za,.d Zn] [] false),
    mv 89 93,
    xt 94 89 0,
    xt 95 89 1,
    nb 15 5 Za,
    nb 16 6 Zn,
    sr Za 15 94,
    sr Zn 16 95]) (BNa)) (BM9)
def BM1:Cd:=.seq (.seq (.reg false [ld 83 Za 5,
    mv 84 11,
    ld 85 Z1 7,
    o_ 86 (.call (.f 10) [(.t 83),(.t 84),(.t 85)] [.d Za,.d Zn] [] false),
    mv 82 86,
    xt 87 82 0,
    xt 88 82 1,
    nb 13 3 Za,
    nb 14 4 Zn,
    sr Za 13 87,
    sr Zn 14 88]) (BM8)) (BM7)
def BMz:Cd:=.seq (.seq (.seq (.reg true [od 71 (.fieldAddr (.d Za) 1 (.t 5)) [0] [],
    od 72 (.load (.d (.sl (.int .i64))) (.t 71)) [0] [],
    mv 73 11,
    ix 74 (.sl (.int .i64)) 72 73,
    ld 75 (.int .i64) 74,
    od 76 (.fieldAddr (.d Za) 1 (.t 5)) [0] [],
    od 77 (.load (.d (.sl (.int .i64))) (.t 76)) [0] [],
    mv 78 12,
    ix 79 (.sl (.int .i64)) 77 78,
    ld 80 (.int .i64) 79,
    bi 81 .eql 75 80]) (BM3)) (BM2)) (BM1)
def BSx:Cd:=.seq (.seq (.reg false [mv 65 3,
    o_ 66 (.conv .i64 (.t 65)),
    fa 67 Za 1 5,
    o_ 68 (.load (.d (.sl (.int .i64))) (.t 67)),
    le 69 68,
    bi 70 .rem 66 69,
    mv 12 70]) (BM0)) (BMz)
def BSq:Cd:=.seq (.seq (.reg false [mv 59 1,
    o_ 60 (.conv .i64 (.t 59)),
    fa 61 Za 1 5,
    o_ 62 (.load (.d (.sl (.int .i64))) (.t 61)),
    le 63 62,
    bi 64 .rem 60 63,
    mv 11 64]) (BSy)) (BSx)
def BSp:Cd:=.seq (.seq (.seq (.reg false [o_ 21 (.call (.f 7) [] [.d .bool] [] false),
    nt 22 21,
    mv 23 22,
    og 24 (.load (.d Za) (.t 5)) 23 false,
    og 25 (.call (.f 8) [(.t 24)] [.d .bool] [] false) 23 false,
    og 26 (.not (.t 25)) 23 false,
    o_ 27 (.pick (.t 23) (.c .bool true) (.t 26)),
    mv 28 27,
    og 29 (.load (.d Z1) (.t 7)) 28 false,
    og 30 (.call (.f 9) [(.t 29)] [.d .bool] [] false) 28 false,
    og 31 (.not (.t 30)) 28 false,
    o_ 32 (.pick (.t 28) (.c .bool true) (.t 31)),
    mv 33 32,
    og 34 (.load (.d Z1) (.t 9)) 33 false,
    og 35 (.call (.f 9) [(.t 34)] [.d .bool] [] false) 33 false,
    og 36 (.not (.t 35)) 33 false,
    o_ 37 (.pick (.t 33) (.c .bool true) (.t 36)),
    mv 38 37,
    og 39 (.fieldAddr (.d Z1) 0 (.t 7)) 38 false,
    og 40 (.load (.d (.int .i64)) (.t 39)) 38 false,
    og 41 (.bin .lss (.t 40) (.c (.int .i64) (3:Int))) 38 false,
    o_ 42 (.pick (.t 38) (.c .bool true) (.t 41)),
    mv 43 42,
    og 44 (.fieldAddr (.d Z1) 0 (.t 7)) 43 false,
    og 45 (.load (.d (.int .i64)) (.t 44)) 43 false,
    og 46 (.bin .gtr (.t 45) (.c (.int .i64) (6:Int))) 43 false,
    o_ 47 (.pick (.t 43) (.c .bool true) (.t 46)),
    mv 48 47,
    og 49 (.fieldAddr (.d Z1) 0 (.t 9)) 48 false,
    og 50 (.load (.d (.int .i64)) (.t 49)) 48 false,
    og 51 (.bin .lss (.t 50) (.c (.int .i64) (3:Int))) 48 false,
    o_ 52 (.pick (.t 48) (.c .bool true) (.t 51)),
    mv 53 52,
    og 54 (.fieldAddr (.d Z1) 0 (.t 9)) 53 false,
    og 55 (.load (.d (.int .i64)) (.t 54)) 53 false,
    og 56 (.bin .gtr (.t 55) (.c (.int .i64) (6:Int))) 53 false,
    o_ 57 (.pick (.t 53) (.c .bool true) (.t 56))]) (BSs)) (BSr)) (BSq)
def Xq.fn:Fn:=⟨5,[.tmp 10],.seq (.reg false [bx 5 0 0,
    bx 7 1 2,
    bx 9 2 4,
    o_ 10 (.move (.c .bool false))]) (BSp)⟩
def BL7:Cd:=td [3]
def BL6:Cd:=.ret
def BL5:Cd:=.seq (.seq (.reg false [o_ 3 (.func 86 [(.t 1)]),
    mv 2 3]) (BL7)) (BL6)
def Ph.fn:Fn:=⟨1,[.tmp 2],.seq (.reg false [bx 1 0 0,
    o_ 2 (.move .nf)]) (BL5)⟩
def BMn:Cd:=td [3]
def BMm:Cd:=.ret
def BMl:Cd:=.seq (.seq (.reg false [o_ 3 (.func 91 [(.t 1)]),
    mv 2 3]) (BMn)) (BMm)
def Pi.fn:Fn:=⟨1,[.tmp 2],.seq (.reg false [bx 1 0 0,
    o_ 2 (.move .nf)]) (BMl)⟩
def BO1:Cd:=td [3]
def BO0:Cd:=.ret
def BOz:Cd:=.seq (.seq (.reg false [o_ 3 (.func 123 [(.t 1)]),
    mv 2 3]) (BO1)) (BO0)
def Tu.fn:Fn:=⟨1,[.tmp 2],.seq (.reg false [bx 1 0 0,
    o_ 2 (.move .nf)]) (BOz)⟩
def prog:FuncId→Option Fn
  | 5=>some Xq.fn
  | 7=>some Xd.fn
  | 8=>some X6.fn
  | 9=>some X4.fn
  | 10=>some Qe.fn
  | 12=>some Zk.fn
  | 13=>some Xy.fn
  | 14=>some Zf.fn
  | 18=>some Jq.fn
  | 19=>some Wx.fn
  | 20=>some X5.fn
  | 21=>some K0.fn
  | 33=>some Zq.fn
  | 34=>some Zs.fn
  | 35=>some Zx.fn
  | 36=>some Zc.fn
  | 37=>some Z5.fn
  | 38=>some Ya.fn
  | 39=>some Zy.fn
  | 40=>some Z0.fn
  | 41=>some Yb.fn
  | 45=>some K7.fn
  | 46=>some K8.fn
  | 47=>some Qb.fn
  | 48=>some Gh.fn
  | 49=>some Ka.fn
  | 50=>some Hx.fn
  | 51=>some Ph.fn
  | 52=>some Qf.fn
  | 53=>some V7.fn
  | 54=>some Qg.fn
  | 55=>some V8.fn
  | 56=>some Pi.fn
  | 57=>some Qh.fn
  | 58=>some K9.fn
  | 59=>some Qi.fn
  | 60=>some V5.fn
  | 61=>some Qj.fn
  | 62=>some V1.fn
  | 63=>some Qk.fn
  | 64=>some Vd.fn
  | 65=>some Ql.fn
  | 66=>some Ve.fn
  | 67=>some Z2.fn
  | 68=>some Tu.fn
  | 69=>some Vf.fn
  | 70=>some V6.fn
  | 81=>some Kl.fn
  | 82=>some Uf.fn
  | 83=>some Zl.fn
  | 84=>some Z6.fn
  | 85=>some V2.fn
  | 86=>some Qm.fn
  | 87=>some Yd.fn
  | 88=>some Vu.fn
  | 89=>some J1.fn
  | 90=>some Jh.fn
  | 91=>some Qn.fn
  | 92=>some Qx.fn
  | 93=>some Vn.fn
  | 94=>some Y1.fn
  | 95=>some Yy.fn
  | 96=>some Qv.fn
  | 97=>some Jb.fn
  | 98=>some Jp.fn
  | 99=>some Jc.fn
  | 100=>some Jd.fn
  | 102=>some Je.fn
  | 103=>some Q9.fn
  | 104=>some Xg.fn
  | 105=>some Jf.fn
  | 106=>some Qz.fn
  | 107=>some K2.fn
  | 108=>some Yh.fn
  | 109=>some Qo.fn
  | 110=>some Qp.fn
  | 111=>some Qq.fn
  | 112=>some Qr.fn
  | 113=>some Ko.fn
  | 114=>some Y4.fn
  | 115=>some Yp.fn
  | 117=>some Yv.fn
  | 118=>some Yj.fn
  | 119=>some Y3.fn
  | 120=>some Xi.fn
  | 121=>some V3.fn
  | 122=>some Ja.fn
  | 123=>some Y2.fn
  | 124=>some Z7.fn
  | 125=>some Xn.fn
  | 127=>some Zh.fn
  | 128=>some Qu.fn
  | 129=>some J6.fn
  | 130=>some Vq.fn
  | 131=>some H3.fn
  | 133=>some Yu.fn
  | 135=>some Hy.fn
  | _=>none
end Go.Proofs.YtpemapoblhleoaaGreatDoor.Ghost
